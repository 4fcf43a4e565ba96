/- maps: the law MapsApart. -/
import Derived.Test.YtmkmldpcoonepaaGMapsC
set_option linter.unusedVariables false
set_option linter.unusedSimpArgs false
namespace Go.Proofs.Ytmkmldpcoonepaa.PAll
open Go.RowKit Go.Shelf Go.Maps Go.Proofs.YtmkmldpcoonepaaW.PrintWords Go.Proofs.YtmkmldpcoonepaaW.PrintLast Go.Proofs.YtmkmldpcoonepaaW.PrintMore
set_option maxHeartbeats 8000000 in
set_option maxRecDepth 100000 in
theorem mapsApart_c (X : World) (A0 A1 : Option Addr) (c0 c1 : Nat) (key value : List Int) (hr0 : Kd.C (Kd.int .u8) X A0 key.length key) (hr1 : Kd.C (Kd.int .u8) X A1 value.length value) (hc0 : key.length ≤ c0) (hc1 : value.length ≤ c1)
    (hw0 : IsBytes key) (hw1 : IsBytes value) : Calls Try.prog 5 #[.slice A0 key.length c0, .slice A1 value.length c1] X fun e X' => e = .returned (.bool true) ∧ Below X.heap.size X X' := by
  have HR0 := Aside0.mk hr0
  have HR1 := Aside0.mk hr1
  have HC0 := Aside0.mk hc0
  have HC1 := Aside0.mk hc1
  clear hr0 hr1 hc0 hc1
  go_enter Try.func5, Try.ntmps5
  go_wp2_with fail
  refine (lm_mem X rfl).mono ?_
  rintro e w1 ⟨rfl, hm1, hb1⟩
  have HM1 := Aside0.mk hm1
  have HB1 := Aside0.mk hb1
  clear hm1 hb1
  go_wp2_with fail
  have hsz : (w1.alloc (.cells #[.string ⟨#[]⟩, .int .i64 key.length, .int .i64 value.length, .int .i64 2] 42)).heap.size = w1.heap.size + 1 := by simp
  rw [← hsz]
  have hx : (w1.alloc (.cells #[.string ⟨#[]⟩, .int .i64 key.length, .int .i64 value.length, .int .i64 2] 42)).heap[w1.heap.size]? = some (.cells ([.string ⟨#[]⟩, .int .i64 key.length, .int .i64 value.length, .int .i64 2] : List Value).toArray 42 (0, 0)) := heap_alloc_new w1 _
  have HM2 : Aside0 (Has (w1.alloc (.cells #[.string ⟨#[]⟩, .int .i64 key.length, .int .i64 value.length, .int .i64 2] 42)) (fun k => k < X.heap.size) (PM X.heap.size [])) := ⟨HM1.out.below (below_alloc (Below.refl _ _) _)⟩
  have HB2 : Aside0 (Below X.heap.size X (w1.alloc (.cells #[.string ⟨#[]⟩, .int .i64 key.length, .int .i64 value.length, .int .i64 2] 42))) := ⟨below_alloc HB1.out _⟩
  obtain ⟨W2, hW2⟩ : ∃ W, w1.alloc (.cells #[.string ⟨#[]⟩, .int .i64 key.length, .int .i64 value.length, .int .i64 2] 42) = W := ⟨_, rfl⟩
  rw [hW2] at hsz hx HM2 HB2 ⊢
  have hbl : w1.heap.size < W2.heap.size := by omega
  have HX2 := Aside0.mk hx
  have HBL := Aside0.mk hbl
  clear hW2 hsz hx hbl
  obtain ⟨g, hg⟩ : ∃ g, w1.heap.size = g := ⟨_, rfl⟩
  rw [hg] at HX2 HBL ⊢
  clear hg
  have HCELL : Aside0 (∀ w, Below W2.heap.size W2 w → w.cell? ⟨g, 0, none⟩ = some (.string ⟨#[]⟩) ∧ w.cell? ⟨g, 1, none⟩ = some (.int .i64 key.length) ∧ w.cell? ⟨g, 2, none⟩ = some (.int .i64 value.length) ∧ w.cell? ⟨g, 3, none⟩ = some (.int .i64 2)) := ⟨fun w hb => by
    have h := (hb.block g HBL.out).trans HX2.out
    exact ⟨(blk_cell h 0).trans rfl, (blk_cell h 1).trans rfl, (blk_cell h 2).trans rfl, (blk_cell h 3).trans rfl⟩⟩
  by_cases hs : sizesB ⟨⟨#[]⟩, key.length, value.length, 2⟩ = true
  · obtain ⟨⟨hk1, hk2⟩, ⟨hv1, hv2⟩, _⟩ := (sizes_iff _).1 hs
    dsimp only at hk1 hk2 hv1 hv2
    have HK1 := Aside0.mk (show 1 ≤ key.length by omega)
    have HK2 := Aside0.mk (show key.length ≤ 65536 by omega)
    have HV1 := Aside0.mk (show 1 ≤ value.length by omega)
    have HV2 := Aside0.mk (show value.length ≤ 256 by omega)
    have HV3 := Aside0.mk (show value.length ≤ 65536 by omega)
    clear hk1 hk2 hv1 hv2
    obtain ⟨f1, f2, f3⟩ := apart1 key value HV1.out HV2.out
    have F1 := Aside0.mk f1
    have F2 := Aside0.mk f2
    have F3 := Aside0.mk f3
    clear f1 f2 f3
    refine (check1_c W2 ⟨⟨#[]⟩, key.length, value.length, 2⟩ 0 (by rw [if_pos hs])).mono ?_
    rintro e w3 ⟨rfl, hb3⟩
    have HM3 := Aside0.mk (HM2.out.below hb3)
    have HB3 : Aside0 (Below X.heap.size X w3) := ⟨HB2.out.trans (hb3.mono HB2.out.size)⟩
    obtain ⟨q0, q1, q2, q3⟩ := HCELL.out w3 hb3
    have HSIZ := Aside0.mk hs
    clear hb3 hs HCELL
    go_wp2_with fail
    refine (new2_c w3 X.heap.size X.heap.size ⟨⟨#[]⟩, key.length, value.length, 2⟩ HM3.out HB3.out.size HSIZ.out).mono ?_
    rintro e w4 ⟨⟨t, rfl, hm4⟩, hb4⟩
    have HM4 : Aside0 (LM X.heap.size 0 w4 t X.heap.size (kS2 key.length value.length [] 0) []) := ⟨hm4⟩
    have HB4 : Aside0 (Below X.heap.size X w4) := ⟨HB3.out.trans (hb4.mono HB3.out.size)⟩
    have HK4 := Aside0.mk (Kd.C_below HR0.out HB4.out)
    clear hm4 hb4 q0 q1 q2 q3
    go_wp2_with (first
      | ((with_reducible refine gate_dst (N := 43) rfl ?_); refine Kd.R_lit (Kd.int .u8) _ 5 ?hg (N := 43) ?hd (xs := ([] : List Int)) (inner := []) (ok := fun _ => True) (okp := fun _ => True) ?hr ?hp (fun _ hk => hk) trivial (Below.refl _ _) (Nat.le_refl _) (by simp) ?_; (case hd => rfl); (case hg => rfl); (case hr => first | (go_simp; done) | (go_simp; rfl)); (case hp => exact (Reps.none _ _)); intro v5 w5 ho1 hb1 hg1 hnew1; clear hg1 hnew1; have HO5 := Aside0.mk ho1; have HB5 := Aside0.mk hb1; clear ho1 hb1)
      | ((with_reducible refine gate_builtin (b := .append) (xs := #[.tmp 43, .tmp 44]) rfl ?_); at_builtin; refine Kd.R_append_rows (Kd.int .u8) (w0 := w4) w4.heap.size rfl (.tmp 43) (.tmp 44) 46 5 (.int .u8 0) 1 rfl Try.underlying46 infoU8 rfl (by decide) (by omega) v5 [] key _ _ _ (fun _ => True) (fun _ => False) rfl rfl ?aO ?aR (fun _ _ h => h) (fun _ h => h.elim) ?aF ?aB ?aS ?aL ?_; (case aR => exact Kd.C_below HK4.out HB5.out); (case aB => exact HB5.out); (case aF => exact (fun _ _ => trivial)); (case aO => exact HO5.out); (case aS => exact HB5.out.size); (case aL => have h := HK2.out; simp only [List.length_nil]; omega); intro v6 w6 ho2 hb2 hg2 hat2; clear hg2 hat2; have HO6 := Aside0.mk ho2; have HB6 := Aside0.mk hb2; clear ho2 hb2)
      | ((with_reducible refine gate_dst (N := 46) rfl ?_); refine Kd.R_lit (Kd.int .u8) _ 5 ?hg (N := 46) ?hd (xs := ([] : List Int)) (inner := []) (ok := fun _ => True) (okp := fun _ => True) ?hr ?hp (fun _ hk => hk) trivial (Below.refl _ _) (Nat.le_refl _) (by simp) ?_; (case hd => rfl); (case hg => rfl); (case hr => first | (go_simp; done) | (go_simp; rfl)); (case hp => exact (Reps.none _ _)); intro v7 w7 ho1 hb1 hg1 hnew1; clear hg1 hnew1; have HO7 := Aside0.mk ho1; have HB7 := Aside0.mk hb1; clear ho1 hb1)
      | ((with_reducible refine gate_builtin (b := .append) (xs := #[.tmp 46, .tmp 47]) rfl ?_); at_builtin; refine Kd.R_append_rows (Kd.int .u8) (w0 := w6) w6.heap.size rfl (.tmp 46) (.tmp 47) 46 5 (.int .u8 0) 1 rfl Try.underlying46 infoU8 rfl (by decide) (by omega) v7 [] value _ _ _ (fun _ => True) (fun _ => False) rfl rfl ?aO ?aR (fun _ _ h => h) (fun _ h => h.elim) ?aF ?aB ?aS ?aL ?_; (case aR => exact Kd.C_below (Kd.C_below HR1.out (HB4.out.trans (HB6.out.mono HB4.out.size))) HB7.out); (case aB => exact HB7.out); (case aF => exact (fun _ _ => trivial)); (case aO => exact HO7.out); (case aS => exact HB7.out.size); (case aL => have h := HV3.out; simp only [List.length_nil]; omega); intro v8 w8 ho2 hb2 hg2 hat2; clear hg2 hat2; have HO8 := Aside0.mk ho2; have HB8 := Aside0.mk hb2; clear ho2 hb2)
      | fail)
    have HO6' : Aside0 (Kd.R (Kd.int .u8) 5 w6 w4.heap.size (fun _ => True) v6 key) := ⟨HO6.out⟩
    have HO8' : Aside0 (Kd.R (Kd.int .u8) 5 w8 w6.heap.size (fun _ => True) v8 value) := ⟨HO8.out⟩
    simp only [List.nil_append] at *
    obtain ⟨g6, cap6, rfl, hg61, hg62, _⟩ := Kd.R_form HO6'.out (show 0 < key.length from HK1.out)
    obtain ⟨g8, cap8, rfl, hg81, hg82, _⟩ := Kd.R_form HO8'.out (show 0 < value.length from HV1.out)
    have HB48 : Aside0 (Below w4.heap.size w4 w8) := ⟨HB6.out.trans (HB8.out.mono HB6.out.size)⟩
    have HBX8 : Aside0 (Below X.heap.size X w8) := ⟨HB4.out.trans (HB48.out.mono HB4.out.size)⟩
    obtain ⟨F, f1, f2, hmm⟩ := HM4.out.frame HB48.out
    have HM8 : Aside0 (LMF X.heap.size 0 F w8 t X.heap.size (kS2 key.length value.length [] 0) []) := ⟨HBX8.out.size, HM4.out.2.1, f1, hmm⟩
    have HF := Aside0.mk f1
    have h68 := HB8.out.size
    have h46 := HB6.out.size
    have hX4 := HB4.out.size
    have HF6 : Aside0 (F g6 ∧ X.heap.size ≤ g6 ∧ g6 < w8.heap.size) := ⟨f2 g6 hg61 (Nat.lt_of_lt_of_le hg62 h68), Nat.le_trans hX4 hg61, Nat.lt_of_lt_of_le hg62 h68⟩
    have HF8 : Aside0 (F g8 ∧ X.heap.size ≤ g8 ∧ g8 < w8.heap.size) := ⟨f2 g8 (Nat.le_trans h46 hg81) hg82, Nat.le_trans hX4 (Nat.le_trans h46 hg81), hg82⟩
    have hne : g6 ≠ g8 := fun e => Nat.lt_irrefl _ (Nat.lt_of_lt_of_le (e ▸ hg62) hg81)
    have HNE := Aside0.mk hne
    have HY6 : Aside0 (ByteS w8 w4.heap.size (.slice (some ⟨g6, 0, none⟩) key.length cap6) key) := ⟨(byteS_R HO6'.out).below HB8.out⟩
    have HY8 : Aside0 (ByteS w8 w6.heap.size (.slice (some ⟨g8, 0, none⟩) value.length cap8) value) := ⟨byteS_R HO8'.out⟩
    have HCAP : Aside0 (value.length ≤ cap8) := ⟨(Kd.R_reads' HO8'.out).2.1⟩
    have HC6 : Aside0 (Kd.C (Kd.int .u8) w8 (some ⟨g6, 0, none⟩) key.length key) := ⟨Kd.C_below (Kd.R_reads' HO6'.out).2.2 HB8.out⟩
    have HC8 : Aside0 (Kd.C (Kd.int .u8) w8 (some ⟨g8, 0, none⟩) value.length value) := ⟨(Kd.R_reads' HO8'.out).2.2⟩
    clear f1 f2 hmm h68 h46 hX4 hg61 hg62 hg81 hg82 hne
    refine (lf_update w8 X.heap.size 0 F t X.heap.size _ _ 1 (some ⟨g6, 0, none⟩) (some ⟨g8, 0, none⟩) cap6 cap8 key value HM8.out (by decide) (by decide) HC6.out (fun ad e _ => by cases e; exact HF6.out.1) hw0 HK2.out HC8.out (fun ad e _ => by cases e; exact HF8.out.1) hw1 HCAP.out HV3.out _ _ _ F1.out F2.out F3.out).mono ?_
    rintro e w9 ⟨rfl, hm9, hq9⟩
    have HM9 := Aside0.mk hm9
    have HB9 : Aside0 (Below X.heap.size X w9) := ⟨HBX8.out.trans (hq9.below HBX8.out.size HF.out)⟩
    have HY69 : Aside0 (ByteS w9 w4.heap.size (.slice (some ⟨g6, 0, none⟩) key.length cap6) key) := ⟨HY6.out.keep (fun j hj hl => by cases hj; exact hq9.block hl HF6.out.1)⟩
    have HY89 : Aside0 (ByteS w9 w6.heap.size (.slice (some ⟨g8, 0, none⟩) value.length cap8) value) := ⟨HY8.out.keep (fun j hj hl => by cases hj; exact hq9.block hl HF8.out.1)⟩
    obtain ⟨hce6, hfr6⟩ := HY69.out.at_ 0 HK1.out
    obtain ⟨hce8, hfr8⟩ := HY89.out.at_ 0 HV1.out
    have HCE8 := Aside0.mk hce8
    have HFR8 := Aside0.mk hfr8
    have hk0 : (0 : Int) < (key.length : Int) := by have := HK1.out; omega
    have hv0 : (0 : Int) < (value.length : Int) := by have := HV1.out; omega
    have hvv : ∀ y, (w9.setCell ⟨g6, 0, none⟩ (.int .u8 y)).cell? ⟨g8, 0, none⟩ = some (.int .u8 (rd value 0)) := fun y => cell_keep HCE8.out (Below.heap_setCell w9 ⟨g6, 0, none⟩ _ g8 (fun e => HNE.out e.symm))
    have hvf : ∀ y, (w9.setCell ⟨g6, 0, none⟩ (.int .u8 y)).frozen? ⟨g8, 0, none⟩ = false := fun y => by
      have h1 := HFR8.out
      have h2 := Below.heap_setCell w9 ⟨g6, 0, none⟩ (.int .u8 y) g8 (fun e => HNE.out e.symm)
      unfold World.frozen? at h1 ⊢
      rw [h2]
      exact h1
    clear hce8 hfr8 hm9 hq9
    go_wp2_with fail
    have hB10 := HB9.out.setCell (p := ⟨g6, 0, none⟩) HF6.out.2.1 (.int .u8 ((rd key 0 + 1) % 256))
    have hB11 := hB10.setCell (p := ⟨g8, 0, none⟩) HF8.out.2.1 (.int .u8 ((rd value 0 + 1) % 256))
    have hM11 := (HM9.out.set (g := g6) (o := 0) (.int .u8 ((rd key 0 + 1) % 256)) HF6.out.1).set (g := g8) (o := 0) (.int .u8 ((rd value 0 + 1) % 256)) HF8.out.1
    obtain ⟨w11, hw11⟩ : ∃ w11, (w9.setCell ⟨g6, 0, none⟩ (.int .u8 ((rd key 0 + 1) % 256))).setCell ⟨g8, 0, none⟩ (.int .u8 ((rd value 0 + 1) % 256)) = w11 := ⟨_, rfl⟩
    rw [hw11] at hB11 hM11 ⊢
    have HB11 := Aside0.mk hB11
    have HM11 := Aside0.mk hM11
    clear hw11 hB10 hB11 hM11 hce6 hfr6 hk0 hv0 hvv hvf
    refine (lm_entries w11 X.heap.size _ t X.heap.size _ _ 1 HM11.out.lm (by decide) (Nat.le_trans (Nat.le_refl 1) (by decide)) _ (apart_ent1 key.length key value HV1.out)).mono ?_
    rintro e w12 ⟨⟨vR, vs, rfl, hR⟩, hb12⟩
    have HM12 := Aside0.mk (HM11.out.more hb12)
    have HB12 : Aside0 (Below X.heap.size X w12) := ⟨HB11.out.trans (hb12.mono HB11.out.size)⟩
    have HR12 := Aside0.mk hR
    have HS12 := Aside0.mk hb12.size
    obtain ⟨A12, c12, hv12, hc12, _⟩ := hR.C
    subst hv12
    have HC12 := Aside0.mk hc12
    clear hb12 hR hc12
    go_wp2_with fail
    refine (same21_c [⟨key, value⟩] (Nat.le_trans (Nat.le_refl 1) (by decide)) (fun e he => by rw [List.mem_singleton.1 he]; have h1 := HK2.out; have h2 := HV3.out; exact ⟨Nat.le_trans h1 (by decide), Nat.le_trans h2 (by decide)⟩) A12 (some ⟨w12.heap.size, 0, none⟩) c12 1 _ ?sc0 HC12.out ?sc1 (Nat.le_refl _)).mono ?_
    case sc0 =>
      obtain ⟨A, c, he, _, hC⟩ := (HR12.out.below (below_alloc (Below.refl _ _) (.cells #[.slice A0 key.length c0, .slice A1 value.length c1] 58))).C
      cases he
      exact hC
    case sc1 =>
      have hbb : Below X.heap.size X (w12.alloc (.cells #[.slice A0 key.length c0, .slice A1 value.length c1] 58)) := below_alloc HB12.out _
      exact ent_lit _ ⟨key, value⟩ w12.heap.size A0 A1 c0 c1 (heap_alloc_new w12 _) HC0.out (Kd.C_below HR0.out hbb) HC1.out (Kd.C_below HR1.out hbb)
    rintro e w13 ⟨rfl, k13, hk13⟩
    have hb13 : Below w12.heap.size w12 w13 := by rw [hk13]; exact pw_below_drewN (below_alloc (Below.refl _ _) _) _
    have HM13 := Aside0.mk (HM12.out.below hb13)
    have HB13 : Aside0 (Below X.heap.size X w13) := ⟨HB12.out.trans (hb13.mono HB12.out.size)⟩
    have HR13 := Aside0.mk (HR12.out.below hb13)
    have HB1213 := Aside0.mk hb13
    clear hb13 hk13
    obtain ⟨gr, gk, ck, gv, cv, hA, x0, x1, y0, y1, hkv, k1, k2, v1, v2⟩ := HR13.out.one HK1.out HV1.out
    subst hA
    obtain ⟨G, hG⟩ : ∃ G : Nat → Prop, (fun k => F k ∨ (w11.heap.size ≤ k ∧ k < w12.heap.size)) = G := ⟨_, rfl⟩
    have HGK : Aside0 (G gk ∧ G gv ∧ X.heap.size ≤ gk ∧ X.heap.size ≤ gv) := ⟨by
      obtain ⟨gr', gk', ck', gv', cv', hA', x0', x1', _, _, _, k1', k2', v1', v2'⟩ := HR12.out.one HK1.out HV1.out
      cases hA'
      have q0 := cell_keep x0' (HB1213.out.block gr (World.block_lt_of_cell? w12 _ x0'))
      have q1 := cell_keep x1' (HB1213.out.block gr (World.block_lt_of_cell? w12 _ x1'))
      rw [x0] at q0
      rw [x1] at q1
      cases q0
      cases q1
      rw [← hG]
      exact ⟨.inr ⟨k1', k2'⟩, .inr ⟨v1', v2'⟩, Nat.le_trans HB11.out.size k1', Nat.le_trans HB11.out.size v1'⟩⟩
    rw [hG] at HM13
    have HX0 := Aside0.mk x0
    have HX1 := Aside0.mk x1
    have HY0 := Aside0.mk y0
    have HY1 := Aside0.mk y1
    have HKV := Aside0.mk hkv
    have HK2' := Aside0.mk k2
    have HV2' := Aside0.mk v2
    have HGR := Aside0.mk (World.block_lt_of_cell? w13 _ x0)
    clear x0 x1 y0 y1 hkv k1 k2 v1 v2 hG HM12 HR12 HR13
    go_wp2_with fail
    go_loopw [75] (fun v75 w => ∃ b : Nat, b ≤ 1 ∧ v75 = .int .i64 b ∧ Aside0 (LMF X.heap.size 1 G w t X.heap.size (kS2 key.length value.length [(key, 0)] 1) [⟨4611967493404098560, value⟩]) ∧ Aside0 (Below X.heap.size X w) ∧ Aside0 (b = 0 → w = w13)) (fun v75 _ => 1 - (intOf v75).toNat)
    case atStart => exact ⟨0, Nat.zero_le _, rfl, HM13, HB13, ⟨fun _ => rfl⟩⟩
    case round =>
      obtain ⟨b, hb, rfl, HM, HB, HW⟩ := hrel
      by_cases hlt : b < 1
      · obtain rfl : b = 0 := Nat.lt_one_iff.1 hlt
        obtain rfl := HW.out rfl
        have hx0 := HX0.out
        have hx1 := HX1.out
        clear hb hlt
        go_wp2_with fail
        have hbx : (wr.alloc (.cells #[.slice (some ⟨gk, 0, none⟩) key.length ck, .slice (some ⟨gv, 0, none⟩) value.length cv] 58)).heap[wr.heap.size]? = some (.cells #[.slice (some ⟨gk, 0, none⟩) key.length ck, .slice (some ⟨gv, 0, none⟩) value.length cv] 58) := heap_alloc_new wr _
        have hMa := HM.out.below (below_alloc (Below.refl wr.heap.size wr) (.cells #[.slice (some ⟨gk, 0, none⟩) key.length ck, .slice (some ⟨gv, 0, none⟩) value.length cv] 58))
        have hBa := below_alloc HB.out (.cells #[.slice (some ⟨gk, 0, none⟩) key.length ck, .slice (some ⟨gv, 0, none⟩) value.length cv] 58)
        have hYa := HY0.out.below (below_alloc (Below.refl wr.heap.size wr) (.cells #[.slice (some ⟨gk, 0, none⟩) key.length ck, .slice (some ⟨gv, 0, none⟩) value.length cv] 58))
        have hYb := HY1.out.below (below_alloc (Below.refl wr.heap.size wr) (.cells #[.slice (some ⟨gk, 0, none⟩) key.length ck, .slice (some ⟨gv, 0, none⟩) value.length cv] 58))
        obtain ⟨bx, hbe⟩ : ∃ bx, wr.heap.size = bx := ⟨_, rfl⟩
        have HGKX : Aside0 (gk ≠ bx ∧ gv ≠ bx) := ⟨by rw [← hbe]; exact ⟨Nat.ne_of_lt HK2'.out, Nat.ne_of_lt HV2'.out⟩⟩
        obtain ⟨wa, hwa⟩ : ∃ wa, wr.alloc (.cells #[.slice (some ⟨gk, 0, none⟩) key.length ck, .slice (some ⟨gv, 0, none⟩) value.length cv] 58) = wa := ⟨_, rfl⟩
        rw [hwa] at hbx hMa hBa hYa hYb ⊢
        rw [hbe] at hbx ⊢
        have HBX := Aside0.mk hbx
        have HMA := Aside0.mk hMa
        have HBA := Aside0.mk hBa
        have HYA := Aside0.mk hYa
        have HYB := Aside0.mk hYb
        clear hbx hMa hBa hYa hYb hwa hbe hx0 hx1
        go_loopw [82] (fun v82 w => ∃ (i : Nat) (l : List Int), i ≤ value.length ∧ v82 = .int .i64 i ∧ l.length = value.length ∧ Aside0 (ByteS w w11.heap.size (.slice (some ⟨gv, 0, none⟩) l.length cv) l) ∧ Aside0 (ByteS w w11.heap.size (.slice (some ⟨gk, 0, none⟩) key.length ck) key) ∧ Aside0 (w.heap[bx]? = some (.cells #[.slice (some ⟨gk, 0, none⟩) key.length ck, .slice (some ⟨gv, 0, none⟩) value.length cv] 58)) ∧ Aside0 (LMF X.heap.size 1 G w t X.heap.size (kS2 key.length value.length [(key, 0)] 1) [⟨4611967493404098560, value⟩]) ∧ Aside0 (Below X.heap.size X w)) (fun v82 _ => value.length - (intOf v82).toNat)
        case atStart => exact ⟨0, value, Nat.zero_le _, rfl, rfl, HYB, HYA, HBX, HMA, HBA⟩
        case round =>
          obtain ⟨i, l, hi, rfl, hll, HL, HK, HBXr, HMr, HBr⟩ := hrel
          by_cases hlt : i < value.length
          · have hb0 := HBXr.out
            have hL : wr.heap[bx]? = some (.cells ([.slice (some ⟨gk, 0, none⟩) key.length ck, .slice (some ⟨gv, 0, none⟩) value.length cv] : List Value).toArray 58 (0, 0)) := hb0
            have hcb : wr.cell? ⟨bx, 1, none⟩ = some (.slice (some ⟨gv, 0, none⟩) value.length cv) := (blk_cell hL 1).trans rfl
            obtain ⟨hci, hfi⟩ := HL.out.at_ i (by rw [hll]; exact hlt)
            have hwk : wrap64 ((i : Int) + 1) = ((i + 1 : Nat) : Int) := wk hlt (Nat.le_trans HV3.out (by decide))
            have hi0 : (0 : Int) ≤ (i : Int) := Int.natCast_nonneg i
            go_wp2_with fail
            refine ⟨⟨i + 1, l.set i ((rd l i + 1) % 256), hlt, by rw [hwk], by rw [List.length_set]; exact hll, ⟨by rw [List.length_set]; exact HL.out.put i (by rw [hll]; exact hlt) _⟩, ⟨HK.out.keep (fun j hj _ => by cases hj; exact Below.heap_setCell _ ⟨gv, i, none⟩ _ gk HKV.out)⟩, ⟨(Below.heap_setCell _ ⟨gv, i, none⟩ _ bx (fun e => HGKX.out.2 e.symm)).trans HBXr.out⟩, ⟨HMr.out.set _ HGK.out.2.1⟩, ⟨HBr.out.setCell (p := ⟨gv, i, none⟩) HGK.out.2.2.2 _⟩⟩, ?_⟩
            rw [hwk]
            show value.length - (((i + 1 : Nat) : Int)).toNat < value.length - ((i : Nat) : Int).toNat
            rw [Int.toNat_natCast, Int.toNat_natCast]
            exact Nat.sub_lt_sub_left hlt (Nat.lt_succ_self i)
          · obtain rfl : i = value.length := Nat.le_antisymm hi (Nat.le_of_not_lt hlt)
            have hb0 := HBXr.out
            have hL : wr.heap[bx]? = some (.cells ([.slice (some ⟨gk, 0, none⟩) key.length ck, .slice (some ⟨gv, 0, none⟩) value.length cv] : List Value).toArray 58 (0, 0)) := hb0
            have hcb : wr.cell? ⟨bx, 0, none⟩ = some (.slice (some ⟨gk, 0, none⟩) key.length ck) := (blk_cell hL 0).trans rfl
            clear hlt hi
            go_wp2_with fail
            clear hcb hL hb0
            go_loopw [96] (fun v96 w => ∃ (i : Nat) (l : List Int), i ≤ key.length ∧ v96 = .int .i64 i ∧ l.length = key.length ∧ Aside0 (ByteS w w11.heap.size (.slice (some ⟨gk, 0, none⟩) l.length ck) l) ∧ Aside0 (w.heap[bx]? = some (.cells #[.slice (some ⟨gk, 0, none⟩) key.length ck, .slice (some ⟨gv, 0, none⟩) value.length cv] 58)) ∧ Aside0 (LMF X.heap.size 1 G w t X.heap.size (kS2 key.length value.length [(key, 0)] 1) [⟨4611967493404098560, value⟩]) ∧ Aside0 (Below X.heap.size X w)) (fun v96 _ => key.length - (intOf v96).toNat)
            case atStart => exact ⟨0, key, Nat.zero_le _, rfl, rfl, HK, HBXr, HMr, HBr⟩
            case round =>
              obtain ⟨i, l, hi, rfl, hll, HL, HBXr, HMr, HBr⟩ := hrel
              by_cases hlt : i < key.length
              · have hb0 := HBXr.out
                have hL : wr.heap[bx]? = some (.cells ([.slice (some ⟨gk, 0, none⟩) key.length ck, .slice (some ⟨gv, 0, none⟩) value.length cv] : List Value).toArray 58 (0, 0)) := hb0
                have hcb : wr.cell? ⟨bx, 0, none⟩ = some (.slice (some ⟨gk, 0, none⟩) key.length ck) := (blk_cell hL 0).trans rfl
                obtain ⟨hci, hfi⟩ := HL.out.at_ i (by rw [hll]; exact hlt)
                have hwk : wrap64 ((i : Int) + 1) = ((i + 1 : Nat) : Int) := wk hlt (Nat.le_trans HK2.out (by decide))
                have hi0 : (0 : Int) ≤ (i : Int) := Int.natCast_nonneg i
                go_wp2_with fail
                refine ⟨⟨i + 1, l.set i ((rd l i + 1) % 256), hlt, by rw [hwk], by rw [List.length_set]; exact hll, ⟨by rw [List.length_set]; exact HL.out.put i (by rw [hll]; exact hlt) _⟩, ⟨(Below.heap_setCell _ ⟨gk, i, none⟩ _ bx (fun e => HGKX.out.1 e.symm)).trans HBXr.out⟩, ⟨HMr.out.set _ HGK.out.1⟩, ⟨HBr.out.setCell (p := ⟨gk, i, none⟩) HGK.out.2.2.1 _⟩⟩, ?_⟩
                rw [hwk]
                show key.length - (((i + 1 : Nat) : Int)).toNat < key.length - ((i : Nat) : Int).toNat
                rw [Int.toNat_natCast, Int.toNat_natCast]
                exact Nat.sub_lt_sub_left hlt (Nat.lt_succ_self i)
              · obtain rfl : i = key.length := Nat.le_antisymm hi (Nat.le_of_not_lt hlt)
                clear hlt hi
                go_wp2_with fail
                exact ⟨⟨1, Nat.le_refl _, rfl, HMr, HBr, ⟨fun h => by cases h⟩⟩, by decide⟩
      · obtain rfl : b = 1 := Nat.le_antisymm hb (Nat.le_of_not_lt hlt)
        clear hb hlt HW
        go_wp2_with fail
        refine (alive_c wr).mono ?_
        rintro e w20 ⟨rfl, hb20⟩
        have HM20 := Aside0.mk (HM.out.below hb20)
        have HB20 : Aside0 (Below X.heap.size X w20) := ⟨HB.out.trans (hb20.mono HB.out.size)⟩
        clear hb20
        go_wp2_with fail
        refine (lm_entries w20 X.heap.size _ t X.heap.size _ _ 1 HM20.out.lm (by decide) (Nat.le_trans (Nat.le_refl 1) (by decide)) _ (apart_ent1 key.length key value HV1.out)).mono ?_
        rintro e w21 ⟨⟨vR2, vs2, rfl, hR2⟩, hb21⟩
        have HM21 := Aside0.mk (HM20.out.below hb21)
        have HB21 : Aside0 (Below X.heap.size X w21) := ⟨HB20.out.trans (hb21.mono HB20.out.size)⟩
        have HR21 := Aside0.mk hR2
        obtain ⟨A21, c21, hv21, hc21, _⟩ := hR2.C
        subst hv21
        have HC21 := Aside0.mk hc21
        clear hb21 hR2 hc21
        go_wp2_with fail
        refine (same21_c [⟨key, value⟩] (Nat.le_trans (Nat.le_refl 1) (by decide)) (fun e he => by rw [List.mem_singleton.1 he]; have h1 := HK2.out; have h2 := HV3.out; exact ⟨Nat.le_trans h1 (by decide), Nat.le_trans h2 (by decide)⟩) A21 (some ⟨w21.heap.size, 0, none⟩) c21 1 _ ?sd0 HC21.out ?sd1 (Nat.le_refl _)).mono ?_
        case sd0 =>
          obtain ⟨A, c, he, _, hC⟩ := (HR21.out.below (below_alloc (Below.refl _ _) (.cells #[.slice A0 key.length c0, .slice A1 value.length c1] 58))).C
          cases he
          exact hC
        case sd1 =>
          have hbb : Below X.heap.size X (w21.alloc (.cells #[.slice A0 key.length c0, .slice A1 value.length c1] 58)) := below_alloc HB21.out _
          exact ent_lit _ ⟨key, value⟩ w21.heap.size A0 A1 c0 c1 (heap_alloc_new w21 _) HC0.out (Kd.C_below HR0.out hbb) HC1.out (Kd.C_below HR1.out hbb)
        rintro e w22 ⟨rfl, k22, hk22⟩
        have hb22 : Below w21.heap.size w21 w22 := by rw [hk22]; exact pw_below_drewN (below_alloc (Below.refl _ _) _) _
        have HM22 := Aside0.mk (HM21.out.below hb22)
        have HB22 : Aside0 (Below X.heap.size X w22) := ⟨HB21.out.trans (hb22.mono HB21.out.size)⟩
        clear hb22 hk22
        go_wp2_with fail
        refine (lm_lookup w22 X.heap.size _ t X.heap.size _ _ 0 A0 c0 key.length key HM22.out.lm (Kd.C_below HR0.out HB22.out) hw0 0 (apart_look0 _ _ _ _ _)).mono ?_
        rintro e w23 ⟨rfl, hb23⟩
        have HM23 := Aside0.mk (HM22.out.below hb23)
        have HB23 : Aside0 (Below X.heap.size X w23) := ⟨HB22.out.trans (hb23.mono HB22.out.size)⟩
        clear hb23
        go_wp2_with fail
        refine (lm_entries w23 X.heap.size _ t X.heap.size _ _ 0 HM23.out.lm (by decide) (Nat.le_trans (Nat.le_refl 1) (by decide)) _ (apart_ent0 _ _ _ _ _)).mono ?_
        rintro e w24 ⟨⟨vR3, vs3, rfl, hR3⟩, hb24⟩
        have HM24 := Aside0.mk (HM23.out.below hb24)
        have HB24 : Aside0 (Below X.heap.size X w24) := ⟨HB23.out.trans (hb24.mono HB23.out.size)⟩
        obtain ⟨A24, c24, hv24, _, _⟩ := hR3.C
        subst hv24
        clear hb24 hR3
        go_wp2_with fail
        refine (lm_lookup w24 X.heap.size _ t X.heap.size _ _ 1 A0 c0 key.length key HM24.out.lm (Kd.C_below HR0.out HB24.out) hw0 4611967493404098560 (apart_look1 _ _ _)).mono ?_
        rintro e w25 ⟨rfl, hb25⟩
        have HB25 : Aside0 (Below X.heap.size X w25) := ⟨HB24.out.trans (hb25.mono HB24.out.size)⟩
        clear hb25
        go_wp2_with fail
        go_ret
        exact ⟨rfl, HB25.out⟩
  · refine (check1_c W2 ⟨⟨#[]⟩, key.length, value.length, 2⟩ 9 (by rw [if_neg hs])).mono ?_
    rintro e w3 ⟨rfl, hb3⟩
    have HB3 : Aside0 (Below X.heap.size X w3) := ⟨HB2.out.trans (hb3.mono HB2.out.size)⟩
    clear hb3
    go_wp2_with fail
    refine (alive_c w3).mono ?_
    rintro e w5 ⟨rfl, hb5⟩
    have HB5 : Aside0 (Below X.heap.size X w5) := ⟨HB3.out.trans (hb5.mono HB3.out.size)⟩
    clear hb5
    go_wp2_with fail
    go_ret
    exact ⟨rfl, HB5.out⟩
end Go.Proofs.Ytmkmldpcoonepaa.PAll
