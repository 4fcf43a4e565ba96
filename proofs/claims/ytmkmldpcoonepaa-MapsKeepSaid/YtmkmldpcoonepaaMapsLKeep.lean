/- maps: the law MapsKeep. -/
import Derived.Test.YtmkmldpcoonepaaGMapsC
set_option linter.unusedVariables false
set_option linter.unusedSimpArgs false
namespace Go.Proofs.Ytmkmldpcoonepaa.PAll
open Go.RowKit Go.Shelf Go.Maps Go.Proofs.YtmkmldpcoonepaaW.PrintWords Go.Proofs.YtmkmldpcoonepaaW.PrintLast Go.Proofs.YtmkmldpcoonepaaW.PrintMore
set_option maxHeartbeats 4000000 in
set_option maxRecDepth 100000 in
theorem mapsKeep_c (X : World) (A0 A1 A2 : Option Addr) (c0 c1 c2 : Nat) (key value other : List Int) (hr0 : Kd.C (Kd.int .u8) X A0 key.length key) (hr1 : Kd.C (Kd.int .u8) X A1 value.length value) (hr2 : Kd.C (Kd.int .u8) X A2 other.length other) (hc0 : key.length ≤ c0) (hc1 : value.length ≤ c1) (hc2 : other.length ≤ c2)
    (hw0 : IsBytes key) (hw1 : IsBytes value) (hw2 : IsBytes other) : Calls Try.prog 4 #[.slice A0 key.length c0, .slice A1 value.length c1, .slice A2 other.length c2] X fun e X' => e = .returned (.bool true) ∧ Below X.heap.size X X' := by
  have HR0 := Aside0.mk hr0
  have HR1 := Aside0.mk hr1
  have HR2 := Aside0.mk hr2
  have HC0 := Aside0.mk hc0
  have HC1 := Aside0.mk hc1
  have HC2 := Aside0.mk hc2
  clear hr0 hr1 hr2 hc0 hc1 hc2
  go_enter Try.func4, Try.ntmps4
  go_wp2_with fail
  refine (lm_mem X rfl).mono ?_
  rintro e w1 ⟨rfl, hm1, hb1⟩
  have HM1 := Aside0.mk hm1
  have HB1 := Aside0.mk hb1
  clear hm1 hb1
  go_wp2_with fail
  have hsz : (w1.alloc (.cells #[.string ⟨#[]⟩, .int .i64 key.length, .int .i64 value.length, .int .i64 2] 42)).heap.size = w1.heap.size + 1 := by simp
  rw [← hsz]
  have hx : (w1.alloc (.cells #[.string ⟨#[]⟩, .int .i64 key.length, .int .i64 value.length, .int .i64 2] 42)).heap[w1.heap.size]? = some (.cells ([.string ⟨#[]⟩, .int .i64 key.length, .int .i64 value.length, .int .i64 2] : List Value).toArray 42 (0, 0)) := heap_alloc_new w1 _
  have HM2 : Aside0 (Has (w1.alloc (.cells #[.string ⟨#[]⟩, .int .i64 key.length, .int .i64 value.length, .int .i64 2] 42)) (fun k => k < X.heap.size) (PM X.heap.size [])) := ⟨HM1.out.below (below_alloc (Below.refl _ _) _)⟩
  have HB2 : Aside0 (Below X.heap.size X (w1.alloc (.cells #[.string ⟨#[]⟩, .int .i64 key.length, .int .i64 value.length, .int .i64 2] 42))) := ⟨below_alloc HB1.out _⟩
  obtain ⟨W2, hW2⟩ : ∃ W, w1.alloc (.cells #[.string ⟨#[]⟩, .int .i64 key.length, .int .i64 value.length, .int .i64 2] 42) = W := ⟨_, rfl⟩
  rw [hW2] at hsz hx HM2 HB2 ⊢
  have hbl : w1.heap.size < W2.heap.size := by omega
  have HX2 := Aside0.mk hx
  have HBL := Aside0.mk hbl
  clear hW2 hsz hx hbl
  obtain ⟨g, hg⟩ : ∃ g, w1.heap.size = g := ⟨_, rfl⟩
  rw [hg] at HX2 HBL ⊢
  clear hg
  have HCELL : Aside0 (∀ w, Below W2.heap.size W2 w → w.cell? ⟨g, 0, none⟩ = some (.string ⟨#[]⟩) ∧ w.cell? ⟨g, 1, none⟩ = some (.int .i64 key.length) ∧ w.cell? ⟨g, 2, none⟩ = some (.int .i64 value.length) ∧ w.cell? ⟨g, 3, none⟩ = some (.int .i64 2)) := ⟨fun w hb => by
    have h := (hb.block g HBL.out).trans HX2.out
    exact ⟨(blk_cell h 0).trans rfl, (blk_cell h 1).trans rfl, (blk_cell h 2).trans rfl, (blk_cell h 3).trans rfl⟩⟩
  by_cases hs : sizesB ⟨⟨#[]⟩, key.length, value.length, 2⟩ = true
  · obtain ⟨⟨hk1, hk2⟩, ⟨hv1, hv2⟩, _⟩ := (sizes_iff _).1 hs
    dsimp only at hk1 hk2 hv1 hv2
    have HK1 := Aside0.mk (show 1 ≤ key.length by omega)
    have HK2 := Aside0.mk (show key.length ≤ 65536 by omega)
    have HV1 := Aside0.mk (show 1 ≤ value.length by omega)
    have HV2 := Aside0.mk (show value.length ≤ 256 by omega)
    have HV3 := Aside0.mk (show value.length ≤ 65536 by omega)
    have hvl : (value.length : Int) = ((value.length : Nat) : Int) := rfl
    clear hk1 hk2 hv1 hv2 hvl
    obtain ⟨f1, f2, f3⟩ := keep1 key value HV1.out HV2.out
    obtain ⟨cR, S2, S3, K2, K3, g1, g2, g3, g4, g5, g6, g7, g8, g9, g10, g11, g12⟩ := keep2 key value other HK1.out HV1.out HV2.out
    have F1 := Aside0.mk f1
    have F2 := Aside0.mk f2
    have F3 := Aside0.mk f3
    have G1 := Aside0.mk g1
    have G2 := Aside0.mk g2
    have G3 := Aside0.mk g3
    have G5 := Aside0.mk g5
    have G6 := Aside0.mk g6
    have G7 := Aside0.mk g7
    have G8 := Aside0.mk g8
    have G9 := Aside0.mk g9
    have G10 := Aside0.mk g10
    have G11 := Aside0.mk g11
    have G12 := Aside0.mk g12
    clear f1 f2 f3 g1 g2 g3 g5 g6 g7 g8 g9 g10 g11 g12
    refine (check1_c W2 ⟨⟨#[]⟩, key.length, value.length, 2⟩ 0 (by rw [if_pos hs])).mono ?_
    rintro e w3 ⟨rfl, hb3⟩
    have HM3 := Aside0.mk (HM2.out.below hb3)
    have HB3 : Aside0 (Below X.heap.size X w3) := ⟨HB2.out.trans (hb3.mono HB2.out.size)⟩
    obtain ⟨q0, q1, q2, q3⟩ := HCELL.out w3 hb3
    have HSIZ := Aside0.mk hs
    clear hb3 hs HCELL
    go_wp2_with fail
    refine (new1_c w3 X.heap.size X.heap.size ⟨⟨#[]⟩, key.length, value.length, 2⟩ HM3.out HB3.out.size).mono ?_
    rintro e w4 ⟨hp, hb4⟩
    rw [if_pos HSIZ.out] at hp
    obtain ⟨t, rfl, hm4⟩ := hp
    have HM4 : Aside0 (LM X.heap.size 0 w4 t X.heap.size (kS key.length value.length 2 [] 0) []) := ⟨hm4⟩
    have HB4 : Aside0 (Below X.heap.size X w4) := ⟨HB3.out.trans (hb4.mono HB3.out.size)⟩
    clear hm4 hb4 q0 q1 q2 q3
    go_wp2_with fail
    refine (lm_update w4 w4 X.heap.size 0 t X.heap.size _ [] 0 A0 A1 c0 c1 key.length value.length key value HM4.out (Below.refl _ _) (by decide) (by decide) (Kd.C_below HR0.out HB4.out) (low_free HR0.out HK1.out _) hw0 HK2.out (Kd.C_below HR1.out HB4.out) (low_free HR1.out HV1.out _) hw1 HC1.out HV3.out _ _ _ F1.out F2.out F3.out).mono ?_
    rintro e w5 ⟨rfl, hm5, hb5⟩
    have HM5 := Aside0.mk hm5
    have HB5 : Aside0 (Below X.heap.size X w5) := ⟨HB4.out.trans hb5⟩
    clear hm5 hb5
    go_wp2_with fail
    refine (lm_lookup w5 X.heap.size _ t X.heap.size _ _ 0 A0 c0 key.length key HM5.out (Kd.C_below HR0.out HB5.out) hw0 4611686018427387904 ((one_look (by rw [look1, if_pos rfl])).trans a00)).mono ?_
    rintro e w6 ⟨rfl, hb6⟩
    have HM6 := Aside0.mk (HM5.out.below hb6)
    have HB6 : Aside0 (Below X.heap.size X w6) := ⟨HB5.out.trans (hb6.mono HB5.out.size)⟩
    clear hb6
    go_wp2_with fail
    refine (lm_bytes w6 X.heap.size _ t X.heap.size _ _ 4611686018427387904 value.length HM6.out (Nat.le_trans (Nat.le_refl 1) (by decide)) (by decide) (by decide) (by omega) (by have := HV2.out; omega)).mono ?_
    rintro e w7 ⟨hb7, v7, rfl, hr7⟩
    have HBA := bytes_all' 4611686018427387904 value HV1.out
    rw [HBA] at hr7 ⊢
    obtain ⟨A7, c7, rfl, hc7, hC7⟩ := Kd.R_reads hr7
    have HC7 : Aside0 (Kd.C (Kd.int .u8) w7 A7 value.length value ∧ value.length ≤ c7) := ⟨hC7, hc7⟩
    obtain ⟨F, f1, f2, hmm⟩ := HM6.out.frame hb7
    have HM7 : Aside0 (LMF X.heap.size 1 F w7 t X.heap.size (kS key.length value.length 2 [(key, 0)] 1) [⟨4611686018427387904, value⟩]) := ⟨Nat.le_trans HM6.out.1 hb7.size, HM6.out.2.1, f1, hmm⟩
    have HF := Aside0.mk f1
    have HA7 : Aside0 (∀ ad, A7 = some ad → 0 < value.length → F ad.block) := ⟨fun ad e _ => by
      have hq := byteS_R hr7
      have := hq.own ad.block (by rw [e]; rfl)
      exact f2 _ this.1 this.2⟩
    have HB7 : Aside0 (Below X.heap.size X w7) := ⟨HB6.out.trans (hb7.mono HB6.out.size)⟩
    clear hb7 hr7 hC7 hc7 HBA f1 f2 hmm
    go_wp2_with fail
    by_cases hl : other.length = key.length
    · rw [if_pos hl] at g4
      subst g4
      have HOL : Aside0 (other.length ≤ 65536 ∧ 1 ≤ other.length) := ⟨by rw [hl]; exact ⟨HK2.out, HK1.out⟩⟩
      have hli : ((other.length : Int) == (key.length : Int)) = true := by simp [hl]
      have hlj : decide ((other.length : Int) = (key.length : Int)) = true := by simp [hl]
      clear hl
      refine (lf_update w7 X.heap.size 1 F t X.heap.size _ _ 0 A2 A1 c2 c1 other value HM7.out (by decide) (Nat.le_trans (Nat.le_refl 1) (by decide)) (Kd.C_below HR2.out HB7.out) (low_F HR2.out HF.out) hw2 HOL.out.1 (Kd.C_below HR1.out HB7.out) (low_F HR1.out HF.out) hw1 HC1.out HV3.out _ _ _ G1.out G2.out G3.out).mono ?_
      rintro e w8 ⟨rfl, hm8, hq8⟩
      have HM8 := Aside0.mk hm8
      clear hm8
      have HC8 := Aside0.mk (C_kept HC7.out.1 HA7.out hq8)
      have HB8 : Aside0 (Below X.heap.size X w8) := ⟨HB7.out.trans (hq8.below HB7.out.size HF.out)⟩
      clear hq8
      go_wp2_with fail
      refine (lm_lookup w8 X.heap.size _ t X.heap.size _ _ 0 A0 c0 key.length key HM8.out.lm (Kd.C_below HR0.out HB8.out) hw0 4611686018427387904 G5.out).mono ?_
      rintro e w9 ⟨rfl, hb9⟩
      have HM9 := Aside0.mk (HM8.out.below hb9)
      have HC9 := Aside0.mk (Kd.C_below HC8.out hb9)
      have HB9 : Aside0 (Below X.heap.size X w9) := ⟨HB8.out.trans (hb9.mono HB8.out.size)⟩
      clear hb9
      go_wp2_with fail
      refine (lf_delete w9 X.heap.size _ F t X.heap.size _ _ 0 A0 c0 key HM9.out (by decide) (Nat.le_trans G11.out (by decide)) (Kd.C_below HR0.out HB9.out) (low_F HR0.out HF.out) hw0 _ _ _ G6.out G7.out G8.out).mono ?_
      rintro e w10 ⟨rfl, hm10, hq10⟩
      have HM10 := Aside0.mk hm10
      have HC10 := Aside0.mk (C_kept HC9.out HA7.out hq10)
      have HB10 : Aside0 (Below X.heap.size X w10) := ⟨HB9.out.trans (hq10.below HB9.out.size HF.out)⟩
      clear hm10 hq10
      go_wp2_with fail
      refine (lm_bytes w10 X.heap.size _ t X.heap.size _ _ 4611686018427387904 1 HM10.out.lm (Nat.le_trans G12.out (by decide)) (by decide) (by decide) (by decide) (by decide)).mono ?_
      rintro e w11 ⟨hb11, v11, rfl, hr11⟩
      rw [G9.out] at hr11 ⊢
      obtain ⟨A11, c11, rfl, _, _⟩ := Kd.R_reads hr11
      have HM11 := Aside0.mk (HM10.out.below hb11)
      have HC11 := Aside0.mk (Kd.C_below HC10.out hb11)
      have HB11 : Aside0 (Below X.heap.size X w11) := ⟨HB10.out.trans (hb11.mono HB10.out.size)⟩
      clear hb11 hr11
      go_wp2_with fail
      refine (alive_c w11).mono ?_
      rintro e w12 ⟨rfl, hb12⟩
      have HM12 := Aside0.mk (HM11.out.below hb12)
      have HC12 := Aside0.mk (Kd.C_below HC11.out hb12)
      have HB12 : Aside0 (Below X.heap.size X w12) := ⟨HB11.out.trans (hb12.mono HB11.out.size)⟩
      clear hb12
      go_wp2_with fail
      refine (same_c A7 c7 value A1 c1 value w12 HC12.out HC7.out.2 (Kd.C_below HR1.out HB12.out) HC1.out (by have h := HV2.out; omega) true (by simp)).mono ?_
      rintro e w13 ⟨rfl, k13, hk13⟩
      have HB1213 : Aside0 (Below w12.heap.size w12 w13) := ⟨by rw [hk13]; exact pw_below_drewN (Below.refl _ _) _⟩
      have HM13 := Aside0.mk (HM12.out.below HB1213.out)
      have HB13 : Aside0 (Below X.heap.size X w13) := ⟨HB12.out.trans (HB1213.out.mono HB12.out.size)⟩
      clear hk13
      go_wp2_with fail
      refine (lm_lookup w13 X.heap.size _ t X.heap.size _ _ 0 A0 c0 key.length key HM13.out.lm (Kd.C_below HR0.out HB13.out) hw0 0 G10.out).mono ?_
      rintro e w14 ⟨rfl, hb14⟩
      have HB14 : Aside0 (Below X.heap.size X w14) := ⟨HB13.out.trans (hb14.mono HB13.out.size)⟩
      clear hb14
      go_wp2_with fail
      go_ret
      exact ⟨rfl, HB14.out⟩
    · rw [if_neg hl] at g4
      subst g4
      have hli : ((other.length : Int) == (key.length : Int)) = false := by
        rw [beq_eq_false_iff_ne]
        omega
      have hlj : decide ((other.length : Int) = (key.length : Int)) = false := by
        rw [decide_eq_false_iff_not]
        omega
      have hn : ¬ (other.length : Int) = key.length := by omega
      obtain ⟨_, b2, b3⟩ := one_bad (K := [⟨4611686018427387904, value⟩]) (kl := key.length) (vl := value.length) (n := 2) (ents := [(key, 0)]) (next := 1) (key := other) (value := value) hn
      obtain rfl := b2.symm.trans G2.out
      obtain rfl := b3.symm.trans G3.out
      have HNB : Aside0 (∀ s, getP (kS key.length value.length 2 [(key, 0)] 1) 0 = some s → ¬ ((other.length : Int) = s.key ∧ (value.length : Int) = s.value)) := ⟨fun s hs h => by
        rw [getP_kS] at hs
        cases hs
        exact hn h.1⟩
      clear hl hn b2 b3
      refine (lm_bad w7 X.heap.size 1 t X.heap.size _ _ 0 A2 A1 c2 c1 other value HM7.out.lm HNB.out).mono ?_
      rintro e w7 ⟨rfl, rfl⟩
      have HM8 := HM7
      have hq8 : Kept F w7 w7 := Kept.refl _ _
      have HC8 := Aside0.mk (C_kept HC7.out.1 HA7.out hq8)
      have HB8 : Aside0 (Below X.heap.size X w7) := ⟨HB7.out.trans (hq8.below HB7.out.size HF.out)⟩
      clear hq8
      go_wp2_with fail
      refine (lm_lookup w7 X.heap.size _ t X.heap.size _ _ 0 A0 c0 key.length key HM8.out.lm (Kd.C_below HR0.out HB8.out) hw0 4611686018427387904 G5.out).mono ?_
      rintro e w9 ⟨rfl, hb9⟩
      have HM9 := Aside0.mk (HM8.out.below hb9)
      have HC9 := Aside0.mk (Kd.C_below HC8.out hb9)
      have HB9 : Aside0 (Below X.heap.size X w9) := ⟨HB8.out.trans (hb9.mono HB8.out.size)⟩
      clear hb9
      go_wp2_with fail
      refine (lf_delete w9 X.heap.size _ F t X.heap.size _ _ 0 A0 c0 key HM9.out (by decide) (Nat.le_trans G11.out (by decide)) (Kd.C_below HR0.out HB9.out) (low_F HR0.out HF.out) hw0 _ _ _ G6.out G7.out G8.out).mono ?_
      rintro e w10 ⟨rfl, hm10, hq10⟩
      have HM10 := Aside0.mk hm10
      have HC10 := Aside0.mk (C_kept HC9.out HA7.out hq10)
      have HB10 : Aside0 (Below X.heap.size X w10) := ⟨HB9.out.trans (hq10.below HB9.out.size HF.out)⟩
      clear hm10 hq10
      go_wp2_with fail
      refine (lm_bytes w10 X.heap.size _ t X.heap.size _ _ 4611686018427387904 1 HM10.out.lm (Nat.le_trans G12.out (by decide)) (by decide) (by decide) (by decide) (by decide)).mono ?_
      rintro e w11 ⟨hb11, v11, rfl, hr11⟩
      rw [G9.out] at hr11 ⊢
      obtain ⟨A11, c11, rfl, _, _⟩ := Kd.R_reads hr11
      have HM11 := Aside0.mk (HM10.out.below hb11)
      have HC11 := Aside0.mk (Kd.C_below HC10.out hb11)
      have HB11 : Aside0 (Below X.heap.size X w11) := ⟨HB10.out.trans (hb11.mono HB10.out.size)⟩
      clear hb11 hr11
      go_wp2_with fail
      refine (alive_c w11).mono ?_
      rintro e w12 ⟨rfl, hb12⟩
      have HM12 := Aside0.mk (HM11.out.below hb12)
      have HC12 := Aside0.mk (Kd.C_below HC11.out hb12)
      have HB12 : Aside0 (Below X.heap.size X w12) := ⟨HB11.out.trans (hb12.mono HB11.out.size)⟩
      clear hb12
      go_wp2_with fail
      refine (same_c A7 c7 value A1 c1 value w12 HC12.out HC7.out.2 (Kd.C_below HR1.out HB12.out) HC1.out (by have h := HV2.out; omega) true (by simp)).mono ?_
      rintro e w13 ⟨rfl, k13, hk13⟩
      have HB1213 : Aside0 (Below w12.heap.size w12 w13) := ⟨by rw [hk13]; exact pw_below_drewN (Below.refl _ _) _⟩
      have HM13 := Aside0.mk (HM12.out.below HB1213.out)
      have HB13 : Aside0 (Below X.heap.size X w13) := ⟨HB12.out.trans (HB1213.out.mono HB12.out.size)⟩
      clear hk13
      go_wp2_with fail
      refine (lm_lookup w13 X.heap.size _ t X.heap.size _ _ 0 A0 c0 key.length key HM13.out.lm (Kd.C_below HR0.out HB13.out) hw0 0 G10.out).mono ?_
      rintro e w14 ⟨rfl, hb14⟩
      have HB14 : Aside0 (Below X.heap.size X w14) := ⟨HB13.out.trans (hb14.mono HB13.out.size)⟩
      clear hb14
      go_wp2_with fail
      go_ret
      exact ⟨rfl, HB14.out⟩
  · refine (check1_c W2 ⟨⟨#[]⟩, key.length, value.length, 2⟩ 9 (by rw [if_neg hs])).mono ?_
    rintro e w3 ⟨rfl, hb3⟩
    have HM3 := Aside0.mk (HM2.out.below hb3)
    have HB3 : Aside0 (Below X.heap.size X w3) := ⟨HB2.out.trans (hb3.mono HB2.out.size)⟩
    obtain ⟨q0, q1, q2, q3⟩ := HCELL.out w3 hb3
    clear hb3
    go_wp2_with fail
    refine (new1_c w3 X.heap.size X.heap.size ⟨⟨#[]⟩, key.length, value.length, 2⟩ HM3.out HB3.out.size).mono ?_
    rintro e w4 ⟨hp, hb4⟩
    rw [if_neg hs] at hp
    subst hp
    have HB4 : Aside0 (Below X.heap.size X w4) := ⟨HB3.out.trans (hb4.mono HB3.out.size)⟩
    clear hb4 q0 q1 q2 q3
    go_wp2_with fail
    refine (alive_c w4).mono ?_
    rintro e w5 ⟨rfl, hb5⟩
    have HB5 : Aside0 (Below X.heap.size X w5) := ⟨HB4.out.trans (hb5.mono HB4.out.size)⟩
    clear hb5
    go_wp2_with fail
    go_ret
    exact ⟨rfl, HB5.out⟩
end Go.Proofs.Ytmkmldpcoonepaa.PAll
