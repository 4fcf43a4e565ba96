/- helper: the law HelperFinds. Written by gen_fd.py. -/
import Derived.Test.YtomnfkihieinbaaDoorGHelpD
import Derived.Deep.DeepCutAuto
set_option linter.unusedVariables false
set_option linter.unusedSimpArgs false
namespace Go.Proofs.YtomnfkihieinbaaDoor.PAll
open Go.RowKit Go.Shelf Go.Maps Go.Proofs.YtomnfkihieinbaaDoorW.PrintWords Go.Proofs.YtomnfkihieinbaaDoorW.PrintLast Go.Proofs.YtomnfkihieinbaaDoorW.PrintMore
set_option maxHeartbeats 16000000 in
set_option maxRecDepth 100000 in
theorem helperFinds_c (X : World) (hL : LaidH X) (A0 A1 : Option Addr) (c0 c1 : Nat) (key value : List Int) (y0 y1 y2 y3 : Int) (hr0 : Kd.C (Kd.int .u8) X A0 key.length key) (hr1 : Kd.C (Kd.int .u8) X A1 value.length value) (hc0 : key.length ≤ c0) (hc1 : value.length ≤ c1) (hw0 : IsBytes key) (hw1 : IsBytes value) :
    Calls Tryd.prog 5 #[.slice A0 key.length c0, .slice A1 value.length c1, .agg #[.int .u64 y0, .int .u64 y1, .int .u64 y2, .int .u64 y3]] X fun e X' => e = .returned (.bool true) ∧ Below X.heap.size X X' := by
  obtain ⟨X0, hX0⟩ : ∃ X0, X.alloc (.cells #[.int .u64 y0, .int .u64 y1, .int .u64 y2, .int .u64 y3] 65) = X0 := ⟨_, rfl⟩
  have HX0 : Aside0 (Below X.heap.size X X0) := ⟨by rw [← hX0]; exact below_alloc (Below.refl _ _) _⟩
  have HS0 : Aside0 (X.heap.size + 1 = X0.heap.size) := ⟨by rw [← hX0]; simp⟩
  have HREST : Aside0 (X0.heap[X.heap.size]? = some (.cells #[.int .u64 y0, .int .u64 y1, .int .u64 y2, .int .u64 y3] 65 (0, 0))) := ⟨by rw [← hX0]; exact heap_alloc_new X _⟩
  have HX0E := Aside0.mk hX0
  refine Calls.mono (R := fun e X' => e = .returned (.bool true) ∧ Below X0.heap.size X0 X') ?_ (fun e X' ⟨h1, h2⟩ => ⟨h1, HX0.out.trans (h2.mono HX0.out.size)⟩)
  replace hL := hL.below HX0.out
  replace hr0 := Kd.C_below hr0 HX0.out
  replace hr1 := Kd.C_below hr1 HX0.out
  clear hX0
  have HL := Aside0.mk hL
  have HR0 := Aside0.mk hr0
  have HR1 := Aside0.mk hr1
  have HC0 := Aside0.mk hc0
  have HC1 := Aside0.mk hc1
  have HB0 := Aside0.mk hw0
  have HB1 := Aside0.mk hw1
  clear hL hr0 hr1 hc0 hc1 hw0 hw1
  obtain ⟨d, hd⟩ : ∃ d : S28, (⟨⟨#[]⟩, key.length, value.length, 1⟩ : S28) = d := ⟨_, rfl⟩
  have HD := Aside0.mk hd
  clear hd
  obtain ⟨nk, hnk⟩ : ∃ nk, key.length = nk := ⟨_, rfl⟩
  obtain ⟨nv, hnv⟩ : ∃ nv, value.length = nv := ⟨_, rfl⟩
  have HNK := Aside0.mk hnk
  have HNV := Aside0.mk hnv
  rw [hnk, hnv] at HD
  rw [hnk] at HC0 HR0
  rw [hnv] at HC1 HR1
  rw [hnk, hnv]
  clear hnk hnv
  obtain ⟨W1, hW1⟩ : ∃ W1, X0.alloc (.cells #[.string ⟨#[]⟩, .int .i64 nk, .int .i64 nv, .int .i64 1] 28) = W1 := ⟨_, rfl⟩
  have HW1 := Aside0.mk hW1
  have HS1 : Aside0 (X0.heap.size + 1 = W1.heap.size) := ⟨by rw [← hW1]; simp⟩
  have HX1 : Aside0 (Below X0.heap.size X0 W1) := ⟨by rw [← hW1]; exact below_alloc (Below.refl _ _) _⟩
  have HG1 : Aside0 (W1.heap[X0.heap.size]? = some (.cells #[.string ⟨#[]⟩, .int .i64 nk, .int .i64 nv, .int .i64 1] 28 (0, 0))) := ⟨by rw [← hW1]; exact heap_alloc_new X0 _⟩
  clear hW1
  have HCELL : Aside0 (∀ w, Below W1.heap.size W1 w → w.cell? ⟨X0.heap.size, 0, none⟩ = some (.string ⟨#[]⟩) ∧ w.cell? ⟨X0.heap.size, 1, none⟩ = some (.int .i64 nk) ∧ w.cell? ⟨X0.heap.size, 2, none⟩ = some (.int .i64 nv) ∧ w.cell? ⟨X0.heap.size, 3, none⟩ = some (.int .i64 1)) := ⟨fun w hb => by
    have h := below_blk hb HG1.out
    exact ⟨by simp [World.cell?, h], by simp [World.cell?, h], by simp [World.cell?, h], by simp [World.cell?, h]⟩⟩
  have HCK : Aside0 (∀ r, (if sizesB d = true then 0 else 9) = r → Calls Tryd.prog 24 #[.slice (some ⟨W1.heap.size, 0, none⟩) 1 1] (W1.alloc (.cells #[.string ⟨#[]⟩, .int .i64 nk, .int .i64 nv, .int .i64 1] 28)) fun e w' => e = .returned (.int .i64 r) ∧ Below W1.heap.size W1 w') := ⟨fun r hr => by
    have := check1_c W1 d r hr
    rw [← HD.out] at this
    exact this⟩
  obtain ⟨q0, q1, q2, q3⟩ := HCELL.out W1 (Below.refl _ _)
  by_cases hs : sizesB d = true
  · have HSIZ := Aside0.mk hs
    have HC9 := Aside0.mk (HCK.out 0 (by rw [if_pos hs]))
    obtain ⟨⟨z1, z2⟩, ⟨z3, z4⟩, _⟩ := (sizes_iff d).1 hs
    rw [← HD.out] at z1 z2 z3 z4
    dsimp only at z1 z2 z3 z4
    have HK1 : Aside0 (1 ≤ nk ∧ nk ≤ 64) := ⟨by omega, by omega⟩
    have HV1 : Aside0 (1 ≤ nv ∧ nv ≤ 256) := ⟨by omega, by omega⟩
    clear z1 z2 z3 z4 hs
    obtain ⟨a0, rfl, hn0⟩ := C_some (l := key) (by rw [HNK.out]; exact HR0.out) (by rw [HNK.out]; exact HK1.out.1)
    obtain ⟨a1, rfl, hn1⟩ := C_some (l := value) (by rw [HNV.out]; exact HR1.out) (by rw [HNV.out]; exact HV1.out.1)
    have HN0 := Aside0.mk hn0
    have HN1 := Aside0.mk hn1
    clear hn0 hn1
    obtain ⟨i0, hi, hz0, hz1, hz2⟩ := info_parts infoU8'
    go_enter Tryd.func5, Tryd.ntmps5
    go_wp2_with fail
    rw [HX0E.out, HS0.out, HW1.out, HS1.out]
    refine HC9.out.mono ?_
    rintro e w3 ⟨rfl, hb3⟩
    have HB3 : Aside0 (Below X0.heap.size X0 w3) := ⟨HX1.out.trans (hb3.mono HX1.out.size)⟩
    have HB13 := Aside0.mk hb3
    clear hb3 q0 q1 q2 q3
    go_upto_region 4 with (fail)
    go_cut [8, 9] (fun s8 s9 wx => ∃ t m B F, s8 = .pointer (some ⟨t, 0, none⟩) ∧ s9 = .pointer (some ⟨m, 0, none⟩) ∧ Aside0 (LMF B 0 F wx t m [newS d] [⟨4294967296, key ++ value⟩] ∧ w3.heap.size ≤ B) ∧ Aside0 (Below X0.heap.size X0 wx))
    case first =>
      have HNK3 : Aside0 (∀ w, Below w3.heap.size w3 w → ∀ j u, (nums .u8 key)[j]? = some u → w.cell? (a0.add j) = some u) := ⟨fun w hb => HN0.out w (HB3.out.trans (hb.mono HB3.out.size))⟩
      have HNV3 : Aside0 (∀ w, Below w3.heap.size w3 w → ∀ j u, (nums .u8 value)[j]? = some u → w.cell? (a1.add j) = some u) := ⟨fun w hb => HN1.out w (HB3.out.trans (hb.mono HB3.out.size))⟩
      have HCELL3 : Aside0 (∀ w, Below w3.heap.size w3 w → w.cell? ⟨X0.heap.size, 0, none⟩ = some (.string ⟨#[]⟩) ∧ w.cell? ⟨X0.heap.size, 1, none⟩ = some (.int .i64 nk) ∧ w.cell? ⟨X0.heap.size, 2, none⟩ = some (.int .i64 nv) ∧ w.cell? ⟨X0.heap.size, 3, none⟩ = some (.int .i64 1)) := ⟨fun w hb => HCELL.out w (below_then HB13.out HB13.out.size hb)⟩
      have HLEN : Aside0 (key.length = nk ∧ nk ≤ 64 ∧ 1 ≤ nk ∧ value.length = nv ∧ nv ≤ 256 ∧ 1 ≤ nv) := ⟨HNK.out, HK1.out.2, HK1.out.1, HNV.out, HV1.out.2, HV1.out.1⟩
      have HLK : Aside0 ((nums .u8 key).length = nk * 1 ∧ (nums .u8 value).length = nv * 1 ∧ 0 + nk ≤ maxLen ∧ (0 + nk) * 1 ≤ 140737488355328 ∧ nk + nv ≤ maxLen ∧ (nk + nv) * 1 ≤ 140737488355328) := ⟨by
        have h := HLEN.out
        unfold maxLen
        rw [nums_length, nums_length]
        omega⟩
      have HST : Aside0 (∀ w g cap gd, Below w3.heap.size w3 w → w.ownsRow w3.heap.size 5 1 (.slice (some ⟨g, 0, none⟩) (nk + nv) cap) (nk + nv) (nums .u8 key ++ nums .u8 value) → w.heap[gd]? = some (.cells #[.string ⟨#[]⟩, .int .i64 nk, .int .i64 nv, .int .i64 1] 28 (0, 0)) → Calls Tryd.prog 9 #[.slice (some ⟨g, 0, none⟩) (nk + nv) cap, .slice (some ⟨gd, 0, none⟩) 1 1] w fun e X' => (∃ t m B F, e = .returned (.tuple #[.pointer (some ⟨t, 0, none⟩), .pointer (some ⟨m, 0, none⟩)]) ∧ Aside0 (LMF B 0 F X' t m [newS d] [⟨4294967296, key ++ value⟩] ∧ w3.heap.size ≤ B)) ∧ Aside0 (Below X0.heap.size X0 X')) := ⟨fun w g cap gd hb hr hd => by
        have hl := HLEN.out
        have e1 : (key ++ value).length = nk + nv := by rw [List.length_append, hl.1, hl.2.2.2.1]
        rw [← nums_app, ← e1] at hr
        have hd2 : w.heap[gd]? = some (.cells (defCells d) 28 (0, 0)) := by rw [hd, ← HD.out]; rfl
        have := start_own w _ g cap gd (key ++ value) d hr (by omega) (by omega) (isB_app HB0.out HB1.out) hd2 HSIZ.out
        rw [e1] at this
        refine this.mono fun e X' hp => ?_
        obtain ⟨⟨t, m, he, hm⟩, hb2⟩ := hp
        have hw := HB3.out.trans (hb.mono HB3.out.size)
        exact ⟨⟨t, m, _, _, he, ⟨hm, hb.size⟩⟩, ⟨hw.trans (hb2.mono hw.size)⟩⟩⟩
      have hbC : Below w3.heap.size w3 (w3.alloc (.cells #[] 5)).drew := below_drew (below_alloc (Below.refl _ _) _)
      have hEC : (w3.alloc (.cells #[] 5)).drew.heap[w3.heap.size]? = some (.cells #[] 5 (0, 0)) := heap_alloc_new w3 _
      have hbA : Below w3.heap.size w3 ((w3.alloc (.cells #[.string ⟨#[]⟩, .int .i64 nk, .int .i64 nv, .int .i64 1] 28)).alloc (.cells #[] 5)).drew := below_drew (below_alloc (below_alloc (Below.refl _ _) _) _)
      have hEA : ((w3.alloc (.cells #[.string ⟨#[]⟩, .int .i64 nk, .int .i64 nv, .int .i64 1] 28)).alloc (.cells #[] 5)).drew.heap[w3.heap.size + 1]? = some (.cells #[] 5 (0, 0)) := by
        have h := heap_alloc_new (w3.alloc (.cells #[.string ⟨#[]⟩, .int .i64 nk, .int .i64 nv, .int .i64 1] 28)) (.cells #[] 5)
        have h2 : (w3.alloc (.cells #[.string ⟨#[]⟩, .int .i64 nk, .int .i64 nv, .int .i64 1] 28)).heap.size = w3.heap.size + 1 := by simp
        rw [h2] at h
        exact h
      have hDA : ((w3.alloc (.cells #[.string ⟨#[]⟩, .int .i64 nk, .int .i64 nv, .int .i64 1] 28)).alloc (.cells #[] 5)).drew.heap[w3.heap.size]? = some (.cells #[.string ⟨#[]⟩, .int .i64 nk, .int .i64 nv, .int .i64 1] 28 (0, 0)) := below_blk (below_alloc (Below.refl (w3.alloc (.cells #[.string ⟨#[]⟩, .int .i64 nk, .int .i64 nv, .int .i64 1] 28)).heap.size (w3.alloc (.cells #[.string ⟨#[]⟩, .int .i64 nk, .int .i64 nv, .int .i64 1] 28))) (.cells #[] 5)) (heap_alloc_new w3 (.cells #[.string ⟨#[]⟩, .int .i64 nk, .int .i64 nv, .int .i64 1] 28))
      have hsA : ((w3.alloc (.cells #[.string ⟨#[]⟩, .int .i64 nk, .int .i64 nv, .int .i64 1] 28)).alloc (.cells #[] 5)).drew.heap.size = w3.heap.size + 2 := by show ((w3.alloc (.cells #[.string ⟨#[]⟩, .int .i64 nk, .int .i64 nv, .int .i64 1] 28)).alloc (.cells #[] 5)).heap.size = _; simp
      have hbB : Below w3.heap.size w3 ((w3.alloc (.cells #[] 5)).alloc (.cells #[.string ⟨#[]⟩, .int .i64 nk, .int .i64 nv, .int .i64 1] 28)).drew := below_drew (below_alloc (below_alloc (Below.refl _ _) _) _)
      have hDB : ((w3.alloc (.cells #[] 5)).alloc (.cells #[.string ⟨#[]⟩, .int .i64 nk, .int .i64 nv, .int .i64 1] 28)).drew.heap[w3.heap.size + 1]? = some (.cells #[.string ⟨#[]⟩, .int .i64 nk, .int .i64 nv, .int .i64 1] 28 (0, 0)) := by
        have h := heap_alloc_new (w3.alloc (.cells #[] 5)) (.cells #[.string ⟨#[]⟩, .int .i64 nk, .int .i64 nv, .int .i64 1] 28)
        have h2 : (w3.alloc (.cells #[] 5)).heap.size = w3.heap.size + 1 := by simp
        rw [h2] at h
        exact h
      have hEB : ((w3.alloc (.cells #[] 5)).alloc (.cells #[.string ⟨#[]⟩, .int .i64 nk, .int .i64 nv, .int .i64 1] 28)).drew.heap[w3.heap.size]? = some (.cells #[] 5 (0, 0)) := below_blk (below_alloc (Below.refl (w3.alloc (.cells #[] 5)).heap.size (w3.alloc (.cells #[] 5))) (.cells #[.string ⟨#[]⟩, .int .i64 nk, .int .i64 nv, .int .i64 1] 28)) (heap_alloc_new w3 (.cells #[] 5))
      have hsB : ((w3.alloc (.cells #[] 5)).alloc (.cells #[.string ⟨#[]⟩, .int .i64 nk, .int .i64 nv, .int .i64 1] 28)).drew.heap.size = w3.heap.size + 2 := by show ((w3.alloc (.cells #[] 5)).alloc (.cells #[.string ⟨#[]⟩, .int .i64 nk, .int .i64 nv, .int .i64 1] 28)).heap.size = _; simp
      have hsC : (w3.alloc (.cells #[] 5)).drew.heap.size = w3.heap.size + 1 := by show (w3.alloc (.cells #[] 5)).heap.size = _; simp
      have HA := Aside0.mk (And.intro hbA (And.intro hEA (And.intro hDA hsA)))
      have HB := Aside0.mk (And.intro hbB (And.intro hEB (And.intro hDB hsB)))
      have HC := Aside0.mk (And.intro hbC (And.intro hEC hsC))
      obtain ⟨c00, c01, c02, c03⟩ := HCELL3.out _ hbC
      clear hbA hEA hDA hsA hbB hEB hDB hsB hbC hEC hsC
      obtain ⟨u0, u1, u2, u3⟩ := HCELL3.out _ (below_drew (Below.refl _ _))
      go_region_law ((first | (go_simp; refine (HST.out _ _ _ _ HO10.out.1 HO10.out.2 HD10.out).mono ?_; rintro e w12 ⟨⟨t, m, B, F, rfl, HM12⟩, HB12⟩) | (go_simp; refine (HST.out _ _ _ _ (below_alloc HO10.out.1 _) (HO10.out.2.alloc _) (heap_alloc_new w10 _)).mono ?_; rintro e w12 ⟨⟨t, m, B, F, rfl, HM12⟩, HB12⟩) | (refine step_append_lies _ rfl _ _ 26 rfl w3.heap.size 5 i0 _ 1 1 Tryd.underlying26 hi hz0 hz1 hz2 rfl (by decide) (.slice (some ⟨g8, 0, none⟩) nk cap8) nk (nums .u8 key) rfl HO8.out.2.1 a1 nv c1 (nums .u8 value) rfl HLK.out.2.1 (HNV3.out _ HO8.out.1) (nums_one _) HLEN.out.2.2.2.2.2 HLK.out.2.2.2.2.1 HLK.out.2.2.2.2.2 (Below.size HO8.out.1) _ rfl ?_; intro g10 cap10 w10 hown10 hgrow10 hat10 hlt10; have hb10 := Below.grown HO8.out.1 hgrow10 (Below.size HO8.out.1) (fun k hk => own_base HO8.out.2.1 k hk); obtain ⟨y0, y1, y2, y3⟩ := HCELL3.out _ hb10; have HD10 := Aside0.mk ((hgrow10.block _ (Array.getElem?_eq_some_iff.1 HD8.out).1 (fun e => by have h1 := HO8.out.2.2.2; have h2 : _ = g8 := Option.some.inj e; omega)).trans HD8.out); have HO10 := Aside0.mk (And.intro hb10 hown10); clear hb10 hown10 hat10 hgrow10 hlt10) | (refine step_append_lies _ rfl _ _ 26 rfl w3.heap.size 5 i0 _ 1 1 Tryd.underlying26 hi hz0 hz1 hz2 rfl (by decide) (.slice (some ⟨g8, 0, none⟩) nk cap8) nk (nums .u8 key) rfl HO8.out.2.1 a1 nv c1 (nums .u8 value) rfl HLK.out.2.1 (HNV3.out _ HO8.out.1) (nums_one _) HLEN.out.2.2.2.2.2 HLK.out.2.2.2.2.1 HLK.out.2.2.2.2.2 (Below.size HO8.out.1) _ rfl ?_; intro g10 cap10 w10 hown10 hgrow10 hat10 hlt10; have hb10 := Below.grown HO8.out.1 hgrow10 (Below.size HO8.out.1) (fun k hk => own_base HO8.out.2.1 k hk); obtain ⟨y0, y1, y2, y3⟩ := HCELL3.out _ hb10; have HO10 := Aside0.mk (And.intro hb10 hown10); clear hb10 hown10 hat10 hgrow10 hlt10) | (refine step_append_lies _ rfl _ _ 26 rfl w3.heap.size 5 i0 _ 1 1 Tryd.underlying26 hi hz0 hz1 hz2 rfl (by decide) (.slice (some ⟨g8, 0, none⟩) nk cap8) nk (nums .u8 key) rfl (HO8.out.2.1.alloc _) a1 nv c1 (nums .u8 value) rfl HLK.out.2.1 (HNV3.out _ (below_alloc HO8.out.1 _)) (nums_one _) HLEN.out.2.2.2.2.2 HLK.out.2.2.2.2.1 HLK.out.2.2.2.2.2 (Below.size (below_alloc HO8.out.1 _)) _ rfl ?_; intro g10 cap10 w10 hown10 hgrow10 hat10 hlt10; have hb10 := Below.grown (below_alloc HO8.out.1 _) hgrow10 (Below.size (below_alloc HO8.out.1 _)) (fun k hk => own_base HO8.out.2.1 k hk); obtain ⟨y0, y1, y2, y3⟩ := HCELL3.out _ hb10; have HD10 := Aside0.mk ((hgrow10.block w8.heap.size (by simp) (fun e => by have h1 := HO8.out.2.2.1; have h2 : w8.heap.size = g8 := Option.some.inj e; omega)).trans (heap_alloc_new w8 _)); have HO10 := Aside0.mk (And.intro hb10 hown10); clear hb10 hown10 hat10 hgrow10 hlt10) | (refine step_append_lies _ rfl _ _ 26 rfl w3.heap.size 5 i0 _ 1 1 Tryd.underlying26 hi hz0 hz1 hz2 rfl (by decide) (.slice (some ⟨w3.heap.size, 0, none⟩) 0 0) 0 [] rfl (own_empty HC.out.2.1 (by omega)) a0 nk c0 (nums .u8 key) rfl HLK.out.1 (HNK3.out _ HC.out.1) (nums_one _) HLEN.out.2.2.1 HLK.out.2.2.1 HLK.out.2.2.2.1 HC.out.1.size _ rfl ?_; intro g8 cap8 w8 hown8 hgrow8 hat8 hlt8; have hb8 := HC.out.1.grown hgrow8 HC.out.1.size (fun k hk => by cases hk; show w3.heap.size ≤ w3.heap.size; omega); rw [Nat.zero_add, List.nil_append] at hown8; obtain ⟨x0, x1, x2, x3⟩ := HCELL3.out _ hb8; have hg8 : g8 = w3.heap.size ∨ g8 = w3.heap.size + 1 := (by rcases hat8 with h | h; exact .inl (by cases h; rfl); exact .inr (h.trans HC.out.2.2)); have HO8 := Aside0.mk (And.intro hb8 (And.intro hown8 (And.intro hlt8 hg8))); clear hb8 hown8 hat8 hgrow8 hg8 hlt8) | (refine step_append_lies _ rfl _ _ 26 rfl w3.heap.size 5 i0 _ 1 1 Tryd.underlying26 hi hz0 hz1 hz2 rfl (by decide) (.slice (some ⟨w3.heap.size + 1, 0, none⟩) 0 0) 0 [] rfl (own_empty HA.out.2.1 (by omega)) a0 nk c0 (nums .u8 key) rfl HLK.out.1 (HNK3.out _ HA.out.1) (nums_one _) HLEN.out.2.2.1 HLK.out.2.2.1 HLK.out.2.2.2.1 HA.out.1.size _ rfl ?_; intro g8 cap8 w8 hown8 hgrow8 hat8 hlt8; have hb8 := HA.out.1.grown hgrow8 HA.out.1.size (fun k hk => by cases hk; show w3.heap.size ≤ w3.heap.size + 1; omega); rw [Nat.zero_add, List.nil_append] at hown8; obtain ⟨x0, x1, x2, x3⟩ := HCELL3.out _ hb8; have hg8 : g8 = w3.heap.size + 1 ∨ g8 = w3.heap.size + 2 := (by rcases hat8 with h | h; exact .inl (by cases h; rfl); exact .inr (h.trans HA.out.2.2.2)); have HD8 := Aside0.mk ((hgrow8.block w3.heap.size (by rw [HA.out.2.2.2]; omega) (fun e => by have h : w3.heap.size = w3.heap.size + 1 := Option.some.inj e; omega)).trans HA.out.2.2.1); have HO8 := Aside0.mk (And.intro hb8 (And.intro hown8 (And.intro hlt8 hg8))); clear hb8 hown8 hat8 hgrow8 hg8 hlt8) | (refine step_append_lies _ rfl _ _ 26 rfl w3.heap.size 5 i0 _ 1 1 Tryd.underlying26 hi hz0 hz1 hz2 rfl (by decide) (.slice (some ⟨w3.heap.size, 0, none⟩) 0 0) 0 [] rfl (own_empty HB.out.2.1 (by omega)) a0 nk c0 (nums .u8 key) rfl HLK.out.1 (HNK3.out _ HB.out.1) (nums_one _) HLEN.out.2.2.1 HLK.out.2.2.1 HLK.out.2.2.2.1 HB.out.1.size _ rfl ?_; intro g8 cap8 w8 hown8 hgrow8 hat8 hlt8; have hb8 := HB.out.1.grown hgrow8 HB.out.1.size (fun k hk => by cases hk; show w3.heap.size ≤ w3.heap.size; omega); rw [Nat.zero_add, List.nil_append] at hown8; obtain ⟨x0, x1, x2, x3⟩ := HCELL3.out _ hb8; have hg8 : g8 = w3.heap.size ∨ g8 = w3.heap.size + 2 := (by rcases hat8 with h | h; exact .inl (by cases h; rfl); exact .inr (h.trans HB.out.2.2.2)); have HD8 := Aside0.mk ((hgrow8.block (w3.heap.size + 1) (by rw [HB.out.2.2.2]; omega) (fun e => by have h : (w3.heap.size + 1) = w3.heap.size := Option.some.inj e; omega)).trans HB.out.2.2.1); have HO8 := Aside0.mk (And.intro hb8 (And.intro hown8 (And.intro hlt8 hg8))); clear hb8 hown8 hat8 hgrow8 hg8 hlt8)))
      all_goals (go_wp2_with fail; go_meet; exact ⟨t, m, B, F, rfl, rfl, HM12, HB12⟩)
    case rest =>
      obtain ⟨t, m, B, F, rfl, rfl, HM12, HB12⟩ := hcut
      obtain rfl := HNK.out
      obtain rfl := HNV.out
      have HM : Aside0 (LMF B 0 F wc t m (kS key.length value.length 1 [] 0) (fK0 key value)) := ⟨by have h := HM12.out.1; rw [← HD.out] at h; exact h⟩
      have HBN : Aside0 (X0.heap.size ≤ B) := ⟨Nat.le_trans HB3.out.size HM12.out.2⟩
      have HIN : Aside0 ((Tryd.prog.info? 33).map (·.size) = some 11) := ⟨by kernel_rfl⟩
      obtain ⟨hk1, hk2⟩ := HK1.out
      obtain ⟨hv1, hv2⟩ := HV1.out
      have HLEN := Aside0.mk (And.intro hk1 (And.intro hk2 (And.intro hv1 hv2)))
      have HKS : Aside0 (∀ ents next, KeysOk (kS key.length value.length 1 ents next)) := ⟨fd_keys key value hk1 hk2 hv1 hv2⟩
      clear hk1 hk2 hv1 hv2 hi hz0 hz1 hz2
      have HRW := Aside0.mk (below_blk HB12.out HREST.out)
      have HXB : Aside0 (X.heap.size < B) := ⟨by have := HBN.out; have := HS0.out; omega⟩
      go_upto_region 7 with (fail)
      go_cut [10] (fun s10 wx => ∃ br F1, s10 = .pointer (some ⟨br, 0, none⟩) ∧ Aside0 (LMF B 0 F1 wx t m (kS key.length value.length 1 [] 0) (fK0 key value)) ∧ Aside0 (wx.heap[br]? = some (.cells #[.int .u64 0, .int .u64 2305843009213693952, .int .u64 4294967296, .int .u64 (4294967296 + (key.length : Int)), .int .u64 0, .int .u64 0, .int .u64 y0, .int .u64 y1, .int .u64 y2, .int .u64 y3, .int .u64 0] 33 (0, 0))) ∧ Aside0 (wx.heap[X.heap.size]? = some (.cells #[.int .u64 y0, .int .u64 y1, .int .u64 y2, .int .u64 y3] 65 (0, 0))) ∧ Aside0 (F1 br ∧ F1 X.heap.size) ∧ Aside0 (Below X0.heap.size X0 wx))
      case first =>
        have hq0 : wc.drew.cell? ⟨X.heap.size, 0, none⟩ = some (.int .u64 y0) := by have h := HRW.out; show wc.cell? _ = _; simp [World.cell?, h]
        have hq1 : wc.drew.cell? ⟨X.heap.size, 1, none⟩ = some (.int .u64 y1) := by have h := HRW.out; show wc.cell? _ = _; simp [World.cell?, h]
        have hq2 : wc.drew.cell? ⟨X.heap.size, 2, none⟩ = some (.int .u64 y2) := by have h := HRW.out; show wc.cell? _ = _; simp [World.cell?, h]
        have hq3 : wc.drew.cell? ⟨X.heap.size, 3, none⟩ = some (.int .u64 y3) := by have h := HRW.out; show wc.cell? _ = _; simp [World.cell?, h]
        have hwk : IntKind.u64.wrap (key.length : Int) = key.length := by rw [u64_mod]; have := HLEN.out; omega
        have hwb : IntKind.u64.wrap (4294967296 + (key.length : Int)) = 4294967296 + key.length := by rw [u64_mod]; have := HLEN.out; omega
        have hkp : (0 : Int) ≤ (key.length : Int) := Int.natCast_nonneg _
        have HHD : Aside0 (∀ w, Calls Tryd.prog 10 #[.int .i64 0] w fun e w' => e = .returned (.int .u64 2305843009213693952) ∧ ∃ k, w' = w.drewN k) := ⟨fun w => handle_c 0 2305843009213693952 w (by kernel_rfl)⟩
        have HS : Aside0 (∀ w, Below wc.heap.size wc w → (w.cell? ⟨X.heap.size, 0, none⟩ = some (.int .u64 y0) ∧ w.cell? ⟨X.heap.size, 1, none⟩ = some (.int .u64 y1) ∧ w.cell? ⟨X.heap.size, 2, none⟩ = some (.int .u64 y2) ∧ w.cell? ⟨X.heap.size, 3, none⟩ = some (.int .u64 y3)) ∧ Below wc.heap.size wc w) := ⟨fun w hb => by
          have h := below_blk hb HRW.out
          exact ⟨⟨by simp [World.cell?, h], by simp [World.cell?, h], by simp [World.cell?, h], by simp [World.cell?, h]⟩, hb⟩⟩
        refine wp_region_held_drew (S := (fun w => (w.cell? ⟨X.heap.size, 0, none⟩ = some (.int .u64 y0) ∧ w.cell? ⟨X.heap.size, 1, none⟩ = some (.int .u64 y1) ∧ w.cell? ⟨X.heap.size, 2, none⟩ = some (.int .u64 y2) ∧ w.cell? ⟨X.heap.size, 3, none⟩ = some (.int .u64 y3)) ∧ Below wc.heap.size wc w)) (by kernel_rfl) ⟨⟨hq0, hq1, hq2, hq3⟩, below_drew (Below.refl _ _)⟩ (fun hHeld => ?_)
        refine wpAnyH_take (i := 1) (oi := { dst := some 41, op := Op.move (Operand.tmp 0), type := 26, pos := "law.go:120", after := #[], guard := none }) (v := ?vfa1) rfl (by kernel_rfl) (by kernel_rfl) (by kernel_rfl) (fun _ _ _ h => h) (Or.inl ⟨by rfl, ?hyfa1⟩) (by assumption) ?restfa1
        case hyfa1 => (intro w hSw; (try dsimp only at hSw); first | (go_simp; done) | (go_simp; with_reducible rfl))
        try simp only [Act.put, List.setIfInBounds_toArray, List.set_cons_zero, List.set_cons_succ]
        refine wpAnyH_take (i := 2) (oi := { dst := some 42, op := Op.call { callee := Callee.builtin Builtin.len, args := #[Operand.tmp 41], argTypes := #[26] }, type := 3, pos := "law.go:120", after := #[{ on := 1, ground := Ground.data }], guard := none }) (v := ?vfa2) rfl (by kernel_rfl) (by kernel_rfl) (by kernel_rfl) (fun _ _ _ h => h) (Or.inl ⟨by rfl, ?hyfa2⟩) (by assumption) ?restfa2
        case hyfa2 => (intro w hSw; (try dsimp only at hSw); first | (go_simp; done) | (go_simp; with_reducible rfl))
        try simp only [Act.put, List.setIfInBounds_toArray, List.set_cons_zero, List.set_cons_succ]
        refine wpAnyH_take (i := 3) (oi := { dst := some 43, op := Op.convert 3 30 (Operand.tmp 42), type := 30, pos := "law.go:120", after := #[{ on := 2, ground := Ground.data }], guard := none }) (v := ?vfa3) rfl (by kernel_rfl) (by kernel_rfl) (by kernel_rfl) (fun _ _ _ h => h) (Or.inl ⟨by rfl, ?hyfa3⟩) (by assumption) ?restfa3
        case hyfa3 => (intro w hSw; (try dsimp only at hSw); first | (go_simp; done) | (go_simp; with_reducible rfl))
        try simp only [Act.put, List.setIfInBounds_toArray, List.set_cons_zero, List.set_cons_succ]
        refine wpAnyH_take (i := 4) (oi := { dst := some 44, op := Op.binOp BinOp.add 30 (Operand.const (Value.int IntKind.u64 4294967296)) (Operand.tmp 43) 30, type := 30, pos := "law.go:120", after := #[{ on := 3, ground := Ground.data }], guard := none }) (v := ?vfa4) rfl (by kernel_rfl) (by kernel_rfl) (by kernel_rfl) (fun _ _ _ h => h) (Or.inl ⟨by rfl, ?hyfa4⟩) (by assumption) ?restfa4
        case hyfa4 => (intro w hSw; (try dsimp only at hSw); first | (go_simp; done) | (go_simp; with_reducible rfl))
        try simp only [Act.put, List.setIfInBounds_toArray, List.set_cons_zero, List.set_cons_succ]
        refine wpAnyH_take (i := 5) (oi := { dst := some 45, op := Op.indexAddr 65 (Operand.tmp 5) (Operand.const (Value.int IntKind.i64 0)), type := 0, pos := "law.go:120", after := #[], guard := none }) (v := ?vfa5) rfl (by kernel_rfl) (by kernel_rfl) (by kernel_rfl) (fun _ _ _ h => h) (Or.inl ⟨by rfl, ?hyfa5⟩) (by assumption) ?restfa5
        case hyfa5 => (intro w hSw; (try dsimp only at hSw); first | (go_simp; done) | (go_simp; with_reducible rfl))
        try simp only [Act.put, List.setIfInBounds_toArray, List.set_cons_zero, List.set_cons_succ]
        refine wpAnyH_take (i := 7) (oi := { dst := some 47, op := Op.indexAddr 65 (Operand.tmp 5) (Operand.const (Value.int IntKind.i64 1)), type := 0, pos := "law.go:120", after := #[], guard := none }) (v := ?vfa7) rfl (by kernel_rfl) (by kernel_rfl) (by kernel_rfl) (fun _ _ _ h => h) (Or.inl ⟨by rfl, ?hyfa7⟩) (by assumption) ?restfa7
        case hyfa7 => (intro w hSw; (try dsimp only at hSw); first | (go_simp; done) | (go_simp; with_reducible rfl))
        try simp only [Act.put, List.setIfInBounds_toArray, List.set_cons_zero, List.set_cons_succ]
        refine wpAnyH_take (i := 9) (oi := { dst := some 49, op := Op.indexAddr 65 (Operand.tmp 5) (Operand.const (Value.int IntKind.i64 2)), type := 0, pos := "law.go:120", after := #[], guard := none }) (v := ?vfa9) rfl (by kernel_rfl) (by kernel_rfl) (by kernel_rfl) (fun _ _ _ h => h) (Or.inl ⟨by rfl, ?hyfa9⟩) (by assumption) ?restfa9
        case hyfa9 => (intro w hSw; (try dsimp only at hSw); first | (go_simp; done) | (go_simp; with_reducible rfl))
        try simp only [Act.put, List.setIfInBounds_toArray, List.set_cons_zero, List.set_cons_succ]
        refine wpAnyH_take (i := 11) (oi := { dst := some 51, op := Op.indexAddr 65 (Operand.tmp 5) (Operand.const (Value.int IntKind.i64 3)), type := 0, pos := "law.go:120", after := #[], guard := none }) (v := ?vfa11) rfl (by kernel_rfl) (by kernel_rfl) (by kernel_rfl) (fun _ _ _ h => h) (Or.inl ⟨by rfl, ?hyfa11⟩) (by assumption) ?restfa11
        case hyfa11 => (intro w hSw; (try dsimp only at hSw); first | (go_simp; done) | (go_simp; with_reducible rfl))
        try simp only [Act.put, List.setIfInBounds_toArray, List.set_cons_zero, List.set_cons_succ]
        refine wpAnyH_take (i := 6) (oi := { dst := some 46, op := Op.load 30 (Operand.tmp 45), type := 30, pos := "law.go:120", after := #[{ on := 5, ground := Ground.data }], guard := none }) (v := ?vfa6) rfl (by kernel_rfl) (by kernel_rfl) (by kernel_rfl) (fun _ _ _ h => h) (Or.inl ⟨by rfl, ?hyfa6⟩) (by assumption) ?restfa6
        case hyfa6 => (intro w hSw; (try dsimp only at hSw); first | (go_simp; done) | (go_simp; with_reducible rfl))
        try simp only [Act.put, List.setIfInBounds_toArray, List.set_cons_zero, List.set_cons_succ]
        refine wpAnyH_take (i := 8) (oi := { dst := some 48, op := Op.load 30 (Operand.tmp 47), type := 30, pos := "law.go:120", after := #[{ on := 7, ground := Ground.data }], guard := none }) (v := ?vfa8) rfl (by kernel_rfl) (by kernel_rfl) (by kernel_rfl) (fun _ _ _ h => h) (Or.inl ⟨by rfl, ?hyfa8⟩) (by assumption) ?restfa8
        case hyfa8 => (intro w hSw; (try dsimp only at hSw); first | (go_simp; done) | (go_simp; with_reducible rfl))
        try simp only [Act.put, List.setIfInBounds_toArray, List.set_cons_zero, List.set_cons_succ]
        refine wpAnyH_take (i := 10) (oi := { dst := some 50, op := Op.load 30 (Operand.tmp 49), type := 30, pos := "law.go:120", after := #[{ on := 9, ground := Ground.data }], guard := none }) (v := ?vfa10) rfl (by kernel_rfl) (by kernel_rfl) (by kernel_rfl) (fun _ _ _ h => h) (Or.inl ⟨by rfl, ?hyfa10⟩) (by assumption) ?restfa10
        case hyfa10 => (intro w hSw; (try dsimp only at hSw); first | (go_simp; done) | (go_simp; with_reducible rfl))
        try simp only [Act.put, List.setIfInBounds_toArray, List.set_cons_zero, List.set_cons_succ]
        refine wpAnyH_take (i := 12) (oi := { dst := some 52, op := Op.load 30 (Operand.tmp 51), type := 30, pos := "law.go:120", after := #[{ on := 11, ground := Ground.data }], guard := none }) (v := ?vfa12) rfl (by kernel_rfl) (by kernel_rfl) (by kernel_rfl) (fun _ _ _ h => h) (Or.inl ⟨by rfl, ?hyfa12⟩) (by assumption) ?restfa12
        case hyfa12 => (intro w hSw; (try dsimp only at hSw); first | (go_simp; done) | (go_simp; with_reducible rfl))
        try simp only [Act.put, List.setIfInBounds_toArray, List.set_cons_zero, List.set_cons_succ]
        refine wpAnyH_ready (rs := [0, 14]) (by kernel_rfl) (by simp) (AllReadyH.cons (o := { dst := some 40, op := Op.call { callee := Callee.value (Operand.func 10), args := #[Operand.const (Value.int IntKind.i64 0)], argTypes := #[3] }, type := 30, pos := "law.go:120", after := #[], guard := none }) rfl (fun K hK => ?stepA) (AllReadyH.cons (o := { dst := some 10, op := Op.alloc 33, type := 0, pos := "law.go:120", after := #[], guard := none }) rfl (fun K hK => ?stepB) AllReadyH.nil))
        case stepA =>
          go_simp
          go_at_call 10
          refine (HHD.out _).mono ?_
          rintro e wd ⟨rfl, k, hwd⟩
          have hdr : Below wc.heap.size wc wd := by rw [hwd]; exact pw_below_drewN (below_drew (Below.refl _ _)) _
          have HDR := Aside0.mk hdr
          try dsimp only
          refine hK.out _ _ (HS.out _ hdr) (fun hHeld => ?_)
          clear hdr hwd hK K
          try simp only [Act.put, List.setIfInBounds_toArray, List.set_cons_zero, List.set_cons_succ]
          refine wpAnyH_take (i := 13) (oi := { dst := some 53, op := Op.build 33 #[(1, Operand.tmp 40), (2, Operand.const (Value.int IntKind.u64 4294967296)), (3, Operand.tmp 44), (6, Operand.tmp 46), (7, Operand.tmp 48), (8, Operand.tmp 50), (9, Operand.tmp 52)], type := 33, pos := "law.go:120", after := #[{ on := 0, ground := Ground.data }, { on := 4, ground := Ground.data }, { on := 6, ground := Ground.data }, { on := 8, ground := Ground.data }, { on := 10, ground := Ground.data }, { on := 12, ground := Ground.data }], guard := none }) (v := ?vfb13) rfl (by kernel_rfl) (by kernel_rfl) (by kernel_rfl) (fun _ _ _ h => h) (Or.inl ⟨by rfl, ?hyfb13⟩) (by assumption) ?restfb13
          case hyfb13 => (intro w hSw; (try dsimp only at hSw); first | (go_simp; done) | (go_simp; with_reducible rfl))
          try simp only [Act.put, List.setIfInBounds_toArray, List.set_cons_zero, List.set_cons_succ]
          refine wpAnyH_ready (rs := [14]) (by kernel_rfl) (by simp) (AllReadyH.cons (o := { dst := some 10, op := Op.alloc 33, type := 0, pos := "law.go:120", after := #[], guard := none }) rfl (fun K hK => ?stepA14) AllReadyH.nil)
          go_simp
          try dsimp only
          refine hK.out _ _ (HS.out _ (below_alloc HDR.out _)) (fun hHeld => ?_)
          clear hK K
          try simp only [Act.put, List.setIfInBounds_toArray, List.set_cons_zero, List.set_cons_succ]
          refine wpAnyH_ready (rs := [15]) (by kernel_rfl) (by simp) (AllReadyH.cons (o := { dst := none, op := Op.store 33 (Operand.tmp 10) (Operand.tmp 53), type := 0, pos := "law.go:120", after := #[{ on := 14, ground := Ground.data }, { on := 13, ground := Ground.data }, { on := 0, ground := Ground.chain }, { on := 0, ground := Ground.phase }, { on := 1, ground := Ground.phase }, { on := 2, ground := Ground.phase }, { on := 3, ground := Ground.phase }, { on := 4, ground := Ground.phase }, { on := 5, ground := Ground.phase }, { on := 6, ground := Ground.phase }, { on := 7, ground := Ground.phase }, { on := 8, ground := Ground.phase }, { on := 9, ground := Ground.phase }, { on := 10, ground := Ground.phase }, { on := 11, ground := Ground.phase }, { on := 12, ground := Ground.phase }, { on := 13, ground := Ground.phase }, { on := 14, ground := Ground.phase }], guard := none }) rfl (fun K hK => ?stepA15) AllReadyH.nil)
          go_simp
          try dsimp only
          obtain ⟨W15, hW15⟩ : ∃ W15, (wd.alloc (.cells #[.int .u64 0, .int .u64 2305843009213693952, .int .u64 4294967296, .int .u64 (4294967296 + (key.length : Int)), .int .u64 0, .int .u64 0, .int .u64 y0, .int .u64 y1, .int .u64 y2, .int .u64 y3, .int .u64 0] 33)) = W15 := ⟨_, rfl⟩
          have HB15 : Aside0 (Below wc.heap.size wc W15) := ⟨by rw [← hW15]; exact (below_alloc HDR.out _)⟩
          have HH15 : Aside0 (W15.heap[wd.heap.size]? = some (.cells #[.int .u64 0, .int .u64 2305843009213693952, .int .u64 4294967296, .int .u64 (4294967296 + (key.length : Int)), .int .u64 0, .int .u64 0, .int .u64 y0, .int .u64 y1, .int .u64 y2, .int .u64 y3, .int .u64 0] 33 (0, 0))) := ⟨by rw [← hW15]; exact (heap_alloc_new wd _)⟩
          have HL15 : Aside0 (wc.heap.size ≤ wd.heap.size) := ⟨HDR.out.size⟩
          rw [hW15] at *
          refine hK.out _ _ (HS.out _ HB15.out) (fun hHeld => ?_)
          clear hK K hW15
          try simp only [Act.put, List.setIfInBounds_toArray, List.set_cons_zero, List.set_cons_succ]
          refine wpAnyH_done (by kernel_rfl) ?_ _
          go_wp2_with fail
          go_meet
          exact ⟨_, _, rfl, ⟨HM.out.more HB15.out⟩, HH15, ⟨below_blk HB15.out HRW.out⟩, ⟨⟨.inr ⟨HL15.out, (Array.getElem?_eq_some_iff.1 HH15.out).1⟩, .inl (HM.out.2.2.1 _ HXB.out)⟩⟩, ⟨HB12.out.trans (HB15.out.mono HB12.out.size)⟩⟩
        case stepB =>
          go_simp
          try dsimp only
          refine hK.out _ _ (HS.out _ (by first | exact below_drew (below_alloc (Below.refl _ _) _) | exact below_alloc (below_drew (Below.refl _ _)) _)) (fun hHeld => ?_)
          clear hK K
          try simp only [Act.put, List.setIfInBounds_toArray, List.set_cons_zero, List.set_cons_succ]
          refine wpAnyH_ready (rs := [0]) (by kernel_rfl) (by simp) (AllReadyH.cons (o := { dst := some 40, op := Op.call { callee := Callee.value (Operand.func 10), args := #[Operand.const (Value.int IntKind.i64 0)], argTypes := #[3] }, type := 30, pos := "law.go:120", after := #[], guard := none }) rfl (fun K hK => ?stepB0) AllReadyH.nil)
          go_simp
          go_at_call 10
          refine (HHD.out _).mono ?_
          rintro e wd ⟨rfl, k, hwd⟩
          have hdr : Below wc.heap.size wc wd := by rw [hwd]; exact pw_below_drewN (below_drew (below_alloc (Below.refl _ _) _)) _
          have hG : wd.heap[wc.heap.size]? = some (.cells #[.int .u64 0, .int .u64 0, .int .u64 0, .int .u64 0, .int .u64 0, .int .u64 0, .int .u64 0, .int .u64 0, .int .u64 0, .int .u64 0, .int .u64 0] 33 (0, 0)) := by rw [hwd]; exact heap_alloc_new wc _
          have cz0 : wd.cell? ⟨wc.heap.size, 0, none⟩ = some (.int .u64 0) := by simp [World.cell?, hG]
          have fz0 : wd.frozen? ⟨wc.heap.size, 0, none⟩ = false := by simp [World.frozen?, hG]
          have cz1 : wd.cell? ⟨wc.heap.size, 1, none⟩ = some (.int .u64 0) := by simp [World.cell?, hG]
          have fz1 : wd.frozen? ⟨wc.heap.size, 1, none⟩ = false := by simp [World.frozen?, hG]
          have cz2 : wd.cell? ⟨wc.heap.size, 2, none⟩ = some (.int .u64 0) := by simp [World.cell?, hG]
          have fz2 : wd.frozen? ⟨wc.heap.size, 2, none⟩ = false := by simp [World.frozen?, hG]
          have cz3 : wd.cell? ⟨wc.heap.size, 3, none⟩ = some (.int .u64 0) := by simp [World.cell?, hG]
          have fz3 : wd.frozen? ⟨wc.heap.size, 3, none⟩ = false := by simp [World.frozen?, hG]
          have cz4 : wd.cell? ⟨wc.heap.size, 4, none⟩ = some (.int .u64 0) := by simp [World.cell?, hG]
          have fz4 : wd.frozen? ⟨wc.heap.size, 4, none⟩ = false := by simp [World.frozen?, hG]
          have cz5 : wd.cell? ⟨wc.heap.size, 5, none⟩ = some (.int .u64 0) := by simp [World.cell?, hG]
          have fz5 : wd.frozen? ⟨wc.heap.size, 5, none⟩ = false := by simp [World.frozen?, hG]
          have cz6 : wd.cell? ⟨wc.heap.size, 6, none⟩ = some (.int .u64 0) := by simp [World.cell?, hG]
          have fz6 : wd.frozen? ⟨wc.heap.size, 6, none⟩ = false := by simp [World.frozen?, hG]
          have cz7 : wd.cell? ⟨wc.heap.size, 7, none⟩ = some (.int .u64 0) := by simp [World.cell?, hG]
          have fz7 : wd.frozen? ⟨wc.heap.size, 7, none⟩ = false := by simp [World.frozen?, hG]
          have cz8 : wd.cell? ⟨wc.heap.size, 8, none⟩ = some (.int .u64 0) := by simp [World.cell?, hG]
          have fz8 : wd.frozen? ⟨wc.heap.size, 8, none⟩ = false := by simp [World.frozen?, hG]
          have cz9 : wd.cell? ⟨wc.heap.size, 9, none⟩ = some (.int .u64 0) := by simp [World.cell?, hG]
          have fz9 : wd.frozen? ⟨wc.heap.size, 9, none⟩ = false := by simp [World.frozen?, hG]
          have cz10 : wd.cell? ⟨wc.heap.size, 10, none⟩ = some (.int .u64 0) := by simp [World.cell?, hG]
          have fz10 : wd.frozen? ⟨wc.heap.size, 10, none⟩ = false := by simp [World.frozen?, hG]
          have HW15 : Aside0 (Below wc.heap.size wc (((((((((((wd.setCell ⟨wc.heap.size, 0, none⟩ (.int .u64 0)).setCell ⟨wc.heap.size, 1, none⟩ (.int .u64 2305843009213693952)).setCell ⟨wc.heap.size, 2, none⟩ (.int .u64 4294967296)).setCell ⟨wc.heap.size, 3, none⟩ (.int .u64 (4294967296 + (key.length : Int)))).setCell ⟨wc.heap.size, 4, none⟩ (.int .u64 0)).setCell ⟨wc.heap.size, 5, none⟩ (.int .u64 0)).setCell ⟨wc.heap.size, 6, none⟩ (.int .u64 y0)).setCell ⟨wc.heap.size, 7, none⟩ (.int .u64 y1)).setCell ⟨wc.heap.size, 8, none⟩ (.int .u64 y2)).setCell ⟨wc.heap.size, 9, none⟩ (.int .u64 y3)).setCell ⟨wc.heap.size, 10, none⟩ (.int .u64 0)) ∧ (((((((((((wd.setCell ⟨wc.heap.size, 0, none⟩ (.int .u64 0)).setCell ⟨wc.heap.size, 1, none⟩ (.int .u64 2305843009213693952)).setCell ⟨wc.heap.size, 2, none⟩ (.int .u64 4294967296)).setCell ⟨wc.heap.size, 3, none⟩ (.int .u64 (4294967296 + (key.length : Int)))).setCell ⟨wc.heap.size, 4, none⟩ (.int .u64 0)).setCell ⟨wc.heap.size, 5, none⟩ (.int .u64 0)).setCell ⟨wc.heap.size, 6, none⟩ (.int .u64 y0)).setCell ⟨wc.heap.size, 7, none⟩ (.int .u64 y1)).setCell ⟨wc.heap.size, 8, none⟩ (.int .u64 y2)).setCell ⟨wc.heap.size, 9, none⟩ (.int .u64 y3)).setCell ⟨wc.heap.size, 10, none⟩ (.int .u64 0)).heap[wc.heap.size]? = some (.cells #[.int .u64 0, .int .u64 2305843009213693952, .int .u64 4294967296, .int .u64 (4294967296 + (key.length : Int)), .int .u64 0, .int .u64 0, .int .u64 y0, .int .u64 y1, .int .u64 y2, .int .u64 y3, .int .u64 0] 33 (0, 0))) := ⟨(Below.setCell (p := ⟨wc.heap.size, 10, none⟩) (Below.setCell (p := ⟨wc.heap.size, 9, none⟩) (Below.setCell (p := ⟨wc.heap.size, 8, none⟩) (Below.setCell (p := ⟨wc.heap.size, 7, none⟩) (Below.setCell (p := ⟨wc.heap.size, 6, none⟩) (Below.setCell (p := ⟨wc.heap.size, 5, none⟩) (Below.setCell (p := ⟨wc.heap.size, 4, none⟩) (Below.setCell (p := ⟨wc.heap.size, 3, none⟩) (Below.setCell (p := ⟨wc.heap.size, 2, none⟩) (Below.setCell (p := ⟨wc.heap.size, 1, none⟩) (Below.setCell (p := ⟨wc.heap.size, 0, none⟩) hdr (Nat.le_refl _) (.int .u64 0)) (Nat.le_refl _) (.int .u64 2305843009213693952)) (Nat.le_refl _) (.int .u64 4294967296)) (Nat.le_refl _) (.int .u64 (4294967296 + (key.length : Int)))) (Nat.le_refl _) (.int .u64 0)) (Nat.le_refl _) (.int .u64 0)) (Nat.le_refl _) (.int .u64 y0)) (Nat.le_refl _) (.int .u64 y1)) (Nat.le_refl _) (.int .u64 y2)) (Nat.le_refl _) (.int .u64 y3)) (Nat.le_refl _) (.int .u64 0)), (blk_put (blk_put (blk_put (blk_put (blk_put (blk_put (blk_put (blk_put (blk_put (blk_put (blk_put hG 0 (.int .u64 0) rfl) 1 (.int .u64 2305843009213693952) rfl) 2 (.int .u64 4294967296) rfl) 3 (.int .u64 (4294967296 + (key.length : Int))) rfl) 4 (.int .u64 0) rfl) 5 (.int .u64 0) rfl) 6 (.int .u64 y0) rfl) 7 (.int .u64 y1) rfl) 8 (.int .u64 y2) rfl) 9 (.int .u64 y3) rfl) 10 (.int .u64 0) rfl)⟩
          try dsimp only
          refine hK.out _ _ (HS.out _ hdr) (fun hHeld => ?_)
          clear hwd hG hdr hK K
          try simp only [Act.put, List.setIfInBounds_toArray, List.set_cons_zero, List.set_cons_succ]
          refine wpAnyH_take (i := 13) (oi := { dst := some 53, op := Op.build 33 #[(1, Operand.tmp 40), (2, Operand.const (Value.int IntKind.u64 4294967296)), (3, Operand.tmp 44), (6, Operand.tmp 46), (7, Operand.tmp 48), (8, Operand.tmp 50), (9, Operand.tmp 52)], type := 33, pos := "law.go:120", after := #[{ on := 0, ground := Ground.data }, { on := 4, ground := Ground.data }, { on := 6, ground := Ground.data }, { on := 8, ground := Ground.data }, { on := 10, ground := Ground.data }, { on := 12, ground := Ground.data }], guard := none }) (v := ?vfc13) rfl (by kernel_rfl) (by kernel_rfl) (by kernel_rfl) (fun _ _ _ h => h) (Or.inl ⟨by rfl, ?hyfc13⟩) (by assumption) ?restfc13
          case hyfc13 => (intro w hSw; (try dsimp only at hSw); first | (go_simp; done) | (go_simp; with_reducible rfl))
          try simp only [Act.put, List.setIfInBounds_toArray, List.set_cons_zero, List.set_cons_succ]
          refine wpAnyH_ready (rs := [15]) (by kernel_rfl) (by simp) (AllReadyH.cons (o := { dst := none, op := Op.store 33 (Operand.tmp 10) (Operand.tmp 53), type := 0, pos := "law.go:120", after := #[{ on := 14, ground := Ground.data }, { on := 13, ground := Ground.data }, { on := 0, ground := Ground.chain }, { on := 0, ground := Ground.phase }, { on := 1, ground := Ground.phase }, { on := 2, ground := Ground.phase }, { on := 3, ground := Ground.phase }, { on := 4, ground := Ground.phase }, { on := 5, ground := Ground.phase }, { on := 6, ground := Ground.phase }, { on := 7, ground := Ground.phase }, { on := 8, ground := Ground.phase }, { on := 9, ground := Ground.phase }, { on := 10, ground := Ground.phase }, { on := 11, ground := Ground.phase }, { on := 12, ground := Ground.phase }, { on := 13, ground := Ground.phase }, { on := 14, ground := Ground.phase }], guard := none }) rfl (fun K hK => ?stepB15) AllReadyH.nil)
          go_simp
          try dsimp only
          obtain ⟨W15, hW15⟩ : ∃ W15, (((((((((((wd.setCell ⟨wc.heap.size, 0, none⟩ (.int .u64 0)).setCell ⟨wc.heap.size, 1, none⟩ (.int .u64 2305843009213693952)).setCell ⟨wc.heap.size, 2, none⟩ (.int .u64 4294967296)).setCell ⟨wc.heap.size, 3, none⟩ (.int .u64 (4294967296 + (key.length : Int)))).setCell ⟨wc.heap.size, 4, none⟩ (.int .u64 0)).setCell ⟨wc.heap.size, 5, none⟩ (.int .u64 0)).setCell ⟨wc.heap.size, 6, none⟩ (.int .u64 y0)).setCell ⟨wc.heap.size, 7, none⟩ (.int .u64 y1)).setCell ⟨wc.heap.size, 8, none⟩ (.int .u64 y2)).setCell ⟨wc.heap.size, 9, none⟩ (.int .u64 y3)).setCell ⟨wc.heap.size, 10, none⟩ (.int .u64 0)) = W15 := ⟨_, rfl⟩
          have HB15 : Aside0 (Below wc.heap.size wc W15) := ⟨by rw [← hW15]; exact HW15.out.1⟩
          have HH15 : Aside0 (W15.heap[wc.heap.size]? = some (.cells #[.int .u64 0, .int .u64 2305843009213693952, .int .u64 4294967296, .int .u64 (4294967296 + (key.length : Int)), .int .u64 0, .int .u64 0, .int .u64 y0, .int .u64 y1, .int .u64 y2, .int .u64 y3, .int .u64 0] 33 (0, 0))) := ⟨by rw [← hW15]; exact HW15.out.2⟩
          have HL15 : Aside0 (wc.heap.size ≤ wc.heap.size) := ⟨(Nat.le_refl wc.heap.size)⟩
          rw [hW15] at *
          refine hK.out _ _ (HS.out _ HB15.out) (fun hHeld => ?_)
          clear hK K hW15
          try simp only [Act.put, List.setIfInBounds_toArray, List.set_cons_zero, List.set_cons_succ]
          refine wpAnyH_done (by kernel_rfl) ?_ _
          go_wp2_with fail
          go_meet
          exact ⟨_, _, rfl, ⟨HM.out.more HB15.out⟩, HH15, ⟨below_blk HB15.out HRW.out⟩, ⟨⟨.inr ⟨HL15.out, (Array.getElem?_eq_some_iff.1 HH15.out).1⟩, .inl (HM.out.2.2.1 _ HXB.out)⟩⟩, ⟨HB12.out.trans (HB15.out.mono HB12.out.size)⟩⟩
      case rest =>
        obtain ⟨br, F20, rfl, HM20, Kr, Ky, HF20, HB20⟩ := hcut
        rename World => W20
        go_wp2_with (first | (refine wpList_load_row rfl _ _ rfl _ rfl _ _ _ _ Kr.out Tryd.underlying33 rfl HIN.out ?_))
        refine (call_ok _ B 0 F20 t m (kS key.length value.length 1 [] 0) (fK0 key value) 2 0 2305843009213693952 4294967296 (4294967296 + (key.length : Int)) 0 0 y0 y1 y2 y3 0 HM20.out (by decide) (show 1 ≤ 99999 by decide) (HKS.out _ _) (by decide) (by decide) (by decide) (by decide) (by have := HLEN.out; omega) (by have := HLEN.out; omega) (by decide) 0 _ _ (fd_put key value HLEN.out.1 HLEN.out.2.1 HLEN.out.2.2.1 HLEN.out.2.2.2)).mono ?_
        rintro e w21 ⟨rfl, hm, hk⟩
        have HB21 : Aside0 (Below X0.heap.size X0 w21) := ⟨HB20.out.trans ((hk.below HM20.out.1 HM20.out.2.2.1).mono HBN.out)⟩
        have HM21 := Aside0.mk hm
        have hr := kept_blk hk Kr.out (HF20.out.1)
        clear Kr
        have Kr := Aside0.mk hr
        clear hr
        have hy := kept_blk hk Ky.out (HF20.out.2)
        clear Ky
        have Ky := Aside0.mk hy
        clear hy
        clear hm hk
        go_upto_region 9 with (fail)
        obtain ⟨F23, fF23, fb23, hm, hh⟩ := box_new HM21.out #[.int .u64 0, .int .u64 0, .int .u64 0, .int .u64 0, .int .u64 0, .int .u64 0, .int .u64 y0, .int .u64 y1, .int .u64 y2, .int .u64 y3, .int .u64 0] 33
        have hb := below_alloc HB21.out (.cells #[.int .u64 0, .int .u64 0, .int .u64 0, .int .u64 0, .int .u64 0, .int .u64 0, .int .u64 y0, .int .u64 y1, .int .u64 y2, .int .u64 y3, .int .u64 0] 33)
        have hr := below_blk (below_alloc (Below.refl (w21).heap.size (w21)) (.cells #[.int .u64 0, .int .u64 0, .int .u64 0, .int .u64 0, .int .u64 0, .int .u64 0, .int .u64 y0, .int .u64 y1, .int .u64 y2, .int .u64 y3, .int .u64 0] 33)) Kr.out
        have hy := below_blk (below_alloc (Below.refl (w21).heap.size (w21)) (.cells #[.int .u64 0, .int .u64 0, .int .u64 0, .int .u64 0, .int .u64 0, .int .u64 0, .int .u64 y0, .int .u64 y1, .int .u64 y2, .int .u64 y3, .int .u64 0] 33)) Ky.out
        obtain ⟨W23, hW⟩ : ∃ W, World.alloc (w21) (.cells #[.int .u64 0, .int .u64 0, .int .u64 0, .int .u64 0, .int .u64 0, .int .u64 0, .int .u64 y0, .int .u64 y1, .int .u64 y2, .int .u64 y3, .int .u64 0] 33) = W := ⟨_, rfl⟩
        rw [hW] at hm hh hb hr hy ⊢
        obtain ⟨bp1, hbn⟩ : ∃ b, (w21).heap.size = b := ⟨_, rfl⟩
        rw [hbn] at hh fb23 ⊢
        have HM23 := Aside0.mk hm
        have HB23 := Aside0.mk hb
        clear Kr
        have Kr := Aside0.mk hr
        clear Ky
        have Ky := Aside0.mk hy
        have Kp1 := Aside0.mk hh
        clear hW hbn hm hh hb hr hy
        go_wp2_with (first | (refine wpList_load_row rfl _ _ rfl _ rfl _ _ _ _ Kr.out Tryd.underlying33 rfl HIN.out ?_))
        refine (call_ok _ B 1 F23 t m (kS key.length value.length 1 [(key, 0)] 1) (fK1 key value) 1 0 2305843009213693952 4294967296 (4294967296 + (key.length : Int)) 0 0 y0 y1 y2 y3 0 HM23.out (by decide) (show 2 ≤ 99999 by decide) (HKS.out _ _) (by decide) (by decide) (by decide) (by decide) (by have := HLEN.out; omega) (by have := HLEN.out; omega) (by decide) 4611686018427387904 _ _ (fd_look1 key value HLEN.out.1 HLEN.out.2.1 HLEN.out.2.2.1 HLEN.out.2.2.2 _)).mono ?_
        rintro e w24 ⟨rfl, hm, hk⟩
        have HB24 : Aside0 (Below X0.heap.size X0 w24) := ⟨HB23.out.trans ((hk.below HM23.out.1 HM23.out.2.2.1).mono HBN.out)⟩
        have HM24 := Aside0.mk hm
        have hr := kept_blk hk Kr.out (fF23 _ (HF20.out.1))
        clear Kr
        have Kr := Aside0.mk hr
        clear hr
        have hy := kept_blk hk Ky.out (fF23 _ (HF20.out.2))
        clear Ky
        have Ky := Aside0.mk hy
        clear hy
        have hp1 := kept_blk hk Kp1.out (fb23)
        clear Kp1
        have Kp1 := Aside0.mk hp1
        clear hp1
        clear hm hk
        go_upto_region 10 with (fail)
        obtain ⟨F25, fF25, fb25, hm, hh⟩ := box_new HM24.out #[.int .u64 4611686018427387904, .int .u64 0, .int .u64 0, .int .u64 0, .int .u64 0, .int .u64 0, .int .u64 y0, .int .u64 y1, .int .u64 y2, .int .u64 y3, .int .u64 0] 33
        have hb := below_alloc HB24.out (.cells #[.int .u64 4611686018427387904, .int .u64 0, .int .u64 0, .int .u64 0, .int .u64 0, .int .u64 0, .int .u64 y0, .int .u64 y1, .int .u64 y2, .int .u64 y3, .int .u64 0] 33)
        have hr := below_blk (below_alloc (Below.refl (w24).heap.size (w24)) (.cells #[.int .u64 4611686018427387904, .int .u64 0, .int .u64 0, .int .u64 0, .int .u64 0, .int .u64 0, .int .u64 y0, .int .u64 y1, .int .u64 y2, .int .u64 y3, .int .u64 0] 33)) Kr.out
        have hy := below_blk (below_alloc (Below.refl (w24).heap.size (w24)) (.cells #[.int .u64 4611686018427387904, .int .u64 0, .int .u64 0, .int .u64 0, .int .u64 0, .int .u64 0, .int .u64 y0, .int .u64 y1, .int .u64 y2, .int .u64 y3, .int .u64 0] 33)) Ky.out
        have hp1 := below_blk (below_alloc (Below.refl (w24).heap.size (w24)) (.cells #[.int .u64 4611686018427387904, .int .u64 0, .int .u64 0, .int .u64 0, .int .u64 0, .int .u64 0, .int .u64 y0, .int .u64 y1, .int .u64 y2, .int .u64 y3, .int .u64 0] 33)) Kp1.out
        obtain ⟨W25, hW⟩ : ∃ W, World.alloc (w24) (.cells #[.int .u64 4611686018427387904, .int .u64 0, .int .u64 0, .int .u64 0, .int .u64 0, .int .u64 0, .int .u64 y0, .int .u64 y1, .int .u64 y2, .int .u64 y3, .int .u64 0] 33) = W := ⟨_, rfl⟩
        rw [hW] at hm hh hb hr hy hp1 ⊢
        obtain ⟨bp2, hbn⟩ : ∃ b, (w24).heap.size = b := ⟨_, rfl⟩
        rw [hbn] at hh fb25 ⊢
        have HM25 := Aside0.mk hm
        have HB25 := Aside0.mk hb
        clear Kr
        have Kr := Aside0.mk hr
        clear Ky
        have Ky := Aside0.mk hy
        clear Kp1
        have Kp1 := Aside0.mk hp1
        have Kp2 := Aside0.mk hh
        clear hW hbn hm hh hb hr hy hp1
        have hq := Kp2.out
        have c0 : W25.cell? ⟨bp2, 0, none⟩ = some (.int .u64 4611686018427387904) := by simp [World.cell?, hq]
        clear hq
        go_wp2_with fail
        refine (lm_bytes W25 B _ t m _ (fK1 key value) 4611686018427387904 value.length HM25.out.lm (show 2 ≤ 999999 by decide) (by decide) (by decide) (by omega) (by have := HLEN.out; omega)).mono ?_
        rintro e w26 ⟨hb26, v26, rfl, hr26⟩
        have hfb := fb_new key value HLEN.out.2.2.1
        rw [hfb] at hr26 ⊢
        obtain ⟨A26, c26, rfl, hc26, hC26⟩ := (byteS_R hr26).C
        have HC26 : Aside0 (Kd.C (Kd.int .u8) w26 A26 value.length value ∧ value.length ≤ c26) := ⟨hC26, hc26⟩
        have HB26 : Aside0 (Below X0.heap.size X0 w26) := ⟨HB25.out.trans (hb26.mono HB25.out.size)⟩
        have hp1 := below_blk hb26 Kp1.out
        have hp2 := below_blk hb26 Kp2.out
        have hy := below_blk hb26 Ky.out
        clear Kp1 Kp2 Ky
        have Kp1 := Aside0.mk hp1
        have Kp2 := Aside0.mk hp2
        have Ky := Aside0.mk hy
        clear hb26 hr26 hC26 hc26 hfb hp1 hp2 hy c0
        go_wp2_with fail
        refine (halive_c w26 (HL.out.below HB26.out)).mono ?_
        rintro e w28 ⟨rfl, hb28⟩
        have HB28 : Aside0 (Below X0.heap.size X0 w28) := ⟨HB26.out.trans (hb28.mono HB26.out.size)⟩
        have HC28 := Aside0.mk (Kd.C_below HC26.out.1 hb28)
        have h1 := below_blk hb28 Kp1.out
        have h2 := below_blk hb28 Kp2.out
        have h3 := below_blk hb28 Ky.out
        have c10 : w28.cell? ⟨bp1, 0, none⟩ = some (.int .u64 0) := by simp [World.cell?, h1]
        have c16 : w28.cell? ⟨bp1, 6, none⟩ = some (.int .u64 y0) := by simp [World.cell?, h1]
        have c29 : w28.cell? ⟨bp2, 9, none⟩ = some (.int .u64 y3) := by simp [World.cell?, h2]
        have cy0 : w28.cell? ⟨X.heap.size, 0, none⟩ = some (.int .u64 y0) := by simp [World.cell?, h3]
        have cy3 : w28.cell? ⟨X.heap.size, 3, none⟩ = some (.int .u64 y3) := by simp [World.cell?, h3]
        have HV28 : Aside0 (Kd.C (Kd.int .u8) w28 (some a1) value.length value) := ⟨Kd.C_below HR1.out HB28.out⟩
        clear hb28 h1 h2 h3
        go_wp2_with fail
        refine (same_c A26 c26 value (some a1) c1 value w28 HC28.out HC26.out.2 HV28.out HC1.out (by have := HLEN.out; omega) true (by simp)).mono ?_
        rintro e w29 ⟨rfl, k29, rfl⟩
        have HB29 : Aside0 (Below X0.heap.size X0 (w28.drewN k29)) := ⟨pw_below_drewN HB28.out _⟩
        go_wp2_with fail
        go_ret
        exact ⟨rfl, HB29.out⟩
  · have HC9 := Aside0.mk (HCK.out 9 (by rw [if_neg hs]))
    clear hs
    go_enter Tryd.func5, Tryd.ntmps5
    go_wp2_with fail
    rw [HX0E.out, HS0.out, HW1.out, HS1.out]
    refine HC9.out.mono ?_
    rintro e w3 ⟨rfl, hb3⟩
    have HB3 : Aside0 (Below X0.heap.size X0 w3) := ⟨HX1.out.trans (hb3.mono HX1.out.size)⟩
    clear hb3 q0 q1 q2 q3
    go_wp2_with fail
    refine (halive_c w3 (HL.out.below HB3.out)).mono ?_
    rintro e w4 ⟨rfl, hb4⟩
    have HB4 : Aside0 (Below X0.heap.size X0 w4) := ⟨HB3.out.trans (hb4.mono HB3.out.size)⟩
    clear hb4
    go_wp2_with fail
    go_ret
    exact ⟨rfl, HB4.out⟩
end Go.Proofs.YtomnfkihieinbaaDoor.PAll
