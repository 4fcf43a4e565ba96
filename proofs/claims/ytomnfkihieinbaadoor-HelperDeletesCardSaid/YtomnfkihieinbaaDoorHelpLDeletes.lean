/- helper: the law HelperDeletes. Written by gen_fd.py. -/
import Derived.Test.YtomnfkihieinbaaDoorGHelpD
import Derived.Deep.DeepCutAuto
set_option linter.unusedVariables false
set_option linter.unusedSimpArgs false
namespace Go.Proofs.YtomnfkihieinbaaDoor.PAll
open Go.RowKit Go.Shelf Go.Maps Go.Proofs.YtomnfkihieinbaaDoorW.PrintWords Go.Proofs.YtomnfkihieinbaaDoorW.PrintLast Go.Proofs.YtomnfkihieinbaaDoorW.PrintMore
set_option maxHeartbeats 16000000 in
set_option maxRecDepth 100000 in
theorem helperDeletes_c (X : World) (hL : LaidH X) (A0 A1 : Option Addr) (c0 c1 : Nat) (key value : List Int) (extra : Bool) (hr0 : Kd.C (Kd.int .u8) X A0 key.length key) (hr1 : Kd.C (Kd.int .u8) X A1 value.length value) (hc0 : key.length ≤ c0) (hc1 : value.length ≤ c1) (hw0 : IsBytes key) (hw1 : IsBytes value) :
    Calls Tryd.prog 8 #[.slice A0 key.length c0, .slice A1 value.length c1, .bool extra] X fun e X' => e = .returned (.bool true) ∧ Below X.heap.size X X' := by
  have HL := Aside0.mk hL
  have HR0 := Aside0.mk hr0
  have HR1 := Aside0.mk hr1
  have HC0 := Aside0.mk hc0
  have HC1 := Aside0.mk hc1
  have HB0 := Aside0.mk hw0
  have HB1 := Aside0.mk hw1
  clear hL hr0 hr1 hc0 hc1 hw0 hw1
  obtain ⟨d, hd⟩ : ∃ d : S28, (⟨⟨#[]⟩, key.length, value.length, 1⟩ : S28) = d := ⟨_, rfl⟩
  have HD := Aside0.mk hd
  clear hd
  obtain ⟨nk, hnk⟩ : ∃ nk, key.length = nk := ⟨_, rfl⟩
  obtain ⟨nv, hnv⟩ : ∃ nv, value.length = nv := ⟨_, rfl⟩
  have HNK := Aside0.mk hnk
  have HNV := Aside0.mk hnv
  rw [hnk, hnv] at HD
  rw [hnk] at HC0 HR0
  rw [hnv] at HC1 HR1
  rw [hnk, hnv]
  clear hnk hnv
  obtain ⟨W1, hW1⟩ : ∃ W1, X.alloc (.cells #[.string ⟨#[]⟩, .int .i64 nk, .int .i64 nv, .int .i64 1] 28) = W1 := ⟨_, rfl⟩
  have HW1 := Aside0.mk hW1
  have HS1 : Aside0 (X.heap.size + 1 = W1.heap.size) := ⟨by rw [← hW1]; simp⟩
  have HX1 : Aside0 (Below X.heap.size X W1) := ⟨by rw [← hW1]; exact below_alloc (Below.refl _ _) _⟩
  have HG1 : Aside0 (W1.heap[X.heap.size]? = some (.cells #[.string ⟨#[]⟩, .int .i64 nk, .int .i64 nv, .int .i64 1] 28 (0, 0))) := ⟨by rw [← hW1]; exact heap_alloc_new X _⟩
  clear hW1
  have HCELL : Aside0 (∀ w, Below W1.heap.size W1 w → w.cell? ⟨X.heap.size, 0, none⟩ = some (.string ⟨#[]⟩) ∧ w.cell? ⟨X.heap.size, 1, none⟩ = some (.int .i64 nk) ∧ w.cell? ⟨X.heap.size, 2, none⟩ = some (.int .i64 nv) ∧ w.cell? ⟨X.heap.size, 3, none⟩ = some (.int .i64 1)) := ⟨fun w hb => by
    have h := below_blk hb HG1.out
    exact ⟨by simp [World.cell?, h], by simp [World.cell?, h], by simp [World.cell?, h], by simp [World.cell?, h]⟩⟩
  have HCK : Aside0 (∀ r, (if sizesB d = true then 0 else 9) = r → Calls Tryd.prog 24 #[.slice (some ⟨W1.heap.size, 0, none⟩) 1 1] (W1.alloc (.cells #[.string ⟨#[]⟩, .int .i64 nk, .int .i64 nv, .int .i64 1] 28)) fun e w' => e = .returned (.int .i64 r) ∧ Below W1.heap.size W1 w') := ⟨fun r hr => by
    have := check1_c W1 d r hr
    rw [← HD.out] at this
    exact this⟩
  obtain ⟨q0, q1, q2, q3⟩ := HCELL.out W1 (Below.refl _ _)
  by_cases hs : sizesB d = true
  · have HSIZ := Aside0.mk hs
    have HC9 := Aside0.mk (HCK.out 0 (by rw [if_pos hs]))
    obtain ⟨⟨z1, z2⟩, ⟨z3, z4⟩, _⟩ := (sizes_iff d).1 hs
    rw [← HD.out] at z1 z2 z3 z4
    dsimp only at z1 z2 z3 z4
    have HK1 : Aside0 (1 ≤ nk ∧ nk ≤ 64) := ⟨by omega, by omega⟩
    have HV1 : Aside0 (1 ≤ nv ∧ nv ≤ 256) := ⟨by omega, by omega⟩
    clear z1 z2 z3 z4 hs
    obtain ⟨a0, rfl, hn0⟩ := C_some (l := key) (by rw [HNK.out]; exact HR0.out) (by rw [HNK.out]; exact HK1.out.1)
    obtain ⟨a1, rfl, hn1⟩ := C_some (l := value) (by rw [HNV.out]; exact HR1.out) (by rw [HNV.out]; exact HV1.out.1)
    have HN0 := Aside0.mk hn0
    have HN1 := Aside0.mk hn1
    clear hn0 hn1
    obtain ⟨i0, hi, hz0, hz1, hz2⟩ := info_parts infoU8'
    go_enter Tryd.func8, Tryd.ntmps8
    go_wp2_with fail
    rw [HW1.out, HS1.out]
    refine HC9.out.mono ?_
    rintro e w3 ⟨rfl, hb3⟩
    have HB3 : Aside0 (Below X.heap.size X w3) := ⟨HX1.out.trans (hb3.mono HX1.out.size)⟩
    have HB13 := Aside0.mk hb3
    clear hb3 q0 q1 q2 q3
    go_upto_region 4 with (fail)
    go_cut [8, 9] (fun s8 s9 wx => ∃ t m B F, s8 = .pointer (some ⟨t, 0, none⟩) ∧ s9 = .pointer (some ⟨m, 0, none⟩) ∧ Aside0 (LMF B 0 F wx t m [newS d] [⟨4294967296, key ++ value⟩] ∧ w3.heap.size ≤ B) ∧ Aside0 (Below X.heap.size X wx))
    case first =>
      have HNK3 : Aside0 (∀ w, Below w3.heap.size w3 w → ∀ j u, (nums .u8 key)[j]? = some u → w.cell? (a0.add j) = some u) := ⟨fun w hb => HN0.out w (HB3.out.trans (hb.mono HB3.out.size))⟩
      have HNV3 : Aside0 (∀ w, Below w3.heap.size w3 w → ∀ j u, (nums .u8 value)[j]? = some u → w.cell? (a1.add j) = some u) := ⟨fun w hb => HN1.out w (HB3.out.trans (hb.mono HB3.out.size))⟩
      have HCELL3 : Aside0 (∀ w, Below w3.heap.size w3 w → w.cell? ⟨X.heap.size, 0, none⟩ = some (.string ⟨#[]⟩) ∧ w.cell? ⟨X.heap.size, 1, none⟩ = some (.int .i64 nk) ∧ w.cell? ⟨X.heap.size, 2, none⟩ = some (.int .i64 nv) ∧ w.cell? ⟨X.heap.size, 3, none⟩ = some (.int .i64 1)) := ⟨fun w hb => HCELL.out w (below_then HB13.out HB13.out.size hb)⟩
      have HLEN : Aside0 (key.length = nk ∧ nk ≤ 64 ∧ 1 ≤ nk ∧ value.length = nv ∧ nv ≤ 256 ∧ 1 ≤ nv) := ⟨HNK.out, HK1.out.2, HK1.out.1, HNV.out, HV1.out.2, HV1.out.1⟩
      have HLK : Aside0 ((nums .u8 key).length = nk * 1 ∧ (nums .u8 value).length = nv * 1 ∧ 0 + nk ≤ maxLen ∧ (0 + nk) * 1 ≤ 140737488355328 ∧ nk + nv ≤ maxLen ∧ (nk + nv) * 1 ≤ 140737488355328) := ⟨by
        have h := HLEN.out
        unfold maxLen
        rw [nums_length, nums_length]
        omega⟩
      have HST : Aside0 (∀ w g cap gd, Below w3.heap.size w3 w → w.ownsRow w3.heap.size 5 1 (.slice (some ⟨g, 0, none⟩) (nk + nv) cap) (nk + nv) (nums .u8 key ++ nums .u8 value) → w.heap[gd]? = some (.cells #[.string ⟨#[]⟩, .int .i64 nk, .int .i64 nv, .int .i64 1] 28 (0, 0)) → Calls Tryd.prog 9 #[.slice (some ⟨g, 0, none⟩) (nk + nv) cap, .slice (some ⟨gd, 0, none⟩) 1 1] w fun e X' => (∃ t m B F, e = .returned (.tuple #[.pointer (some ⟨t, 0, none⟩), .pointer (some ⟨m, 0, none⟩)]) ∧ Aside0 (LMF B 0 F X' t m [newS d] [⟨4294967296, key ++ value⟩] ∧ w3.heap.size ≤ B)) ∧ Aside0 (Below X.heap.size X X')) := ⟨fun w g cap gd hb hr hd => by
        have hl := HLEN.out
        have e1 : (key ++ value).length = nk + nv := by rw [List.length_append, hl.1, hl.2.2.2.1]
        rw [← nums_app, ← e1] at hr
        have hd2 : w.heap[gd]? = some (.cells (defCells d) 28 (0, 0)) := by rw [hd, ← HD.out]; rfl
        have := start_own w _ g cap gd (key ++ value) d hr (by omega) (by omega) (isB_app HB0.out HB1.out) hd2 HSIZ.out
        rw [e1] at this
        refine this.mono fun e X' hp => ?_
        obtain ⟨⟨t, m, he, hm⟩, hb2⟩ := hp
        have hw := HB3.out.trans (hb.mono HB3.out.size)
        exact ⟨⟨t, m, _, _, he, ⟨hm, hb.size⟩⟩, ⟨hw.trans (hb2.mono hw.size)⟩⟩⟩
      have hbC : Below w3.heap.size w3 (w3.alloc (.cells #[] 5)).drew := below_drew (below_alloc (Below.refl _ _) _)
      have hEC : (w3.alloc (.cells #[] 5)).drew.heap[w3.heap.size]? = some (.cells #[] 5 (0, 0)) := heap_alloc_new w3 _
      have hbA : Below w3.heap.size w3 ((w3.alloc (.cells #[.string ⟨#[]⟩, .int .i64 nk, .int .i64 nv, .int .i64 1] 28)).alloc (.cells #[] 5)).drew := below_drew (below_alloc (below_alloc (Below.refl _ _) _) _)
      have hEA : ((w3.alloc (.cells #[.string ⟨#[]⟩, .int .i64 nk, .int .i64 nv, .int .i64 1] 28)).alloc (.cells #[] 5)).drew.heap[w3.heap.size + 1]? = some (.cells #[] 5 (0, 0)) := by
        have h := heap_alloc_new (w3.alloc (.cells #[.string ⟨#[]⟩, .int .i64 nk, .int .i64 nv, .int .i64 1] 28)) (.cells #[] 5)
        have h2 : (w3.alloc (.cells #[.string ⟨#[]⟩, .int .i64 nk, .int .i64 nv, .int .i64 1] 28)).heap.size = w3.heap.size + 1 := by simp
        rw [h2] at h
        exact h
      have hDA : ((w3.alloc (.cells #[.string ⟨#[]⟩, .int .i64 nk, .int .i64 nv, .int .i64 1] 28)).alloc (.cells #[] 5)).drew.heap[w3.heap.size]? = some (.cells #[.string ⟨#[]⟩, .int .i64 nk, .int .i64 nv, .int .i64 1] 28 (0, 0)) := below_blk (below_alloc (Below.refl (w3.alloc (.cells #[.string ⟨#[]⟩, .int .i64 nk, .int .i64 nv, .int .i64 1] 28)).heap.size (w3.alloc (.cells #[.string ⟨#[]⟩, .int .i64 nk, .int .i64 nv, .int .i64 1] 28))) (.cells #[] 5)) (heap_alloc_new w3 (.cells #[.string ⟨#[]⟩, .int .i64 nk, .int .i64 nv, .int .i64 1] 28))
      have hsA : ((w3.alloc (.cells #[.string ⟨#[]⟩, .int .i64 nk, .int .i64 nv, .int .i64 1] 28)).alloc (.cells #[] 5)).drew.heap.size = w3.heap.size + 2 := by show ((w3.alloc (.cells #[.string ⟨#[]⟩, .int .i64 nk, .int .i64 nv, .int .i64 1] 28)).alloc (.cells #[] 5)).heap.size = _; simp
      have hbB : Below w3.heap.size w3 ((w3.alloc (.cells #[] 5)).alloc (.cells #[.string ⟨#[]⟩, .int .i64 nk, .int .i64 nv, .int .i64 1] 28)).drew := below_drew (below_alloc (below_alloc (Below.refl _ _) _) _)
      have hDB : ((w3.alloc (.cells #[] 5)).alloc (.cells #[.string ⟨#[]⟩, .int .i64 nk, .int .i64 nv, .int .i64 1] 28)).drew.heap[w3.heap.size + 1]? = some (.cells #[.string ⟨#[]⟩, .int .i64 nk, .int .i64 nv, .int .i64 1] 28 (0, 0)) := by
        have h := heap_alloc_new (w3.alloc (.cells #[] 5)) (.cells #[.string ⟨#[]⟩, .int .i64 nk, .int .i64 nv, .int .i64 1] 28)
        have h2 : (w3.alloc (.cells #[] 5)).heap.size = w3.heap.size + 1 := by simp
        rw [h2] at h
        exact h
      have hEB : ((w3.alloc (.cells #[] 5)).alloc (.cells #[.string ⟨#[]⟩, .int .i64 nk, .int .i64 nv, .int .i64 1] 28)).drew.heap[w3.heap.size]? = some (.cells #[] 5 (0, 0)) := below_blk (below_alloc (Below.refl (w3.alloc (.cells #[] 5)).heap.size (w3.alloc (.cells #[] 5))) (.cells #[.string ⟨#[]⟩, .int .i64 nk, .int .i64 nv, .int .i64 1] 28)) (heap_alloc_new w3 (.cells #[] 5))
      have hsB : ((w3.alloc (.cells #[] 5)).alloc (.cells #[.string ⟨#[]⟩, .int .i64 nk, .int .i64 nv, .int .i64 1] 28)).drew.heap.size = w3.heap.size + 2 := by show ((w3.alloc (.cells #[] 5)).alloc (.cells #[.string ⟨#[]⟩, .int .i64 nk, .int .i64 nv, .int .i64 1] 28)).heap.size = _; simp
      have hsC : (w3.alloc (.cells #[] 5)).drew.heap.size = w3.heap.size + 1 := by show (w3.alloc (.cells #[] 5)).heap.size = _; simp
      have HA := Aside0.mk (And.intro hbA (And.intro hEA (And.intro hDA hsA)))
      have HB := Aside0.mk (And.intro hbB (And.intro hEB (And.intro hDB hsB)))
      have HC := Aside0.mk (And.intro hbC (And.intro hEC hsC))
      obtain ⟨c00, c01, c02, c03⟩ := HCELL3.out _ hbC
      clear hbA hEA hDA hsA hbB hEB hDB hsB hbC hEC hsC
      obtain ⟨u0, u1, u2, u3⟩ := HCELL3.out _ (below_drew (Below.refl _ _))
      go_region_law ((first | (go_simp; refine (HST.out _ _ _ _ HO10.out.1 HO10.out.2 HD10.out).mono ?_; rintro e w12 ⟨⟨t, m, B, F, rfl, HM12⟩, HB12⟩) | (go_simp; refine (HST.out _ _ _ _ (below_alloc HO10.out.1 _) (HO10.out.2.alloc _) (heap_alloc_new w10 _)).mono ?_; rintro e w12 ⟨⟨t, m, B, F, rfl, HM12⟩, HB12⟩) | (refine step_append_lies _ rfl _ _ 26 rfl w3.heap.size 5 i0 _ 1 1 Tryd.underlying26 hi hz0 hz1 hz2 rfl (by decide) (.slice (some ⟨g8, 0, none⟩) nk cap8) nk (nums .u8 key) rfl HO8.out.2.1 a1 nv c1 (nums .u8 value) rfl HLK.out.2.1 (HNV3.out _ HO8.out.1) (nums_one _) HLEN.out.2.2.2.2.2 HLK.out.2.2.2.2.1 HLK.out.2.2.2.2.2 (Below.size HO8.out.1) _ rfl ?_; intro g10 cap10 w10 hown10 hgrow10 hat10 hlt10; have hb10 := Below.grown HO8.out.1 hgrow10 (Below.size HO8.out.1) (fun k hk => own_base HO8.out.2.1 k hk); obtain ⟨y0, y1, y2, y3⟩ := HCELL3.out _ hb10; have HD10 := Aside0.mk ((hgrow10.block _ (Array.getElem?_eq_some_iff.1 HD8.out).1 (fun e => by have h1 := HO8.out.2.2.2; have h2 : _ = g8 := Option.some.inj e; omega)).trans HD8.out); have HO10 := Aside0.mk (And.intro hb10 hown10); clear hb10 hown10 hat10 hgrow10 hlt10) | (refine step_append_lies _ rfl _ _ 26 rfl w3.heap.size 5 i0 _ 1 1 Tryd.underlying26 hi hz0 hz1 hz2 rfl (by decide) (.slice (some ⟨g8, 0, none⟩) nk cap8) nk (nums .u8 key) rfl HO8.out.2.1 a1 nv c1 (nums .u8 value) rfl HLK.out.2.1 (HNV3.out _ HO8.out.1) (nums_one _) HLEN.out.2.2.2.2.2 HLK.out.2.2.2.2.1 HLK.out.2.2.2.2.2 (Below.size HO8.out.1) _ rfl ?_; intro g10 cap10 w10 hown10 hgrow10 hat10 hlt10; have hb10 := Below.grown HO8.out.1 hgrow10 (Below.size HO8.out.1) (fun k hk => own_base HO8.out.2.1 k hk); obtain ⟨y0, y1, y2, y3⟩ := HCELL3.out _ hb10; have HO10 := Aside0.mk (And.intro hb10 hown10); clear hb10 hown10 hat10 hgrow10 hlt10) | (refine step_append_lies _ rfl _ _ 26 rfl w3.heap.size 5 i0 _ 1 1 Tryd.underlying26 hi hz0 hz1 hz2 rfl (by decide) (.slice (some ⟨g8, 0, none⟩) nk cap8) nk (nums .u8 key) rfl (HO8.out.2.1.alloc _) a1 nv c1 (nums .u8 value) rfl HLK.out.2.1 (HNV3.out _ (below_alloc HO8.out.1 _)) (nums_one _) HLEN.out.2.2.2.2.2 HLK.out.2.2.2.2.1 HLK.out.2.2.2.2.2 (Below.size (below_alloc HO8.out.1 _)) _ rfl ?_; intro g10 cap10 w10 hown10 hgrow10 hat10 hlt10; have hb10 := Below.grown (below_alloc HO8.out.1 _) hgrow10 (Below.size (below_alloc HO8.out.1 _)) (fun k hk => own_base HO8.out.2.1 k hk); obtain ⟨y0, y1, y2, y3⟩ := HCELL3.out _ hb10; have HD10 := Aside0.mk ((hgrow10.block w8.heap.size (by simp) (fun e => by have h1 := HO8.out.2.2.1; have h2 : w8.heap.size = g8 := Option.some.inj e; omega)).trans (heap_alloc_new w8 _)); have HO10 := Aside0.mk (And.intro hb10 hown10); clear hb10 hown10 hat10 hgrow10 hlt10) | (refine step_append_lies _ rfl _ _ 26 rfl w3.heap.size 5 i0 _ 1 1 Tryd.underlying26 hi hz0 hz1 hz2 rfl (by decide) (.slice (some ⟨w3.heap.size, 0, none⟩) 0 0) 0 [] rfl (own_empty HC.out.2.1 (by omega)) a0 nk c0 (nums .u8 key) rfl HLK.out.1 (HNK3.out _ HC.out.1) (nums_one _) HLEN.out.2.2.1 HLK.out.2.2.1 HLK.out.2.2.2.1 HC.out.1.size _ rfl ?_; intro g8 cap8 w8 hown8 hgrow8 hat8 hlt8; have hb8 := HC.out.1.grown hgrow8 HC.out.1.size (fun k hk => by cases hk; show w3.heap.size ≤ w3.heap.size; omega); rw [Nat.zero_add, List.nil_append] at hown8; obtain ⟨x0, x1, x2, x3⟩ := HCELL3.out _ hb8; have hg8 : g8 = w3.heap.size ∨ g8 = w3.heap.size + 1 := (by rcases hat8 with h | h; exact .inl (by cases h; rfl); exact .inr (h.trans HC.out.2.2)); have HO8 := Aside0.mk (And.intro hb8 (And.intro hown8 (And.intro hlt8 hg8))); clear hb8 hown8 hat8 hgrow8 hg8 hlt8) | (refine step_append_lies _ rfl _ _ 26 rfl w3.heap.size 5 i0 _ 1 1 Tryd.underlying26 hi hz0 hz1 hz2 rfl (by decide) (.slice (some ⟨w3.heap.size + 1, 0, none⟩) 0 0) 0 [] rfl (own_empty HA.out.2.1 (by omega)) a0 nk c0 (nums .u8 key) rfl HLK.out.1 (HNK3.out _ HA.out.1) (nums_one _) HLEN.out.2.2.1 HLK.out.2.2.1 HLK.out.2.2.2.1 HA.out.1.size _ rfl ?_; intro g8 cap8 w8 hown8 hgrow8 hat8 hlt8; have hb8 := HA.out.1.grown hgrow8 HA.out.1.size (fun k hk => by cases hk; show w3.heap.size ≤ w3.heap.size + 1; omega); rw [Nat.zero_add, List.nil_append] at hown8; obtain ⟨x0, x1, x2, x3⟩ := HCELL3.out _ hb8; have hg8 : g8 = w3.heap.size + 1 ∨ g8 = w3.heap.size + 2 := (by rcases hat8 with h | h; exact .inl (by cases h; rfl); exact .inr (h.trans HA.out.2.2.2)); have HD8 := Aside0.mk ((hgrow8.block w3.heap.size (by rw [HA.out.2.2.2]; omega) (fun e => by have h : w3.heap.size = w3.heap.size + 1 := Option.some.inj e; omega)).trans HA.out.2.2.1); have HO8 := Aside0.mk (And.intro hb8 (And.intro hown8 (And.intro hlt8 hg8))); clear hb8 hown8 hat8 hgrow8 hg8 hlt8) | (refine step_append_lies _ rfl _ _ 26 rfl w3.heap.size 5 i0 _ 1 1 Tryd.underlying26 hi hz0 hz1 hz2 rfl (by decide) (.slice (some ⟨w3.heap.size, 0, none⟩) 0 0) 0 [] rfl (own_empty HB.out.2.1 (by omega)) a0 nk c0 (nums .u8 key) rfl HLK.out.1 (HNK3.out _ HB.out.1) (nums_one _) HLEN.out.2.2.1 HLK.out.2.2.1 HLK.out.2.2.2.1 HB.out.1.size _ rfl ?_; intro g8 cap8 w8 hown8 hgrow8 hat8 hlt8; have hb8 := HB.out.1.grown hgrow8 HB.out.1.size (fun k hk => by cases hk; show w3.heap.size ≤ w3.heap.size; omega); rw [Nat.zero_add, List.nil_append] at hown8; obtain ⟨x0, x1, x2, x3⟩ := HCELL3.out _ hb8; have hg8 : g8 = w3.heap.size ∨ g8 = w3.heap.size + 2 := (by rcases hat8 with h | h; exact .inl (by cases h; rfl); exact .inr (h.trans HB.out.2.2.2)); have HD8 := Aside0.mk ((hgrow8.block (w3.heap.size + 1) (by rw [HB.out.2.2.2]; omega) (fun e => by have h : (w3.heap.size + 1) = w3.heap.size := Option.some.inj e; omega)).trans HB.out.2.2.1); have HO8 := Aside0.mk (And.intro hb8 (And.intro hown8 (And.intro hlt8 hg8))); clear hb8 hown8 hat8 hgrow8 hg8 hlt8)))
      all_goals (go_wp2_with fail; go_meet; exact ⟨t, m, B, F, rfl, rfl, HM12, HB12⟩)
    case rest =>
      obtain ⟨t, m, B, F, rfl, rfl, HM12, HB12⟩ := hcut
      obtain rfl := HNK.out
      obtain rfl := HNV.out
      have HM : Aside0 (LMF B 0 F wc t m (kS key.length value.length 1 [] 0) (fK0 key value)) := ⟨by have h := HM12.out.1; rw [← HD.out] at h; exact h⟩
      have HBN : Aside0 (X.heap.size ≤ B) := ⟨Nat.le_trans HB3.out.size HM12.out.2⟩
      have HIN : Aside0 ((Tryd.prog.info? 33).map (·.size) = some 11) := ⟨by kernel_rfl⟩
      obtain ⟨hk1, hk2⟩ := HK1.out
      obtain ⟨hv1, hv2⟩ := HV1.out
      have HLEN := Aside0.mk (And.intro hk1 (And.intro hk2 (And.intro hv1 hv2)))
      have HKS : Aside0 (∀ ents next, KeysOk (kS key.length value.length 1 ents next)) := ⟨fd_keys key value hk1 hk2 hv1 hv2⟩
      clear hk1 hk2 hv1 hv2 hi hz0 hz1 hz2
      go_wp2_with fail
      refine (handle_c 0 2305843009213693952 _ (by kernel_rfl)).mono ?_
      rintro e w' ⟨rfl, k1, rfl⟩
      obtain ⟨wd, hwd⟩ : ∃ wd, wc.drewN k1 = wd := ⟨_, rfl⟩
      have hdr : Below wc.heap.size wc wd := by rw [← hwd]; exact pw_below_drewN (Below.refl _ _) _
      rw [hwd]
      have HMd := Aside0.mk (HM.out.below hdr)
      have HBd : Aside0 (Below X.heap.size X wd) := ⟨HB12.out.trans (hdr.mono HB12.out.size)⟩
      clear hdr hwd
      cases extra with
      | true =>
        have hwk : IntKind.u64.wrap (key.length : Int) = key.length := by rw [u64_mod]; have := HLEN.out; omega
        have hwb : IntKind.u64.wrap (4294967296 + (key.length : Int)) = 4294967296 + key.length := by rw [u64_mod]; have := HLEN.out; omega
        have hkp : (0 : Int) ≤ (key.length : Int) := Int.natCast_nonneg _
        go_upto_region 8 with (fail)
        clear hwk hwb hkp
        obtain ⟨F20, fF20, fb20, hm, hh⟩ := box_new HMd.out #[.int .u64 0, .int .u64 2305843009213693952, .int .u64 4294967296, .int .u64 (4294967296 + (key.length : Int)), .int .u64 0, .int .u64 0, .int .u64 0, .int .u64 0, .int .u64 0, .int .u64 0, .int .u64 0] 33
        have hb := below_alloc HBd.out (.cells #[.int .u64 0, .int .u64 2305843009213693952, .int .u64 4294967296, .int .u64 (4294967296 + (key.length : Int)), .int .u64 0, .int .u64 0, .int .u64 0, .int .u64 0, .int .u64 0, .int .u64 0, .int .u64 0] 33)
        obtain ⟨W20, hW⟩ : ∃ W, World.alloc (wd) (.cells #[.int .u64 0, .int .u64 2305843009213693952, .int .u64 4294967296, .int .u64 (4294967296 + (key.length : Int)), .int .u64 0, .int .u64 0, .int .u64 0, .int .u64 0, .int .u64 0, .int .u64 0, .int .u64 0] 33) = W := ⟨_, rfl⟩
        rw [hW] at hm hh hb ⊢
        obtain ⟨br, hbn⟩ : ∃ b, (wd).heap.size = b := ⟨_, rfl⟩
        rw [hbn] at hh fb20 ⊢
        have HM20 := Aside0.mk hm
        have HB20 := Aside0.mk hb
        have Kr := Aside0.mk hh
        clear hW hbn hm hh hb 
        go_wp2_with (first | (refine wpList_load_row rfl _ _ rfl _ rfl _ _ _ _ Kr.out Tryd.underlying33 rfl HIN.out ?_))
        refine (call_ok _ B 0 F20 t m (kS key.length value.length 1 [] 0) (fK0 key value) 2 0 2305843009213693952 4294967296 (4294967296 + (key.length : Int)) 0 0 0 0 0 0 0 HM20.out (by decide) (show 1 ≤ 99999 by decide) (HKS.out _ _) (by decide) (by decide) (by decide) (by decide) (by have := HLEN.out; omega) (by have := HLEN.out; omega) (by decide) 0 _ _ (fd_put key value HLEN.out.1 HLEN.out.2.1 HLEN.out.2.2.1 HLEN.out.2.2.2)).mono ?_
        rintro e w21 ⟨rfl, hm, hk⟩
        have HB21 : Aside0 (Below X.heap.size X w21) := ⟨HB20.out.trans ((hk.below HM20.out.1 HM20.out.2.2.1).mono HBN.out)⟩
        have HM21 := Aside0.mk hm
        have hr := kept_blk hk Kr.out (fb20)
        clear Kr
        have Kr := Aside0.mk hr
        clear hr
        clear hm hk
        go_wp2_with (first | (refine wpList_load_row rfl _ _ rfl _ rfl _ _ _ _ Kr.out Tryd.underlying33 rfl HIN.out ?_))
        refine (call_ok _ B 1 F20 t m (kS key.length value.length 1 [(key, 0)] 1) (fK1 key value) 3 0 2305843009213693952 4294967296 (4294967296 + (key.length : Int)) 0 0 0 0 0 0 0 HM21.out (by decide) (show 2 ≤ 99999 by decide) (HKS.out _ _) (by decide) (by decide) (by decide) (by decide) (by have := HLEN.out; omega) (by have := HLEN.out; omega) (by decide) 0 _ _ (fd_del1 key value HLEN.out.1 HLEN.out.2.1 HLEN.out.2.2.1 HLEN.out.2.2.2 _)).mono ?_
        rintro e w22 ⟨rfl, hm, hk⟩
        have HB22 : Aside0 (Below X.heap.size X w22) := ⟨HB21.out.trans ((hk.below HM21.out.1 HM21.out.2.2.1).mono HBN.out)⟩
        have HM22 := Aside0.mk hm
        have hr := kept_blk hk Kr.out (fb20)
        clear Kr
        have Kr := Aside0.mk hr
        clear hr
        clear hm hk
        go_upto_region 11 with (fail)
        obtain ⟨F23, fF23, fb23, hm, hh⟩ := box_new HM22.out #[.int .u64 0, .int .u64 0, .int .u64 0, .int .u64 0, .int .u64 0, .int .u64 0, .int .u64 0, .int .u64 0, .int .u64 0, .int .u64 0, .int .u64 0] 33
        have hb := below_alloc HB22.out (.cells #[.int .u64 0, .int .u64 0, .int .u64 0, .int .u64 0, .int .u64 0, .int .u64 0, .int .u64 0, .int .u64 0, .int .u64 0, .int .u64 0, .int .u64 0] 33)
        have hr := below_blk (below_alloc (Below.refl (w22).heap.size (w22)) (.cells #[.int .u64 0, .int .u64 0, .int .u64 0, .int .u64 0, .int .u64 0, .int .u64 0, .int .u64 0, .int .u64 0, .int .u64 0, .int .u64 0, .int .u64 0] 33)) Kr.out
        obtain ⟨W23, hW⟩ : ∃ W, World.alloc (w22) (.cells #[.int .u64 0, .int .u64 0, .int .u64 0, .int .u64 0, .int .u64 0, .int .u64 0, .int .u64 0, .int .u64 0, .int .u64 0, .int .u64 0, .int .u64 0] 33) = W := ⟨_, rfl⟩
        rw [hW] at hm hh hb hr ⊢
        obtain ⟨bp1, hbn⟩ : ∃ b, (w22).heap.size = b := ⟨_, rfl⟩
        rw [hbn] at hh fb23 ⊢
        have HM23 := Aside0.mk hm
        have HB23 := Aside0.mk hb
        clear Kr
        have Kr := Aside0.mk hr
        have Kp1 := Aside0.mk hh
        clear hW hbn hm hh hb hr
        go_wp2_with (first | (refine wpList_load_row rfl _ _ rfl _ rfl _ _ _ _ Kr.out Tryd.underlying33 rfl HIN.out ?_))
        refine (call_ok _ B 2 F23 t m (kS key.length value.length 1 [] 1) (fK0 key value) 3 0 2305843009213693952 4294967296 (4294967296 + (key.length : Int)) 0 0 0 0 0 0 0 HM23.out (by decide) (show 1 ≤ 99999 by decide) (HKS.out _ _) (by decide) (by decide) (by decide) (by decide) (by have := HLEN.out; omega) (by have := HLEN.out; omega) (by decide) 18446744073709551614 _ _ (fd_miss key value HLEN.out.1 HLEN.out.2.1 HLEN.out.2.2.1 HLEN.out.2.2.2 _ _)).mono ?_
        rintro e w24 ⟨rfl, hm, hk⟩
        have HB24 : Aside0 (Below X.heap.size X w24) := ⟨HB23.out.trans ((hk.below HM23.out.1 HM23.out.2.2.1).mono HBN.out)⟩
        have HM24 := Aside0.mk hm
        have hr := kept_blk hk Kr.out (fF23 _ (fb20))
        clear Kr
        have Kr := Aside0.mk hr
        clear hr
        have hp1 := kept_blk hk Kp1.out (fb23)
        clear Kp1
        have Kp1 := Aside0.mk hp1
        clear hp1
        clear hm hk
        go_upto_region 12 with (fail)
        obtain ⟨F25, fF25, fb25, hm, hh⟩ := box_new HM24.out #[.int .u64 18446744073709551614, .int .u64 0, .int .u64 0, .int .u64 0, .int .u64 0, .int .u64 0, .int .u64 0, .int .u64 0, .int .u64 0, .int .u64 0, .int .u64 0] 33
        have hb := below_alloc HB24.out (.cells #[.int .u64 18446744073709551614, .int .u64 0, .int .u64 0, .int .u64 0, .int .u64 0, .int .u64 0, .int .u64 0, .int .u64 0, .int .u64 0, .int .u64 0, .int .u64 0] 33)
        have hr := below_blk (below_alloc (Below.refl (w24).heap.size (w24)) (.cells #[.int .u64 18446744073709551614, .int .u64 0, .int .u64 0, .int .u64 0, .int .u64 0, .int .u64 0, .int .u64 0, .int .u64 0, .int .u64 0, .int .u64 0, .int .u64 0] 33)) Kr.out
        have hp1 := below_blk (below_alloc (Below.refl (w24).heap.size (w24)) (.cells #[.int .u64 18446744073709551614, .int .u64 0, .int .u64 0, .int .u64 0, .int .u64 0, .int .u64 0, .int .u64 0, .int .u64 0, .int .u64 0, .int .u64 0, .int .u64 0] 33)) Kp1.out
        obtain ⟨W25, hW⟩ : ∃ W, World.alloc (w24) (.cells #[.int .u64 18446744073709551614, .int .u64 0, .int .u64 0, .int .u64 0, .int .u64 0, .int .u64 0, .int .u64 0, .int .u64 0, .int .u64 0, .int .u64 0, .int .u64 0] 33) = W := ⟨_, rfl⟩
        rw [hW] at hm hh hb hr hp1 ⊢
        obtain ⟨bp2, hbn⟩ : ∃ b, (w24).heap.size = b := ⟨_, rfl⟩
        rw [hbn] at hh fb25 ⊢
        have HM25 := Aside0.mk hm
        have HB25 := Aside0.mk hb
        clear Kr
        have Kr := Aside0.mk hr
        clear Kp1
        have Kp1 := Aside0.mk hp1
        have Kp2 := Aside0.mk hh
        clear hW hbn hm hh hb hr hp1
        go_wp2_with (first | (refine wpList_load_row rfl _ _ rfl _ rfl _ _ _ _ Kr.out Tryd.underlying33 rfl HIN.out ?_))
        refine (call_ok _ B 3 F25 t m (kS key.length value.length 1 [] 1) (fK0 key value) 1 0 2305843009213693952 4294967296 (4294967296 + (key.length : Int)) 0 0 0 0 0 0 0 HM25.out (by decide) (show 1 ≤ 99999 by decide) (HKS.out _ _) (by decide) (by decide) (by decide) (by decide) (by have := HLEN.out; omega) (by have := HLEN.out; omega) (by decide) 0 _ _ (fd_look0 key value HLEN.out.1 HLEN.out.2.1 HLEN.out.2.2.1 HLEN.out.2.2.2 _ _)).mono ?_
        rintro e w26 ⟨rfl, hm, hk⟩
        have HB26 : Aside0 (Below X.heap.size X w26) := ⟨HB25.out.trans ((hk.below HM25.out.1 HM25.out.2.2.1).mono HBN.out)⟩
        have HM26 := Aside0.mk hm
        have hr := kept_blk hk Kr.out (fF25 _ (fF23 _ (fb20)))
        clear Kr
        have Kr := Aside0.mk hr
        clear hr
        have hp1 := kept_blk hk Kp1.out (fF25 _ (fb23))
        clear Kp1
        have Kp1 := Aside0.mk hp1
        clear hp1
        have hp2 := kept_blk hk Kp2.out (fb25)
        clear Kp2
        have Kp2 := Aside0.mk hp2
        clear hp2
        clear hm hk
        go_upto_region 13 with (fail)
        obtain ⟨F27, fF27, fb27, hm, hh⟩ := box_new HM26.out #[.int .u64 0, .int .u64 0, .int .u64 0, .int .u64 0, .int .u64 0, .int .u64 0, .int .u64 0, .int .u64 0, .int .u64 0, .int .u64 0, .int .u64 0] 33
        have hb := below_alloc HB26.out (.cells #[.int .u64 0, .int .u64 0, .int .u64 0, .int .u64 0, .int .u64 0, .int .u64 0, .int .u64 0, .int .u64 0, .int .u64 0, .int .u64 0, .int .u64 0] 33)
        have hr := below_blk (below_alloc (Below.refl (w26).heap.size (w26)) (.cells #[.int .u64 0, .int .u64 0, .int .u64 0, .int .u64 0, .int .u64 0, .int .u64 0, .int .u64 0, .int .u64 0, .int .u64 0, .int .u64 0, .int .u64 0] 33)) Kr.out
        have hp1 := below_blk (below_alloc (Below.refl (w26).heap.size (w26)) (.cells #[.int .u64 0, .int .u64 0, .int .u64 0, .int .u64 0, .int .u64 0, .int .u64 0, .int .u64 0, .int .u64 0, .int .u64 0, .int .u64 0, .int .u64 0] 33)) Kp1.out
        have hp2 := below_blk (below_alloc (Below.refl (w26).heap.size (w26)) (.cells #[.int .u64 0, .int .u64 0, .int .u64 0, .int .u64 0, .int .u64 0, .int .u64 0, .int .u64 0, .int .u64 0, .int .u64 0, .int .u64 0, .int .u64 0] 33)) Kp2.out
        obtain ⟨W27, hW⟩ : ∃ W, World.alloc (w26) (.cells #[.int .u64 0, .int .u64 0, .int .u64 0, .int .u64 0, .int .u64 0, .int .u64 0, .int .u64 0, .int .u64 0, .int .u64 0, .int .u64 0, .int .u64 0] 33) = W := ⟨_, rfl⟩
        rw [hW] at hm hh hb hr hp1 hp2 ⊢
        obtain ⟨bp3, hbn⟩ : ∃ b, (w26).heap.size = b := ⟨_, rfl⟩
        rw [hbn] at hh fb27 ⊢
        have HM27 := Aside0.mk hm
        have HB27 := Aside0.mk hb
        clear Kr
        have Kr := Aside0.mk hr
        clear Kp1
        have Kp1 := Aside0.mk hp1
        clear Kp2
        have Kp2 := Aside0.mk hp2
        have Kp3 := Aside0.mk hh
        clear hW hbn hm hh hb hr hp1 hp2
        go_wp2_with fail
        refine (halive_c W27 (HL.out.below HB27.out)).mono ?_
        rintro e w28 ⟨rfl, hb28⟩
        have HB28 : Aside0 (Below X.heap.size X w28) := ⟨HB27.out.trans (hb28.mono HB27.out.size)⟩
        have HM28 := Aside0.mk (HM27.out.below hb28)
        have ha := below_blk hb28 Kp1.out
        have hb := below_blk hb28 Kp2.out
        have hc := below_blk hb28 Kp3.out
        have ca : w28.cell? ⟨bp1, 0, none⟩ = some (.int .u64 0) := by simp [World.cell?, ha]
        have cb : w28.cell? ⟨bp2, 0, none⟩ = some (.int .u64 18446744073709551614) := by simp [World.cell?, hb]
        have cc : w28.cell? ⟨bp3, 0, none⟩ = some (.int .u64 0) := by simp [World.cell?, hc]
        clear hb28 ha hb hc
        go_wp2_with fail
        refine (lm_len w28 B _ t m _ _ HM28.out.lm).mono ?_
        rintro e w29 ⟨rfl, rfl⟩
        have hone : (fK0 key value).length = 1 := rfl
        rw [hone]
        clear hone
        go_wp2_with fail
        go_ret
        exact ⟨rfl, HB28.out⟩
      | false =>
        have hwk : IntKind.u64.wrap (key.length : Int) = key.length := by rw [u64_mod]; have := HLEN.out; omega
        have hwb : IntKind.u64.wrap (4294967296 + (key.length : Int)) = 4294967296 + key.length := by rw [u64_mod]; have := HLEN.out; omega
        have hkp : (0 : Int) ≤ (key.length : Int) := Int.natCast_nonneg _
        go_upto_region 8 with (fail)
        clear hwk hwb hkp
        obtain ⟨F20, fF20, fb20, hm, hh⟩ := box_new HMd.out #[.int .u64 0, .int .u64 2305843009213693952, .int .u64 4294967296, .int .u64 (4294967296 + (key.length : Int)), .int .u64 0, .int .u64 0, .int .u64 0, .int .u64 0, .int .u64 0, .int .u64 0, .int .u64 0] 33
        have hb := below_alloc HBd.out (.cells #[.int .u64 0, .int .u64 2305843009213693952, .int .u64 4294967296, .int .u64 (4294967296 + (key.length : Int)), .int .u64 0, .int .u64 0, .int .u64 0, .int .u64 0, .int .u64 0, .int .u64 0, .int .u64 0] 33)
        obtain ⟨W20, hW⟩ : ∃ W, World.alloc (wd) (.cells #[.int .u64 0, .int .u64 2305843009213693952, .int .u64 4294967296, .int .u64 (4294967296 + (key.length : Int)), .int .u64 0, .int .u64 0, .int .u64 0, .int .u64 0, .int .u64 0, .int .u64 0, .int .u64 0] 33) = W := ⟨_, rfl⟩
        rw [hW] at hm hh hb ⊢
        obtain ⟨br, hbn⟩ : ∃ b, (wd).heap.size = b := ⟨_, rfl⟩
        rw [hbn] at hh fb20 ⊢
        have HM20 := Aside0.mk hm
        have HB20 := Aside0.mk hb
        have Kr := Aside0.mk hh
        clear hW hbn hm hh hb 
        go_wp2_with (first | (refine wpList_load_row rfl _ _ rfl _ rfl _ _ _ _ Kr.out Tryd.underlying33 rfl HIN.out ?_))
        refine (call_ok _ B 0 F20 t m (kS key.length value.length 1 [] 0) (fK0 key value) 3 0 2305843009213693952 4294967296 (4294967296 + (key.length : Int)) 0 0 0 0 0 0 0 HM20.out (by decide) (show 1 ≤ 99999 by decide) (HKS.out _ _) (by decide) (by decide) (by decide) (by decide) (by have := HLEN.out; omega) (by have := HLEN.out; omega) (by decide) 18446744073709551614 _ _ (fd_miss key value HLEN.out.1 HLEN.out.2.1 HLEN.out.2.2.1 HLEN.out.2.2.2 _ _)).mono ?_
        rintro e w22 ⟨rfl, hm, hk⟩
        have HB22 : Aside0 (Below X.heap.size X w22) := ⟨HB20.out.trans ((hk.below HM20.out.1 HM20.out.2.2.1).mono HBN.out)⟩
        have HM22 := Aside0.mk hm
        have hr := kept_blk hk Kr.out (fb20)
        clear Kr
        have Kr := Aside0.mk hr
        clear hr
        clear hm hk
        go_upto_region 11 with (fail)
        obtain ⟨F23, fF23, fb23, hm, hh⟩ := box_new HM22.out #[.int .u64 18446744073709551614, .int .u64 0, .int .u64 0, .int .u64 0, .int .u64 0, .int .u64 0, .int .u64 0, .int .u64 0, .int .u64 0, .int .u64 0, .int .u64 0] 33
        have hb := below_alloc HB22.out (.cells #[.int .u64 18446744073709551614, .int .u64 0, .int .u64 0, .int .u64 0, .int .u64 0, .int .u64 0, .int .u64 0, .int .u64 0, .int .u64 0, .int .u64 0, .int .u64 0] 33)
        have hr := below_blk (below_alloc (Below.refl (w22).heap.size (w22)) (.cells #[.int .u64 18446744073709551614, .int .u64 0, .int .u64 0, .int .u64 0, .int .u64 0, .int .u64 0, .int .u64 0, .int .u64 0, .int .u64 0, .int .u64 0, .int .u64 0] 33)) Kr.out
        obtain ⟨W23, hW⟩ : ∃ W, World.alloc (w22) (.cells #[.int .u64 18446744073709551614, .int .u64 0, .int .u64 0, .int .u64 0, .int .u64 0, .int .u64 0, .int .u64 0, .int .u64 0, .int .u64 0, .int .u64 0, .int .u64 0] 33) = W := ⟨_, rfl⟩
        rw [hW] at hm hh hb hr ⊢
        obtain ⟨bp1, hbn⟩ : ∃ b, (w22).heap.size = b := ⟨_, rfl⟩
        rw [hbn] at hh fb23 ⊢
        have HM23 := Aside0.mk hm
        have HB23 := Aside0.mk hb
        clear Kr
        have Kr := Aside0.mk hr
        have Kp1 := Aside0.mk hh
        clear hW hbn hm hh hb hr
        go_wp2_with (first | (refine wpList_load_row rfl _ _ rfl _ rfl _ _ _ _ Kr.out Tryd.underlying33 rfl HIN.out ?_))
        refine (call_ok _ B 1 F23 t m (kS key.length value.length 1 [] 0) (fK0 key value) 3 0 2305843009213693952 4294967296 (4294967296 + (key.length : Int)) 0 0 0 0 0 0 0 HM23.out (by decide) (show 1 ≤ 99999 by decide) (HKS.out _ _) (by decide) (by decide) (by decide) (by decide) (by have := HLEN.out; omega) (by have := HLEN.out; omega) (by decide) 18446744073709551614 _ _ (fd_miss key value HLEN.out.1 HLEN.out.2.1 HLEN.out.2.2.1 HLEN.out.2.2.2 _ _)).mono ?_
        rintro e w24 ⟨rfl, hm, hk⟩
        have HB24 : Aside0 (Below X.heap.size X w24) := ⟨HB23.out.trans ((hk.below HM23.out.1 HM23.out.2.2.1).mono HBN.out)⟩
        have HM24 := Aside0.mk hm
        have hr := kept_blk hk Kr.out (fF23 _ (fb20))
        clear Kr
        have Kr := Aside0.mk hr
        clear hr
        have hp1 := kept_blk hk Kp1.out (fb23)
        clear Kp1
        have Kp1 := Aside0.mk hp1
        clear hp1
        clear hm hk
        go_upto_region 12 with (fail)
        obtain ⟨F25, fF25, fb25, hm, hh⟩ := box_new HM24.out #[.int .u64 18446744073709551614, .int .u64 0, .int .u64 0, .int .u64 0, .int .u64 0, .int .u64 0, .int .u64 0, .int .u64 0, .int .u64 0, .int .u64 0, .int .u64 0] 33
        have hb := below_alloc HB24.out (.cells #[.int .u64 18446744073709551614, .int .u64 0, .int .u64 0, .int .u64 0, .int .u64 0, .int .u64 0, .int .u64 0, .int .u64 0, .int .u64 0, .int .u64 0, .int .u64 0] 33)
        have hr := below_blk (below_alloc (Below.refl (w24).heap.size (w24)) (.cells #[.int .u64 18446744073709551614, .int .u64 0, .int .u64 0, .int .u64 0, .int .u64 0, .int .u64 0, .int .u64 0, .int .u64 0, .int .u64 0, .int .u64 0, .int .u64 0] 33)) Kr.out
        have hp1 := below_blk (below_alloc (Below.refl (w24).heap.size (w24)) (.cells #[.int .u64 18446744073709551614, .int .u64 0, .int .u64 0, .int .u64 0, .int .u64 0, .int .u64 0, .int .u64 0, .int .u64 0, .int .u64 0, .int .u64 0, .int .u64 0] 33)) Kp1.out
        obtain ⟨W25, hW⟩ : ∃ W, World.alloc (w24) (.cells #[.int .u64 18446744073709551614, .int .u64 0, .int .u64 0, .int .u64 0, .int .u64 0, .int .u64 0, .int .u64 0, .int .u64 0, .int .u64 0, .int .u64 0, .int .u64 0] 33) = W := ⟨_, rfl⟩
        rw [hW] at hm hh hb hr hp1 ⊢
        obtain ⟨bp2, hbn⟩ : ∃ b, (w24).heap.size = b := ⟨_, rfl⟩
        rw [hbn] at hh fb25 ⊢
        have HM25 := Aside0.mk hm
        have HB25 := Aside0.mk hb
        clear Kr
        have Kr := Aside0.mk hr
        clear Kp1
        have Kp1 := Aside0.mk hp1
        have Kp2 := Aside0.mk hh
        clear hW hbn hm hh hb hr hp1
        go_wp2_with (first | (refine wpList_load_row rfl _ _ rfl _ rfl _ _ _ _ Kr.out Tryd.underlying33 rfl HIN.out ?_))
        refine (call_ok _ B 2 F25 t m (kS key.length value.length 1 [] 0) (fK0 key value) 1 0 2305843009213693952 4294967296 (4294967296 + (key.length : Int)) 0 0 0 0 0 0 0 HM25.out (by decide) (show 1 ≤ 99999 by decide) (HKS.out _ _) (by decide) (by decide) (by decide) (by decide) (by have := HLEN.out; omega) (by have := HLEN.out; omega) (by decide) 0 _ _ (fd_look0 key value HLEN.out.1 HLEN.out.2.1 HLEN.out.2.2.1 HLEN.out.2.2.2 _ _)).mono ?_
        rintro e w26 ⟨rfl, hm, hk⟩
        have HB26 : Aside0 (Below X.heap.size X w26) := ⟨HB25.out.trans ((hk.below HM25.out.1 HM25.out.2.2.1).mono HBN.out)⟩
        have HM26 := Aside0.mk hm
        have hr := kept_blk hk Kr.out (fF25 _ (fF23 _ (fb20)))
        clear Kr
        have Kr := Aside0.mk hr
        clear hr
        have hp1 := kept_blk hk Kp1.out (fF25 _ (fb23))
        clear Kp1
        have Kp1 := Aside0.mk hp1
        clear hp1
        have hp2 := kept_blk hk Kp2.out (fb25)
        clear Kp2
        have Kp2 := Aside0.mk hp2
        clear hp2
        clear hm hk
        go_upto_region 13 with (fail)
        obtain ⟨F27, fF27, fb27, hm, hh⟩ := box_new HM26.out #[.int .u64 0, .int .u64 0, .int .u64 0, .int .u64 0, .int .u64 0, .int .u64 0, .int .u64 0, .int .u64 0, .int .u64 0, .int .u64 0, .int .u64 0] 33
        have hb := below_alloc HB26.out (.cells #[.int .u64 0, .int .u64 0, .int .u64 0, .int .u64 0, .int .u64 0, .int .u64 0, .int .u64 0, .int .u64 0, .int .u64 0, .int .u64 0, .int .u64 0] 33)
        have hr := below_blk (below_alloc (Below.refl (w26).heap.size (w26)) (.cells #[.int .u64 0, .int .u64 0, .int .u64 0, .int .u64 0, .int .u64 0, .int .u64 0, .int .u64 0, .int .u64 0, .int .u64 0, .int .u64 0, .int .u64 0] 33)) Kr.out
        have hp1 := below_blk (below_alloc (Below.refl (w26).heap.size (w26)) (.cells #[.int .u64 0, .int .u64 0, .int .u64 0, .int .u64 0, .int .u64 0, .int .u64 0, .int .u64 0, .int .u64 0, .int .u64 0, .int .u64 0, .int .u64 0] 33)) Kp1.out
        have hp2 := below_blk (below_alloc (Below.refl (w26).heap.size (w26)) (.cells #[.int .u64 0, .int .u64 0, .int .u64 0, .int .u64 0, .int .u64 0, .int .u64 0, .int .u64 0, .int .u64 0, .int .u64 0, .int .u64 0, .int .u64 0] 33)) Kp2.out
        obtain ⟨W27, hW⟩ : ∃ W, World.alloc (w26) (.cells #[.int .u64 0, .int .u64 0, .int .u64 0, .int .u64 0, .int .u64 0, .int .u64 0, .int .u64 0, .int .u64 0, .int .u64 0, .int .u64 0, .int .u64 0] 33) = W := ⟨_, rfl⟩
        rw [hW] at hm hh hb hr hp1 hp2 ⊢
        obtain ⟨bp3, hbn⟩ : ∃ b, (w26).heap.size = b := ⟨_, rfl⟩
        rw [hbn] at hh fb27 ⊢
        have HM27 := Aside0.mk hm
        have HB27 := Aside0.mk hb
        clear Kr
        have Kr := Aside0.mk hr
        clear Kp1
        have Kp1 := Aside0.mk hp1
        clear Kp2
        have Kp2 := Aside0.mk hp2
        have Kp3 := Aside0.mk hh
        clear hW hbn hm hh hb hr hp1 hp2
        go_wp2_with fail
        refine (halive_c W27 (HL.out.below HB27.out)).mono ?_
        rintro e w28 ⟨rfl, hb28⟩
        have HB28 : Aside0 (Below X.heap.size X w28) := ⟨HB27.out.trans (hb28.mono HB27.out.size)⟩
        have HM28 := Aside0.mk (HM27.out.below hb28)
        have ha := below_blk hb28 Kp1.out
        have hb := below_blk hb28 Kp2.out
        have hc := below_blk hb28 Kp3.out
        have ca : w28.cell? ⟨bp1, 0, none⟩ = some (.int .u64 18446744073709551614) := by simp [World.cell?, ha]
        have cb : w28.cell? ⟨bp2, 0, none⟩ = some (.int .u64 18446744073709551614) := by simp [World.cell?, hb]
        have cc : w28.cell? ⟨bp3, 0, none⟩ = some (.int .u64 0) := by simp [World.cell?, hc]
        clear hb28 ha hb hc
        go_wp2_with fail
        refine (lm_len w28 B _ t m _ _ HM28.out.lm).mono ?_
        rintro e w29 ⟨rfl, rfl⟩
        have hone : (fK0 key value).length = 1 := rfl
        rw [hone]
        clear hone
        go_wp2_with fail
        go_ret
        exact ⟨rfl, HB28.out⟩
  · have HC9 := Aside0.mk (HCK.out 9 (by rw [if_neg hs]))
    clear hs
    go_enter Tryd.func8, Tryd.ntmps8
    go_wp2_with fail
    rw [HW1.out, HS1.out]
    refine HC9.out.mono ?_
    rintro e w3 ⟨rfl, hb3⟩
    have HB3 : Aside0 (Below X.heap.size X w3) := ⟨HX1.out.trans (hb3.mono HX1.out.size)⟩
    clear hb3 q0 q1 q2 q3
    go_wp2_with fail
    refine (halive_c w3 (HL.out.below HB3.out)).mono ?_
    rintro e w4 ⟨rfl, hb4⟩
    have HB4 : Aside0 (Below X.heap.size X w4) := ⟨HB3.out.trans (hb4.mono HB3.out.size)⟩
    clear hb4
    go_wp2_with fail
    go_ret
    exact ⟨rfl, HB4.out⟩
end Go.Proofs.YtomnfkihieinbaaDoor.PAll
