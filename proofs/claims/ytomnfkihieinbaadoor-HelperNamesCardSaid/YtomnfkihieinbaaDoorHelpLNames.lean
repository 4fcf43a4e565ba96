/- helper: the law HelperNames. -/
import Derived.Test.YtomnfkihieinbaaDoorGHelpC
import Derived.Test.YtomnfkihieinbaaDoorPAllx2
set_option linter.unusedVariables false
set_option linter.unusedSimpArgs false
namespace Go.Proofs.YtomnfkihieinbaaDoor.PAll
open Go.RowKit Go.Shelf Go.Maps Go.Proofs.YtomnfkihieinbaaDoorW.PrintWords Go.Proofs.YtomnfkihieinbaaDoorW.PrintLast Go.Proofs.YtomnfkihieinbaaDoorW.PrintMore
theorem nm01 : nm0.toList ≠ nm1.toList := by decide +kernel
theorem nm02 : nm0.toList ≠ nm2.toList := by decide +kernel
theorem nm12 : nm1.toList ≠ nm2.toList := by decide +kernel
theorem refname_f (which : Int) : slotcoderef22_Name.f which = some (nameF which) := by
  unfold slotcoderef22_Name.f nameF
  by_cases h1 : which < 1
  · rw [if_pos h1, if_neg (by omega), if_neg (by omega), if_neg (by omega)]
  · rw [if_neg h1]
    by_cases h3 : which > 3
    · rw [if_pos h3, if_neg (by omega), if_neg (by omega), if_neg (by omega)]
    · rw [if_neg h3]
      obtain rfl | rfl | rfl : which = 1 ∨ which = 2 ∨ which = 3 := by omega
      · kernel_rfl
      · kernel_rfl
      · kernel_rfl
theorem refname_c (which : Int) (w : World) (r : ByteArray) (hr : nameF which = r) : Calls Tryd.prog 26 #[.int .i64 which] w fun e w' => e = .returned (.string r) ∧ Below w.heap.size w w' :=
  slotcoderef22_Name.calls which r w (by rw [← hr]; exact refname_f which)
theorem name_facts (a : ByteArray) : ((nm0.toList == a.toList) = decide (idxF a = 0)) ∧ ((nm1.toList == a.toList) = decide (idxF a = 1)) ∧ ((nm2.toList == a.toList) = decide (idxF a = 2)) := by
  have e01 := nm01
  have e02 := nm02
  have e12 := nm12
  unfold idxF
  by_cases h0 : a.toList = nm0.toList
  · rw [if_pos h0, h0]
    refine ⟨by simp, ?_, ?_⟩
    · simpa using fun h => e01 h.symm
    · simpa using fun h => e02 h.symm
  · rw [if_neg h0]
    by_cases h1 : a.toList = nm1.toList
    · rw [if_pos h1, h1]
      refine ⟨by simpa using e01, by simp, ?_⟩
      simpa using fun h => e12 h.symm
    · rw [if_neg h1]
      by_cases h2 : a.toList = nm2.toList
      · rw [if_pos h2, h2]
        exact ⟨by simpa using e02, by simpa using e12, by simp⟩
      · rw [if_neg h2]
        refine ⟨?_, ?_, ?_⟩
        · simpa using fun h => h0 h.symm
        · simpa using fun h => h1 h.symm
        · simpa using fun h => h2 h.symm
def wantF (r : Int) (k : Nat) : Int := if 0 ≤ r ∧ r + 1 < k then r + 1 else 0
set_option maxHeartbeats 4000000 in
set_option maxRecDepth 100000 in
theorem helperNames_r (X : World) (hL : LaidH X) (which : Int) (a : ByteArray) (r : Int) (hr : idxF a = r) (b0 b1 b2 : Bool) (hb0 : decide (r = 0) = b0) (hb1 : decide (r = 1) = b1) (hb2 : decide (r = 2) = b2) (hrr : r = -1 ∨ r = 0 ∨ r = 1 ∨ r = 2) :
    Calls Tryd.prog 6 #[.int .i64 which, .string a] X fun e X' => e = .returned (.bool true) ∧ Below X.heap.size X X' := by
  have HL := Aside0.mk hL
  obtain ⟨n0, n1, n2⟩ := name_facts a
  rw [hr, hb0] at n0
  rw [hr, hb1] at n1
  rw [hr, hb2] at n2
  have HNUM : Aside0 (∀ w, LaidH w → Calls Tryd.prog 25 #[.string a] w fun e w' => e = .returned (.tuple #[.int .i64 (r + 1), .bool (decide (r ≥ 0))]) ∧ Below w.heap.size w w') := ⟨fun w h => by
    have := number_c a w h
    unfold numberF foundF at this
    rw [hr] at this
    exact this⟩
  obtain ⟨nw, hnw⟩ : ∃ nw, nameF which = nw := ⟨_, rfl⟩
  have HNAME : Aside0 (∀ w, LaidH w → Calls Tryd.prog 27 #[.int .i64 which] w fun e w' => e = .returned (.string nw) ∧ w = w') := ⟨fun w h => hnw ▸ name_c which w h⟩
  have HREF : Aside0 (∀ w, Calls Tryd.prog 26 #[.int .i64 which] w fun e w' => e = .returned (.string nw) ∧ Below w.heap.size w w') := ⟨fun w => refname_c which w nw hnw⟩
  have heq : (nw.toList == nw.toList) = true := by simp
  clear hr hnw hL
  rcases hrr with rfl | rfl | rfl | rfl
  · simp at hb0 hb1 hb2
    subst hb0; subst hb1; subst hb2
    go_enter Tryd.func6, Tryd.ntmps6
    go_wp2_with fail
    refine (HNUM.out X HL.out).mono ?_
    rintro e w1 ⟨rfl, hb1⟩
    have HB1 := Aside0.mk hb1
    clear hb1
    go_wp2_with fail
    go_loopw [7, 8] (fun v7 v8 w => ∃ k : Nat, 1 ≤ k ∧ k ≤ 4 ∧ v8 = .int .i64 k ∧ v7 = .int .i64 (wantF (-1) k) ∧ Aside0 (Below X.heap.size X w)) (fun _ v8 _ => 4 - (intOf v8).toNat)
    case atStart => exact ⟨1, Nat.le_refl _, by decide, rfl, rfl, HB1⟩
    case round =>
      obtain ⟨k, hk1, hk4, rfl, rfl, HB⟩ := hrel
      obtain rfl | rfl | rfl | rfl : k = 1 ∨ k = 2 ∨ k = 3 ∨ k = 4 := by omega
      · go_wp2_with fail
        refine (refname_c 1 wr nm0 rfl).mono ?_
        rintro e w2 ⟨rfl, hb2⟩
        have HB2 : Aside0 (Below X.heap.size X w2) := ⟨HB.out.trans (hb2.mono HB.out.size)⟩
        clear hb2
        go_wp2_with fail
        exact ⟨⟨2, by decide, by decide, rfl, rfl, HB2⟩, by decide⟩
      · go_wp2_with fail
        refine (refname_c 2 wr nm1 rfl).mono ?_
        rintro e w2 ⟨rfl, hb2⟩
        have HB2 : Aside0 (Below X.heap.size X w2) := ⟨HB.out.trans (hb2.mono HB.out.size)⟩
        clear hb2
        go_wp2_with fail
        exact ⟨⟨3, by decide, by decide, rfl, rfl, HB2⟩, by decide⟩
      · go_wp2_with fail
        refine (refname_c 3 wr nm2 rfl).mono ?_
        rintro e w2 ⟨rfl, hb2⟩
        have HB2 : Aside0 (Below X.heap.size X w2) := ⟨HB.out.trans (hb2.mono HB.out.size)⟩
        clear hb2
        go_wp2_with fail
        exact ⟨⟨4, by decide, by decide, rfl, rfl, HB2⟩, by decide⟩
      · go_wp2_with fail
        refine (halive_c wr (HL.out.below HB.out)).mono ?_
        rintro e w2 ⟨rfl, hb2⟩
        have HB2 : Aside0 (Below X.heap.size X w2) := ⟨HB.out.trans (hb2.mono HB.out.size)⟩
        clear hb2
        go_wp2_with fail
        refine (HNAME.out w2 (HL.out.below HB2.out)).mono ?_
        rintro e w3 ⟨rfl, rfl⟩
        go_wp2_with fail
        refine (HREF.out w2).mono ?_
        rintro e w3 ⟨rfl, hb3⟩
        have HB3 : Aside0 (Below X.heap.size X w3) := ⟨HB2.out.trans (hb3.mono HB2.out.size)⟩
        clear hb3
        go_wp2_with fail
        go_ret
        exact ⟨rfl, HB3.out⟩
  · simp at hb0 hb1 hb2
    subst hb0; subst hb1; subst hb2
    go_enter Tryd.func6, Tryd.ntmps6
    go_wp2_with fail
    refine (HNUM.out X HL.out).mono ?_
    rintro e w1 ⟨rfl, hb1⟩
    have HB1 := Aside0.mk hb1
    clear hb1
    go_wp2_with fail
    go_loopw [7, 8] (fun v7 v8 w => ∃ k : Nat, 1 ≤ k ∧ k ≤ 4 ∧ v8 = .int .i64 k ∧ v7 = .int .i64 (wantF 0 k) ∧ Aside0 (Below X.heap.size X w)) (fun _ v8 _ => 4 - (intOf v8).toNat)
    case atStart => exact ⟨1, Nat.le_refl _, by decide, rfl, rfl, HB1⟩
    case round =>
      obtain ⟨k, hk1, hk4, rfl, rfl, HB⟩ := hrel
      obtain rfl | rfl | rfl | rfl : k = 1 ∨ k = 2 ∨ k = 3 ∨ k = 4 := by omega
      · go_wp2_with fail
        refine (refname_c 1 wr nm0 rfl).mono ?_
        rintro e w2 ⟨rfl, hb2⟩
        have HB2 : Aside0 (Below X.heap.size X w2) := ⟨HB.out.trans (hb2.mono HB.out.size)⟩
        clear hb2
        go_wp2_with fail
        exact ⟨⟨2, by decide, by decide, rfl, rfl, HB2⟩, by decide⟩
      · go_wp2_with fail
        refine (refname_c 2 wr nm1 rfl).mono ?_
        rintro e w2 ⟨rfl, hb2⟩
        have HB2 : Aside0 (Below X.heap.size X w2) := ⟨HB.out.trans (hb2.mono HB.out.size)⟩
        clear hb2
        go_wp2_with fail
        exact ⟨⟨3, by decide, by decide, rfl, rfl, HB2⟩, by decide⟩
      · go_wp2_with fail
        refine (refname_c 3 wr nm2 rfl).mono ?_
        rintro e w2 ⟨rfl, hb2⟩
        have HB2 : Aside0 (Below X.heap.size X w2) := ⟨HB.out.trans (hb2.mono HB.out.size)⟩
        clear hb2
        go_wp2_with fail
        exact ⟨⟨4, by decide, by decide, rfl, rfl, HB2⟩, by decide⟩
      · go_wp2_with fail
        refine (halive_c wr (HL.out.below HB.out)).mono ?_
        rintro e w2 ⟨rfl, hb2⟩
        have HB2 : Aside0 (Below X.heap.size X w2) := ⟨HB.out.trans (hb2.mono HB.out.size)⟩
        clear hb2
        go_wp2_with fail
        refine (HNAME.out w2 (HL.out.below HB2.out)).mono ?_
        rintro e w3 ⟨rfl, rfl⟩
        go_wp2_with fail
        refine (HREF.out w2).mono ?_
        rintro e w3 ⟨rfl, hb3⟩
        have HB3 : Aside0 (Below X.heap.size X w3) := ⟨HB2.out.trans (hb3.mono HB2.out.size)⟩
        clear hb3
        go_wp2_with fail
        go_ret
        exact ⟨rfl, HB3.out⟩
  · simp at hb0 hb1 hb2
    subst hb0; subst hb1; subst hb2
    go_enter Tryd.func6, Tryd.ntmps6
    go_wp2_with fail
    refine (HNUM.out X HL.out).mono ?_
    rintro e w1 ⟨rfl, hb1⟩
    have HB1 := Aside0.mk hb1
    clear hb1
    go_wp2_with fail
    go_loopw [7, 8] (fun v7 v8 w => ∃ k : Nat, 1 ≤ k ∧ k ≤ 4 ∧ v8 = .int .i64 k ∧ v7 = .int .i64 (wantF 1 k) ∧ Aside0 (Below X.heap.size X w)) (fun _ v8 _ => 4 - (intOf v8).toNat)
    case atStart => exact ⟨1, Nat.le_refl _, by decide, rfl, rfl, HB1⟩
    case round =>
      obtain ⟨k, hk1, hk4, rfl, rfl, HB⟩ := hrel
      obtain rfl | rfl | rfl | rfl : k = 1 ∨ k = 2 ∨ k = 3 ∨ k = 4 := by omega
      · go_wp2_with fail
        refine (refname_c 1 wr nm0 rfl).mono ?_
        rintro e w2 ⟨rfl, hb2⟩
        have HB2 : Aside0 (Below X.heap.size X w2) := ⟨HB.out.trans (hb2.mono HB.out.size)⟩
        clear hb2
        go_wp2_with fail
        exact ⟨⟨2, by decide, by decide, rfl, rfl, HB2⟩, by decide⟩
      · go_wp2_with fail
        refine (refname_c 2 wr nm1 rfl).mono ?_
        rintro e w2 ⟨rfl, hb2⟩
        have HB2 : Aside0 (Below X.heap.size X w2) := ⟨HB.out.trans (hb2.mono HB.out.size)⟩
        clear hb2
        go_wp2_with fail
        exact ⟨⟨3, by decide, by decide, rfl, rfl, HB2⟩, by decide⟩
      · go_wp2_with fail
        refine (refname_c 3 wr nm2 rfl).mono ?_
        rintro e w2 ⟨rfl, hb2⟩
        have HB2 : Aside0 (Below X.heap.size X w2) := ⟨HB.out.trans (hb2.mono HB.out.size)⟩
        clear hb2
        go_wp2_with fail
        exact ⟨⟨4, by decide, by decide, rfl, rfl, HB2⟩, by decide⟩
      · go_wp2_with fail
        refine (halive_c wr (HL.out.below HB.out)).mono ?_
        rintro e w2 ⟨rfl, hb2⟩
        have HB2 : Aside0 (Below X.heap.size X w2) := ⟨HB.out.trans (hb2.mono HB.out.size)⟩
        clear hb2
        go_wp2_with fail
        refine (HNAME.out w2 (HL.out.below HB2.out)).mono ?_
        rintro e w3 ⟨rfl, rfl⟩
        go_wp2_with fail
        refine (HREF.out w2).mono ?_
        rintro e w3 ⟨rfl, hb3⟩
        have HB3 : Aside0 (Below X.heap.size X w3) := ⟨HB2.out.trans (hb3.mono HB2.out.size)⟩
        clear hb3
        go_wp2_with fail
        go_ret
        exact ⟨rfl, HB3.out⟩
  · simp at hb0 hb1 hb2
    subst hb0; subst hb1; subst hb2
    go_enter Tryd.func6, Tryd.ntmps6
    go_wp2_with fail
    refine (HNUM.out X HL.out).mono ?_
    rintro e w1 ⟨rfl, hb1⟩
    have HB1 := Aside0.mk hb1
    clear hb1
    go_wp2_with fail
    go_loopw [7, 8] (fun v7 v8 w => ∃ k : Nat, 1 ≤ k ∧ k ≤ 4 ∧ v8 = .int .i64 k ∧ v7 = .int .i64 (wantF 2 k) ∧ Aside0 (Below X.heap.size X w)) (fun _ v8 _ => 4 - (intOf v8).toNat)
    case atStart => exact ⟨1, Nat.le_refl _, by decide, rfl, rfl, HB1⟩
    case round =>
      obtain ⟨k, hk1, hk4, rfl, rfl, HB⟩ := hrel
      obtain rfl | rfl | rfl | rfl : k = 1 ∨ k = 2 ∨ k = 3 ∨ k = 4 := by omega
      · go_wp2_with fail
        refine (refname_c 1 wr nm0 rfl).mono ?_
        rintro e w2 ⟨rfl, hb2⟩
        have HB2 : Aside0 (Below X.heap.size X w2) := ⟨HB.out.trans (hb2.mono HB.out.size)⟩
        clear hb2
        go_wp2_with fail
        exact ⟨⟨2, by decide, by decide, rfl, rfl, HB2⟩, by decide⟩
      · go_wp2_with fail
        refine (refname_c 2 wr nm1 rfl).mono ?_
        rintro e w2 ⟨rfl, hb2⟩
        have HB2 : Aside0 (Below X.heap.size X w2) := ⟨HB.out.trans (hb2.mono HB.out.size)⟩
        clear hb2
        go_wp2_with fail
        exact ⟨⟨3, by decide, by decide, rfl, rfl, HB2⟩, by decide⟩
      · go_wp2_with fail
        refine (refname_c 3 wr nm2 rfl).mono ?_
        rintro e w2 ⟨rfl, hb2⟩
        have HB2 : Aside0 (Below X.heap.size X w2) := ⟨HB.out.trans (hb2.mono HB.out.size)⟩
        clear hb2
        go_wp2_with fail
        exact ⟨⟨4, by decide, by decide, rfl, rfl, HB2⟩, by decide⟩
      · go_wp2_with fail
        refine (halive_c wr (HL.out.below HB.out)).mono ?_
        rintro e w2 ⟨rfl, hb2⟩
        have HB2 : Aside0 (Below X.heap.size X w2) := ⟨HB.out.trans (hb2.mono HB.out.size)⟩
        clear hb2
        go_wp2_with fail
        refine (HNAME.out w2 (HL.out.below HB2.out)).mono ?_
        rintro e w3 ⟨rfl, rfl⟩
        go_wp2_with fail
        refine (HREF.out w2).mono ?_
        rintro e w3 ⟨rfl, hb3⟩
        have HB3 : Aside0 (Below X.heap.size X w3) := ⟨HB2.out.trans (hb3.mono HB2.out.size)⟩
        clear hb3
        go_wp2_with fail
        go_ret
        exact ⟨rfl, HB3.out⟩
theorem helperNames_c (X : World) (hL : LaidH X) (which : Int) (a : ByteArray) : Calls Tryd.prog 6 #[.int .i64 which, .string a] X fun e X' => e = .returned (.bool true) ∧ Below X.heap.size X X' :=
  helperNames_r X hL which a (idxF a) rfl _ _ _ rfl rfl rfl (by have := idx_rng a; omega)
end Go.Proofs.YtomnfkihieinbaaDoor.PAll
