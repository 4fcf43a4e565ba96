/- mem: part, Len, number, Clone. -/
import Derived.Test.YtlolhmocimaobaaMemW1
import Derived.Laws.IdiomCopy
import Derived.ArgAppend
set_option linter.unusedVariables false
set_option linter.unusedSimpArgs false
namespace Go.Proofs.Ytlolhmocimaobaa.PAll
open Go.RowKit Go.Proofs.YtlolhmocimaobaaW.PrintWords Go.Proofs.YtlolhmocimaobaaW.PrintLast Go.Proofs.YtlolhmocimaobaaW.PrintMore
/-- All bytes of an access are in a region. -/
def hitR (a n : Int) (r : Reg) : Bool := decide (1 ≤ n ∧ r.base ≤ a ∧ a + n ≤ r.base + r.data.length)
theorem hit_iff {a n : Int} {r : Reg} : hitR a n r = true ↔ 1 ≤ n ∧ r.base ≤ a ∧ a + n ≤ r.base + r.data.length := by unfold hitR; exact decide_eq_true_iff
theorem find_none_of {L : List Reg} {a n : Int} (h : ∀ (k : Nat) (r : Reg), L[k]? = some r → hitR a n r = false) : L.findIdx? (hitR a n) = none := by
  rw [List.findIdx?_eq_none_iff]
  intro r hr
  obtain ⟨k, hk⟩ := List.getElem?_of_mem hr
  exact h k r hk
theorem find_some_of {L : List Reg} {a n : Int} {k : Nat} {r : Reg} (hk : L[k]? = some r) (hr : hitR a n r = true) (h : ∀ (j : Nat) (s : Reg), j < k → L[j]? = some s → hitR a n s = false) : L.findIdx? (hitR a n) = some k := by
  rw [List.findIdx?_eq_some_iff_getElem]
  obtain ⟨hlt, he⟩ := List.getElem?_eq_some_iff.1 hk
  refine ⟨hlt, by rw [he]; exact hr, fun j hj => ?_⟩
  rw [h j _ hj (List.getElem?_eq_getElem (by omega))]
  decide
/-- No region ahead of the last that begins at or ahead of an address holds that address. -/
theorem hit_only {L : List Reg} (hI : Inv L) {a n : Int} {i : Nat} (hi : IsAt L a i) {j : Nat} {s : Reg} (hs : L[j]? = some s) (hh : hitR a n s = true) : j + 1 = i := by
  obtain ⟨h1, h2, h3⟩ := hit_iff.1 hh
  have hj : j < i := by
    rcases Nat.lt_or_ge j i with h | h
    · exact h
    · have := hi.2.2 j s h hs; omega
  rcases Nat.lt_or_ge (j + 1) i with h | h
  · obtain ⟨r, hr⟩ : ∃ r, L[i - 1]? = some r := ⟨_, List.getElem?_eq_getElem (by have := hi.1; omega)⟩
    have e1 := hI.apart j (i - 1) s r (by omega) hs hr
    have e2 := hi.2.1 (i - 1) r (by omega) hr
    omega
  · omega
/-- What part answers. -/
def PartPost (X : World) (B : Nat) (L : List Reg) (ps : List (Nat × Nat)) (a n : Int) (e : Ending) (X' : World) : Prop :=
  Below X.heap.size X X' ∧
  match L.findIdx? (hitR a n) with
  | none => e = .returned (.slice none 0 0)
  | some k => ∃ (p : Nat × Nat) (r : Reg) (cap : Nat), ps[k]? = some p ∧ L[k]? = some r ∧ hitR a n r = true ∧ X.ownsRow B 5 1 (.slice (some ⟨p.2, 0, none⟩) r.data.length cap) r.data.length (nums .u8 r.data) ∧ e = .returned (.slice (some ⟨p.2, (a - r.base).toNat, none⟩) n.toNat (cap - (a - r.base).toNat))
theorem part_nil (X : World) (a n : Int) : Calls Try.prog 33 #[.pointer none, .int .u64 a, .int .i64 n] X fun e X' => e = .returned (.slice none 0 0) ∧ X = X' := by
  go_enter Try.func33, Try.ntmps33
  go_wp2
  go_ret
  exact ⟨rfl, rfl⟩
set_option maxHeartbeats 4000000 in
set_option maxRecDepth 100000 in
theorem mem_part (X : World) (B : Nat) (own : Nat → Prop) (m : Nat) (L : List Reg) (v : Value) (ps : List (Nat × Nat)) (a n : Int) (h : MemIn X B own m L v ps) (hI : Inv L) (hl : L.length ≤ 1000000) (ha0 : 0 ≤ a) (ha1 : a < 18446744073709551616) (hn0 : -9223372036854775808 ≤ n) (hn1 : n < 9223372036854775808) :
    Calls Try.prog 33 #[.pointer (some ⟨m, 0, none⟩), .int .u64 a, .int .i64 n] X (PartPost X B L ps a n) := by
  by_cases hlt : n < 1
  · have HP : Aside0 (PartPost X B L ps a n (.returned (.slice none 0 0)) X) := by
      refine ⟨⟨Below.refl _ _, ?_⟩⟩
      rw [find_none_of fun k r _ => by unfold hitR; exact decide_eq_false (by omega)]
    clear h hI
    go_enter Try.func33, Try.ntmps33
    go_wp2
    go_ret
    exact HP.out
  · have HM := Aside0.mk h
    have HI := Aside0.mk hI
    have hA := Aside0.mk (mem_at X B own m L v ps a h hI hl)
    clear h hI
    go_enter Try.func33, Try.ntmps33
    go_wp2_with fail
    refine hA.out.mono ?_
    rintro e X' ⟨⟨i, hi, rfl⟩, hb⟩
    have HB := Aside0.mk hb
    have HAT := Aside0.mk hi
    clear hb hi
    cases i with
    | zero =>
      have HP : Aside0 (PartPost X B L ps a n (.returned (.slice none 0 0)) X') := by
        refine ⟨⟨HB.out, ?_⟩⟩
        rw [find_none_of fun k r hk => Bool.eq_false_iff.2 fun hh => by have := hit_only HI.out HAT.out hk hh; omega]
      rw [show (((0 : Nat) : Int) - 1) = -1 by rfl]
      go_wp2_with fail
      go_ret
      exact HP.out
    | succ k =>
      rw [show ((((k + 1 : Nat) : Nat) : Int) - 1) = (k : Int) by omega]
      have HM' := Aside0.mk (HM.out.below HB.out)
      have hkl : k < L.length := by have := HAT.out.1; omega
      obtain ⟨p, r, g, cap, hp, hr, hv, hc, hcap, hcm, hra⟩ := HM'.out.get hkl
      have hle : r.base ≤ a := HAT.out.2.1 k r (Nat.lt_succ_self _) hr
      obtain ⟨cd, hbk, hrow⟩ := hra.lies
      obtain ⟨hb0, hb1, _, _⟩ := blk2 hbk
      have hmem : r ∈ L := List.mem_of_getElem? hr
      have hlo := HI.out.lo r hmem
      have hsh := HI.out.short r hmem
      have hcd : r.data.length ≤ cd := by
        rcases hrow.2 with ⟨h1, _⟩ | ⟨_, _, _, h1, _, _, h2, _⟩
        · cases h1
        · cases h1; exact h2
      have hcd2 : cd ≤ 9223372036854775807 := by
        rcases hrow.2 with ⟨h1, _⟩ | ⟨_, _, _, h1, _, _, _, h2, _⟩
        · cases h1
        · cases h1; exact h2
      have hm0 := (blk2 HM'.out.blk).1
      cases hv
      have HP := Aside0.mk hp
      have HR := Aside0.mk hr
      have HRA := Aside0.mk (HM.out.reg k p r hp hr)
      have HBK := Aside0.mk hbk
      unfold maxLen at hcm
      clear hra hbk hrow hp hr hmem
      obtain ⟨off, hoffe⟩ : ∃ off : Nat, a - r.base = off := ⟨(a - r.base).toNat, by omega⟩
      obtain ⟨nn, hne⟩ : ∃ nn : Nat, n = nn := ⟨n.toNat, by omega⟩
      have HOF := Aside0.mk hoffe
      have hw1 : IntKind.u64.wrap (a - r.base) = off := by rw [u64_mod]; omega
      have hnn : 1 ≤ nn := by omega
      have hnn2 : nn ≤ 9223372036854775807 := by omega
      have hnil : ¬ hitR a n r = true → Aside0 (PartPost X B L ps a n (.returned (.slice none 0 0)) X') := by
        intro hno
        refine ⟨⟨HB.out, ?_⟩⟩
        rw [find_none_of fun j s hs => Bool.eq_false_iff.2 fun hh => by
          have := hit_only HI.out HAT.out hs hh
          obtain rfl : j = k := by omega
          rw [HR.out] at hs
          cases hs
          exact hno hh]
      by_cases hoff : off < r.data.length
      · by_cases hfit : nn + off ≤ r.data.length
        · have hhit : hitR a n r = true := hit_iff.2 ⟨by omega, hle, by omega⟩
          have hfind := Aside0.mk (find_some_of HR.out hhit (fun j s hj hs => Bool.eq_false_iff.2 fun hh => by have := hit_only HI.out HAT.out hs hh; omega))
          have HHIT := Aside0.mk hhit
          subst hne
          clear hoffe hle hlt ha0 ha1 hn0 hn1 hlo hhit hnil
          go_wp2
          go_ret
          refine ⟨HB.out, ?_⟩
          rw [hfind.out]
          obtain ⟨cd', hbk', hrow'⟩ := HRA.out.lies
          have hbb := (HB.out.block p.1 HRA.out.lt.1).trans hbk'
          rw [HBK.out] at hbb
          simp only [Option.some.injEq, Obj.cells.injEq, Array.mk.injEq, List.cons.injEq, Value.slice.injEq, and_true, true_and] at hbb
          subst hbb
          refine ⟨p, r, cd, HP.out, HR.out, HHIT.out, hrow', ?_⟩
          rw [HOF.out, Int.toNat_natCast, Int.toNat_natCast]
          show Ending.returned (.slice (some ⟨p.2, off, none⟩) (off + nn - off) (cd - off)) = _
          rw [Nat.add_sub_cancel_left]
        · have HNIL := hnil (fun hh => by have := hit_iff.1 hh; omega)
          subst hne
          clear hoffe hle hlt ha0 ha1 hn0 hn1 hlo hnil
          go_wp2
          go_ret
          exact HNIL.out
      · have HNIL := hnil (fun hh => by have := hit_iff.1 hh; omega)
        subst hne
        clear hoffe hle hlt ha0 ha1 hn0 hn1 hlo hnil
        go_wp2
        go_ret
        exact HNIL.out
end Go.Proofs.Ytlolhmocimaobaa.PAll
