/- maps: the list of operations that comes in: what its reading says of memory. -/
import Derived.Test.YtmkmldpcoonepaaRows
import Derived.Test.YtmkmldpcoonepaaGRMapE
import Derived.Test.YtmkmldpcoonepaaGRMapA
import Derived.Deep.SlicePairs
import Derived.SizedLaws
import Derived.OpenShut
set_option linter.unusedVariables false
set_option linter.unusedSimpArgs false
namespace Go.Proofs.Ytmkmldpcoonepaa.PAll
open Go.RowKit Go.Proofs.YtmkmldpcoonepaaW.PrintWords Go.Proofs.YtmkmldpcoonepaaW.PrintLast Go.Proofs.YtmkmldpcoonepaaW.PrintMore Go.ChangeShapes Go.WideShapes
theorem op_i64 {x : Int} (h : (Lit.int .i64 x).wf = true) : -9223372036854775808 ≤ x ∧ x < 9223372036854775808 := by
  have h' : (decide ((IntKind.i64).min ≤ x) && decide (x ≤ (IntKind.i64).max)) = true := h
  rw [show (IntKind.i64).min = -9223372036854775808 by decide, show (IntKind.i64).max = 9223372036854775807 by decide, Bool.and_eq_true, decide_eq_true_eq, decide_eq_true_eq] at h'
  omega
theorem op_u8 {x : Int} (h : (Lit.int .u8 x).wf = true) : 0 ≤ x ∧ x < 256 := by
  have h' : (decide ((IntKind.u8).min ≤ x) && decide (x ≤ (IntKind.u8).max)) = true := h
  rw [show (IntKind.u8).min = 0 by decide, show (IntKind.u8).max = 255 by decide, Bool.and_eq_true, decide_eq_true_eq, decide_eq_true_eq] at h'
  omega
/-- The bytes of one operation, opened. -/
theorem open_bytes {H : Type} {enc : TypeId × Value → H} {W : World} {base n : Nat} {spare : Nat → Bool} {held : Bool} {v : Value} {x : DataW H × List MemPlace}
    (h : DataW.trod enc Try.prog W base spare held n 46 [v] = some x) :
    ∃ (A : Option Addr) (c : Nat) (l : List Int), v = .slice A l.length c ∧ l.length ≤ c ∧ Kd.C (Kd.int .u8) W A l.length l ∧ ∀ y ∈ l, 0 ≤ y ∧ y < 256 := by
  rcases open_ints Try.underlying46 Try.underlying5 (by kernel_rfl) h with ⟨hcs, _⟩ | ⟨a, len, c, zs, hcs, _, hl, hm, hz, _, hcell, hwz⟩
  · obtain rfl : v = .slice none 0 0 := by simpa using hcs
    exact ⟨none, 0, [], rfl, Nat.le_refl _, Kd.C_nil _ _, fun x hx => by cases hx⟩
  · obtain rfl : v = .slice (some a) len c := by simpa using hcs
    have hzl : len ≤ zs.length := by rw [hz]; split <;> omega
    have e : (zs.take len).length = len := by simp; omega
    refine ⟨some a, c, zs.take len, by rw [e], by rw [e]; exact hl, ?_, fun x hx => op_u8 (hwz x (List.mem_of_mem_take hx))⟩
    rw [e]
    refine Kd.C_of_reads (d := (0 : Int)) (h1 := fun _ => rfl) ⟨e, by unfold maxLen at hm; omega, fun _ => ⟨a, rfl, fun j hj => ?_⟩⟩
    rw [hcell j (by omega)]
    simp [List.getD_eq_getElem?_getD, hj]
set_option maxRecDepth 100000 in
/-- A list of operations that came in, opened. -/
theorem open_ops {H : Type} {enc : TypeId × Value → H} {W : World} {a : Option Addr} {len cap : Nat} {d : DataW H} {p : List MemPlace}
    (h : DataW.Trod enc Try.prog W 0 (fun _ => true) true 63 (.slice a len cap) d p) :
    ∃ l : List S66, len = l.length ∧ Kd.C k66 W a l.length l ∧ l.length ≤ cap ∧ ∀ o ∈ l, OpOk o := by
  obtain ⟨fuel, hf⟩ := h
  rcases Go.Deep.open_slice Try.underlying63 hf with ⟨hcs, _⟩ | ⟨a', len', cap', m, n, D, Pl, hcs, _, hl, hm, hmm, hx, hi⟩
  · have hv : Value.slice a len cap = .slice none 0 0 := by simpa [Value.cells] using hcs
    injection hv with e1 e2 e3
    subst e1; subst e2; subst e3
    exact ⟨[], rfl, Kd.C_nil _ _, Nat.le_refl _, fun s hs => by cases hs⟩
  · have hv : Value.slice a len cap = .slice (some a') len' cap' := by simpa [Value.cells] using hcs
    injection hv with e1 e2 e3
    subst e1; subst e2; subst e3
    have hlm : len ≤ m := by rw [hmm]; exact hl
    have ce : Try.prog.cellsOf 66 = 4 := by kernel_rfl
    have each : ∀ i, i < len → ∃ q : S66 × (Option Addr × Nat) × (Option Addr × Nat), (∀ j u, [Value.int .i64 q.1.f0, .int .i64 q.1.f1, .slice q.2.1.1 q.1.f2.length q.2.1.2, .slice q.2.2.1 q.1.f3.length q.2.2.2][j]? = some u → W.cell? ((a'.add (i * 4)).add j) = some u) ∧ (q.1.f2.length ≤ q.2.1.2 ∧ Kd.C (Kd.int .u8) W q.2.1.1 q.1.f2.length q.1.f2) ∧ (q.1.f3.length ≤ q.2.2.2 ∧ Kd.C (Kd.int .u8) W q.2.2.1 q.1.f3.length q.1.f3) ∧ OpOk q.1 := by
      intro i hlt
      obtain ⟨cs', h1, h2⟩ := hi i (by omega)
      rw [ce] at h1
      obtain ⟨_, hlen, hcell⟩ := World.cells?_some h1
      obtain ⟨xs, k, hk, hxy, _, hxl, hfld⟩ := DataW.trod_struct Try.underlying66 h2
      match xs, hxl, cs', hlen with
      | [y0, y1, y2, y3], _, [v0, v1, v2, v3], _ =>
        have g0 := hfld 0 _ rfl
        have g1 := hfld 1 _ rfl
        have g2 := hfld 2 _ rfl
        have g3 := hfld 3 _ rfl
        simp only [List.getElem?_cons_zero, List.getElem?_cons_succ, show Try.prog.cellsOf 3 = 1 by kernel_rfl, show Try.prog.cellsOf 46 = 1 by kernel_rfl, List.drop_zero, List.drop_succ_cons, List.take_succ_cons, List.take_zero] at g0 g1 g2 g3
        obtain ⟨n0, e0, _, wf0⟩ := DataW.trod_int Try.underlying3 g0
        obtain ⟨n1, e1, _, wf1⟩ := DataW.trod_int Try.underlying3 g1
        obtain ⟨A2, c2, l2, e2, hlc2, hC2, hB2⟩ := open_bytes g2
        obtain ⟨A3, c3, l3, e3, hlc3, hC3, hB3⟩ := open_bytes g3
        obtain rfl : v0 = .int .i64 n0 := by simpa [show Try.prog.cellsOf 3 = 1 by kernel_rfl] using e0
        obtain rfl : v1 = .int .i64 n1 := by simpa [show Try.prog.cellsOf 3 = 1 by kernel_rfl] using e1
        subst e2
        subst e3
        refine ⟨(⟨n0, n1, l2, l3⟩, (A2, c2), (A3, c3)), fun j u hu => ?_, ⟨hlc2, hC2⟩, ⟨hlc3, hC3⟩, ⟨(op_i64 wf0).1, (op_i64 wf0).2, (op_i64 wf1).1, (op_i64 wf1).2, hB2, hB3⟩⟩
        have hj : j < 4 := (List.getElem?_eq_some_iff.1 hu).1
        have := hcell j (by omega)
        rw [this]
        exact hu
    haveI : Inhabited (S66 × (Option Addr × Nat) × (Option Addr × Nat)) := ⟨(⟨0, 0, [], []⟩, (none, 0), (none, 0))⟩
    obtain ⟨q, hq⟩ := Go.Deep.choose_lt each
    have el : ((List.range len).map fun i => (q i).1).length = len := by simp
    refine ⟨(List.range len).map fun i => (q i).1, el.symm, ?_, by rw [el]; exact hl, fun s hs => ?_⟩
    · rw [el]
      refine ⟨el, by unfold maxLen at hm; omega, fun _ => ⟨a', rfl, fun j p hp => ?_⟩⟩
      have hj : j < len := by
        rcases Nat.lt_or_ge j len with h | h
        · exact h
        · rw [List.getElem?_eq_none (by rw [el]; exact h)] at hp; cases hp
      have hp' : (q j).1 = p := by
        rw [List.getElem?_map, List.getElem?_range hj] at hp
        exact Option.some.inj hp
      subst hp'
      obtain ⟨hcells, ⟨hlc2, hC2⟩, ⟨hlc3, hC3⟩, _⟩ := hq j hj
      exact ⟨[.int .i64 (q j).1.f0, .int .i64 (q j).1.f1, .slice (q j).2.1.1 (q j).1.f2.length (q j).2.1.2, .slice (q j).2.2.1 (q j).1.f3.length (q j).2.2.2], rfl, k66_mk W _ hlc2 hC2 hlc3 hC3, fun i u hu => by
        have := hcells i u hu
        first | exact this | (rw [Go.Deep.add_add] at this; exact this)⟩
    · obtain ⟨i, hi', rfl⟩ := List.mem_map.1 hs
      exact (hq i (by simpa using hi')).2.2.2
end Go.Proofs.Ytmkmldpcoonepaa.PAll
