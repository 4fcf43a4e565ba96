/- The list of sections that comes in: what its reading says of memory. -/
import Derived.Test.YtnpjfkleoijbiaaRows
import Derived.Test.YtnpjfkleoijbiaaPAllx16
import Derived.Test.YtnpjfkleoijbiaaBoxRef3
import Derived.Deep.SlicePairs
import Derived.SizedLaws
namespace Go.Proofs.Ytnpjfkleoijbiaa.PAll
open Go.RowKit Go.Proofs.YtnpjfkleoijbiaaW.PrintWords Go.Proofs.YtnpjfkleoijbiaaW.PrintLast Go.Proofs.YtnpjfkleoijbiaaW.PrintMore Go.ChangeShapes Go.WideShapes

/-- The data of one section, opened. -/
theorem open_data {H : Type} {enc : TypeId × Value → H} {W : World} {base n : Nat} {spare : Nat → Bool} {held : Bool} {v : Value} {x : DataW H × List MemPlace}
    (h : DataW.trod enc Try.prog W base spare held n 25 [v] = some x) :
    ∃ (A : Option Addr) (c : Nat) (l : List Int), v = .slice A l.length c ∧ l.length ≤ c ∧ Kd.C (Kd.int .u8) W A l.length l ∧ Bytes l := by
  rcases open_ints Try.underlying25 Try.underlying5 (by kernel_rfl) h with ⟨hcs, _⟩ | ⟨a, len, c, zs, hcs, _, hl, hm, hz, _, hcell, hwz⟩
  · obtain rfl : v = .slice none 0 0 := by simpa using hcs
    exact ⟨none, 0, [], rfl, Nat.le_refl _, Kd.C_nil _ _, fun x hx => by cases hx⟩
  · obtain rfl : v = .slice (some a) len c := by simpa using hcs
    have hzl : len ≤ zs.length := by rw [hz]; split <;> omega
    have e : (zs.take len).length = len := by simp; omega
    refine ⟨some a, c, zs.take len, by rw [e], by rw [e]; exact hl, ?_, fun x hx => byte_wf x (hwz x (List.mem_of_mem_take hx))⟩
    rw [e]
    refine Kd.C_of_reads (d := (0 : Int)) (h1 := fun _ => rfl) ⟨e, by unfold maxLen at hm; omega, fun _ => ⟨a, rfl, fun j hj => ?_⟩⟩
    rw [hcell j (by omega)]
    simp [List.getD_eq_getElem?_getD, List.getElem?_take, hj]

/-- A list of sections that came in, opened. -/
theorem open_sections {H : Type} {enc : TypeId × Value → H} {W : World} {a : Option Addr} {len cap : Nat} {d : DataW H} {p : List MemPlace} {ts : List TypeId} {ds : List (DataW H)} {j : Nat}
    (hsz : (DataW.weightsEach Try.prog ts ds).all (· ≤ reachBytes) = true) (ht : ts[j]? = some 22) (hd : ds[j]? = some d)
    (h : DataW.Trod enc Try.prog W 0 (fun _ => true) true 22 (.slice a len cap) d p) :
    ∃ l : List S46, len = l.length ∧ Kd.C k46 W a l.length l ∧ l.length ≤ cap ∧ l.length ≤ 4398046511103 ∧ ∀ s ∈ l, Bytes s.f1 := by
  obtain ⟨fuel, hf⟩ := h
  rcases Go.Deep.open_slice_pairs Try.underlying22 Try.underlying46 (by kernel_rfl) rfl rfl (by kernel_rfl) (by kernel_rfl) hf with ⟨hcs, _⟩ | ⟨a', len', cap', m, n, V0, V1, D0, D1, P0, P1, hcs, _, hl, hm, hmm, hx, hi⟩
  · have hv : Value.slice a len cap = .slice none 0 0 := by simpa [Value.cells] using hcs
    injection hv with e1 e2 e3
    subst e1; subst e2; subst e3
    exact ⟨[], rfl, Kd.C_nil _ _, Nat.le_refl _, by simp, fun s hs => by cases hs⟩
  · have hv : Value.slice a len cap = .slice (some a') len' cap' := by simpa [Value.cells] using hcs
    injection hv with e1 e2 e3
    subst e1; subst e2; subst e3
    have hlm : len ≤ m := by rw [hmm]; exact hl
    have each : ∀ i, i < len → ∃ q : S46 × Option Addr × Nat, V0 i = .int .i64 q.1.f0 ∧ V1 i = .slice q.2.1 q.1.f1.length q.2.2 ∧ q.1.f1.length ≤ q.2.2 ∧ Kd.C (Kd.int .u8) W q.2.1 q.1.f1.length q.1.f1 ∧ Bytes q.1.f1 := by
      intro i hlt
      obtain ⟨_, _, t0, t1⟩ := hi i (by omega)
      obtain ⟨k, hk, _, _⟩ := DataW.trod_int Try.underlying3 t0
      obtain ⟨A, c, l, hv, hlc, hC, hB⟩ := open_data t1
      exact ⟨(⟨k, l⟩, A, c), by simpa using hk, hv, hlc, hC, hB⟩
    haveI : Inhabited (S46 × Option Addr × Nat) := ⟨(⟨0, []⟩, none, 0)⟩
    obtain ⟨q, hq⟩ := Go.Deep.choose_lt each
    have el : ((List.range len).map fun i => (q i).1).length = len := by simp
    have hz : len * 32 ≤ reachBytes := by
      have hd' : ds[j]? = some (.slice ((List.range len).map fun i => .agg [D0 i, D1 i]) ((List.range (m - len)).map fun j => .agg [D0 (len + j), D1 (len + j)])) := by
        rw [hd, show d = _ from congrArg Prod.fst hx]
      have := sized_slice hsz ht hd' Try.underlying22
      rw [show Try.prog.bytesOf 46 = 32 by kernel_rfl, List.length_map, List.length_range] at this
      have h2 : len * 32 ≤ (len + ((List.range (m - len)).map fun j => DataW.agg [D0 (len + j), D1 (len + j)]).length) * 32 := by omega
      exact Nat.le_trans h2 this
    have hz2 : reachBytes < 2 ^ 47 := reachBytes_lt
    refine ⟨(List.range len).map fun i => (q i).1, el.symm, ?_, by rw [el]; exact hl, by rw [el]; omega, fun s hs => ?_⟩
    · rw [el]
      refine ⟨el, by unfold maxLen at hm; omega, fun _ => ⟨a', rfl, fun j p hp => ?_⟩⟩
      have hj : j < len := by
        rcases Nat.lt_or_ge j len with h | h
        · exact h
        · rw [List.getElem?_eq_none (by rw [el]; exact h)] at hp; cases hp
      have hp' : (q j).1 = p := by
        rw [List.getElem?_map, List.getElem?_range hj] at hp
        exact Option.some.inj hp
      subst hp'
      obtain ⟨v0, v1, hlc, hC, _⟩ := hq j hj
      obtain ⟨c0, c1, _, _⟩ := hi j (by omega)
      rw [v0] at c0; rw [v1] at c1
      refine ⟨[.int .i64 (q j).1.f0, .slice (q j).2.1 (q j).1.f1.length (q j).2.2], rfl, k46_mk W _ hlc hC, fun i u hu => ?_⟩
      match i, hu with
      | 0, hu => obtain rfl := Option.some.inj hu; exact c0
      | 1, hu => obtain rfl := Option.some.inj hu; exact c1
      | _ + 2, hu => simp at hu
    · obtain ⟨i, hi', rfl⟩ := List.mem_map.1 hs
      exact (hq i (by simpa using hi')).2.2.2.2
theorem u16_wf (x : Int) (h : (Lit.int .u16 x).wf = true) : 0 ≤ x ∧ x < 65536 := by
  have h' : (decide ((IntKind.u16).min ≤ x) && decide (x ≤ (IntKind.u16).max)) = true := h
  rw [show (IntKind.u16).min = 0 by decide, show (IntKind.u16).max = 65535 by decide, Bool.and_eq_true, decide_eq_true_eq, decide_eq_true_eq] at h'
  omega
end Go.Proofs.Ytnpjfkleoijbiaa.PAll
