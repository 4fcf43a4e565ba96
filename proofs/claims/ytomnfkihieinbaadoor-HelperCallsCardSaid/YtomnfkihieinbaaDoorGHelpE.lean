/- The texts DefOpen, HelpOpen of this claim, joined. -/
import Derived.Test.YtomnfkihieinbaaDoorGMapsB
import Derived.Deep.SlicePairs
import Derived.SizedLaws
import Derived.OpenShut
import Derived.Test.YtomnfkihieinbaaDoorGHelpC
/- A list of declarations that comes in: what its reading says of memory. -/
set_option linter.unusedVariables false
set_option linter.unusedSimpArgs false
namespace Go.Proofs.YtomnfkihieinbaaDoor.PAll
open Go.RowKit Go.Proofs.YtomnfkihieinbaaDoorW.PrintWords Go.Proofs.YtomnfkihieinbaaDoorW.PrintLast Go.Proofs.YtomnfkihieinbaaDoorW.PrintMore Go.ChangeShapes Go.WideShapes
theorem dop_i64 {x : Int} (h : (Lit.int .i64 x).wf = true) : -9223372036854775808 ≤ x ∧ x < 9223372036854775808 := by
  have h' : (decide ((IntKind.i64).min ≤ x) && decide (x ≤ (IntKind.i64).max)) = true := h
  rw [show (IntKind.i64).min = -9223372036854775808 by decide, show (IntKind.i64).max = 9223372036854775807 by decide, Bool.and_eq_true, decide_eq_true_eq, decide_eq_true_eq] at h'
  omega
theorem dop_u64 {x : Int} (h : (Lit.int .u64 x).wf = true) : 0 ≤ x ∧ x < 18446744073709551616 := by
  have h' : (decide ((IntKind.u64).min ≤ x) && decide (x ≤ (IntKind.u64).max)) = true := h
  rw [show (IntKind.u64).min = 0 by decide, show (IntKind.u64).max = 18446744073709551615 by decide, Bool.and_eq_true, decide_eq_true_eq, decide_eq_true_eq] at h'
  omega
set_option maxRecDepth 100000 in
/-- A list of declarations that came in, opened. -/
theorem open_defs {H : Type} {enc : TypeId × Value → H} {W : World} {a : Option Addr} {len cap : Nat} {d : DataW H} {p : List MemPlace}
    (h : DataW.Trod enc Tryd.prog W 0 (fun _ => true) true 29 (.slice a len cap) d p) :
    ∃ l : List S28, len = l.length ∧ Kd.C k28 W a l.length l ∧ l.length ≤ cap ∧ True := by
  obtain ⟨fuel, hf⟩ := h
  rcases Go.Deep.open_slice Tryd.underlying29 hf with ⟨hcs, _⟩ | ⟨a', len', cap', m, n, D, Pl, hcs, _, hl, hm, hmm, hx, hi⟩
  · have hv : Value.slice a len cap = .slice none 0 0 := by simpa [Value.cells] using hcs
    injection hv with e1 e2 e3
    subst e1; subst e2; subst e3
    exact ⟨[], rfl, Kd.C_nil _ _, Nat.le_refl _, trivial⟩
  · have hv : Value.slice a len cap = .slice (some a') len' cap' := by simpa [Value.cells] using hcs
    injection hv with e1 e2 e3
    subst e1; subst e2; subst e3
    have hlm : len ≤ m := by rw [hmm]; exact hl
    have ce : Tryd.prog.cellsOf 28 = 4 := by kernel_rfl
    have each : ∀ i, i < len → ∃ q : S28, ∀ j u, [Value.string q.f0, .int .i64 q.f1, .int .i64 q.f2, .int .i64 q.f3][j]? = some u → W.cell? ((a'.add (i * 4)).add j) = some u := by
      intro i hlt
      obtain ⟨cs', h1, h2⟩ := hi i (by omega)
      rw [ce] at h1
      obtain ⟨_, hlen, hcell⟩ := World.cells?_some h1
      obtain ⟨xs, k, hk, hxy, _, hxl, hfld⟩ := DataW.trod_struct Tryd.underlying28 h2
      match xs, hxl, cs', hlen with
      | [y0, y1, y2, y3], _, [v0, v1, v2, v3], _ =>
        have g0 := hfld 0 _ rfl
        have g1 := hfld 1 _ rfl
        have g2 := hfld 2 _ rfl
        have g3 := hfld 3 _ rfl
        simp only [List.getElem?_cons_zero, List.getElem?_cons_succ, show Tryd.prog.cellsOf 3 = 1 by kernel_rfl, show Tryd.prog.cellsOf 9 = 1 by kernel_rfl, List.drop_zero, List.drop_succ_cons, List.take_succ_cons, List.take_zero] at g0 g1 g2 g3
        obtain ⟨n0, e0, _, wf0⟩ := DataW.trod_string Tryd.underlying9 g0
        obtain ⟨n1, e1, _, wf1⟩ := DataW.trod_int Tryd.underlying3 g1
        obtain ⟨n2, e2, _, wf2⟩ := DataW.trod_int Tryd.underlying3 g2
        obtain ⟨n3, e3, _, wf3⟩ := DataW.trod_int Tryd.underlying3 g3
        obtain rfl : v0 = .string n0 := by simpa [show Tryd.prog.cellsOf 9 = 1 by kernel_rfl] using e0
        obtain rfl : v1 = .int .i64 n1 := by simpa [show Tryd.prog.cellsOf 3 = 1 by kernel_rfl] using e1
        obtain rfl : v2 = .int .i64 n2 := by simpa [show Tryd.prog.cellsOf 3 = 1 by kernel_rfl] using e2
        obtain rfl : v3 = .int .i64 n3 := by simpa [show Tryd.prog.cellsOf 3 = 1 by kernel_rfl] using e3
        refine ⟨⟨n0, n1, n2, n3⟩, fun j u hu => ?_⟩
        have hj : j < 4 := (List.getElem?_eq_some_iff.1 hu).1
        have := hcell j (by omega)
        rw [this]
        exact hu
    haveI : Inhabited S28 := ⟨⟨⟨#[]⟩, 0, 0, 0⟩⟩
    obtain ⟨q, hq⟩ := Go.Deep.choose_lt each
    have el : ((List.range len).map fun i => q i).length = len := by simp
    refine ⟨(List.range len).map fun i => q i, el.symm, ?_, by rw [el]; exact hl, trivial⟩
    rw [el]
    refine ⟨el, by unfold maxLen at hm; omega, fun _ => ⟨a', rfl, fun j p hp => ?_⟩⟩
    have hj : j < len := by
      rcases Nat.lt_or_ge j len with h | h
      · exact h
      · rw [List.getElem?_eq_none (by rw [el]; exact h)] at hp; cases hp
    have hp' : q j = p := by
      rw [List.getElem?_map, List.getElem?_range hj] at hp
      exact Option.some.inj hp
    subst hp'
    exact ⟨[.string (q j).f0, .int .i64 (q j).f1, .int .i64 (q j).f2, .int .i64 (q j).f3], rfl, k28_mk W _, fun i u hu => by
      have := hq j hj i u hu
      first | exact this | (rw [Go.Deep.add_add] at this; exact this)⟩
end Go.Proofs.YtomnfkihieinbaaDoor.PAll
/- helper: what comes in: four numbers, a call with its registers. -/
set_option linter.unusedVariables false
set_option linter.unusedSimpArgs false
namespace Go.Proofs.YtomnfkihieinbaaDoor.PAll
open Go.RowKit Go.Proofs.YtomnfkihieinbaaDoorW.PrintWords Go.Proofs.YtomnfkihieinbaaDoorW.PrintLast Go.Proofs.YtomnfkihieinbaaDoorW.PrintMore Go.ChangeShapes Go.WideShapes Go.ChangeAt
/-- An array of numbers of one kind. -/
theorem open_nums {H : Type} {enc : TypeId × Value → H} {P : Program} {w : World} {base : Nat} {sp : Nat → Bool} {held : Bool} {fuel : Nat} {t e : TypeId} {n : Nat} {q : IntKind} {cs : List Value} {x : DataW H × List MemPlace}
    (ht : P.underlying t = some (.array n e)) (he : P.underlying e = some (.int q)) (hce : P.cellsOf e = 1) (hct : P.cellsOf t = n)
    (h : DataW.trod enc P w base sp held fuel t cs = some x) : cs.length = n ∧ ∀ i, i < n → ∃ z, cs[i]? = some (.int q z) ∧ (Lit.int q z).wf = true := by
  cases fuel with
  | zero => simp [DataW.trod] at h
  | succ fuel =>
    simp only [DataW.trod, ht, hce, hct, Nat.mul_one] at h
    split at h
    · rename_i hl
      obtain ⟨xs, hm, hx⟩ := Option.map_eq_some_iff.1 h
      refine ⟨by simpa using hl, fun i hi => ?_⟩
      obtain ⟨b, hb, hf⟩ := Lib.mapM_at hm i i (by simp [hi])
      obtain ⟨z, hc, _, hw⟩ := DataW.trod_int he hf
      refine ⟨z, ?_, hw⟩
      have := congrArg (·[0]?) hc
      simpa [List.getElem?_take, List.getElem?_drop] using this
    · cases h
theorem eleven {l : List Value} (h : l.length = 11) : ∃ a0 a1 a2 a3 a4 a5 a6 a7 a8 a9 a10, l = [a0, a1, a2, a3, a4, a5, a6, a7, a8, a9, a10] := by
  match l, h with
  | [a0, a1, a2, a3, a4, a5, a6, a7, a8, a9, a10], _ => exact ⟨_, _, _, _, _, _, _, _, _, _, _, rfl⟩
/-- A call with its registers. -/
structure OpH where
  which : Int
  r0 : Int
  r1 : Int
  r2 : Int
  r3 : Int
  r4 : Int
  r5 : Int
  r6 : Int
  r7 : Int
  r8 : Int
  r9 : Int
  r10 : Int
def opCells (o : OpH) : List Value := [.int .i64 o.which, .int .u64 o.r0, .int .u64 o.r1, .int .u64 o.r2, .int .u64 o.r3, .int .u64 o.r4, .int .u64 o.r5, .int .u64 o.r6, .int .u64 o.r7, .int .u64 o.r8, .int .u64 o.r9, .int .u64 o.r10]
structure OpHOk (o : OpH) : Prop where
  w : -9223372036854775808 ≤ o.which ∧ o.which < 9223372036854775808
  r1 : 0 ≤ o.r1 ∧ o.r1 < 18446744073709551616
  r2 : 0 ≤ o.r2 ∧ o.r2 < 18446744073709551616
  r3 : 0 ≤ o.r3 ∧ o.r3 < 18446744073709551616
set_option maxRecDepth 100000 in
theorem op_cells {H : Type} {enc : TypeId × Value → H} {W : World} {base : Nat} {sp : Nat → Bool} {held : Bool} {fuel : Nat} {cs : List Value} {x : DataW H × List MemPlace} (hl : cs.length = 12)
    (h : DataW.trod enc Tryd.prog W base sp held fuel 57 cs = some x) : ∃ o : OpH, cs = opCells o ∧ OpHOk o := by
  obtain ⟨xs, k, hk, hxy, _, hxl, hfld⟩ := DataW.trod_struct Tryd.underlying57 h
  match xs, hxl with
  | [y0, y1], _ =>
    have g0 := hfld 0 _ rfl
    have g1 := hfld 1 _ rfl
    obtain ⟨v, l, rfl⟩ : ∃ v l, cs = v :: l := by
      cases cs with
      | nil => simp at hl
      | cons v l => exact ⟨v, l, rfl⟩
    have hl1 : l.length = 11 := by simpa using hl
    simp only [List.getElem?_cons_zero, List.getElem?_cons_succ, show Tryd.prog.cellsOf 2 = 1 by kernel_rfl, show Tryd.prog.cellsOf 32 = 11 by kernel_rfl, List.drop_zero, List.drop_succ_cons, List.take_succ_cons, List.take_zero] at g0 g1
    have e1 : l.take 11 = l := List.take_of_length_le (by omega)
    obtain ⟨n0, e0, _, wf0⟩ := DataW.trod_int Tryd.underlying2 g0
    have c1 : Tryd.prog.cellsOf 2 = 1 := by kernel_rfl
    have c11 : Tryd.prog.cellsOf 32 = 11 := by kernel_rfl
    obtain rfl : v = .int .i64 n0 := by simpa [c1] using e0
    have g2 := open_nums Tryd.underlying32 Tryd.underlying30 (by kernel_rfl) (by kernel_rfl) g1
    obtain ⟨_, hz⟩ := g2
    obtain ⟨a0, a1, a2, a3, a4, a5, a6, a7, a8, a9, a10, rfl⟩ := eleven hl1
    obtain ⟨z0, h0, w0⟩ := hz 0 (by decide)
    obtain ⟨z1, h1, w1⟩ := hz 1 (by decide)
    obtain ⟨z2, h2, w2⟩ := hz 2 (by decide)
    obtain ⟨z3, h3, w3⟩ := hz 3 (by decide)
    obtain ⟨z4, h4, w4⟩ := hz 4 (by decide)
    obtain ⟨z5, h5, w5⟩ := hz 5 (by decide)
    obtain ⟨z6, h6, w6⟩ := hz 6 (by decide)
    obtain ⟨z7, h7, w7⟩ := hz 7 (by decide)
    obtain ⟨z8, h8, w8⟩ := hz 8 (by decide)
    obtain ⟨z9, h9, w9⟩ := hz 9 (by decide)
    obtain ⟨z10, h10, w10⟩ := hz 10 (by decide)
    simp [c11] at h0 h1 h2 h3 h4 h5 h6 h7 h8 h9 h10
    subst h0; subst h1; subst h2; subst h3; subst h4; subst h5; subst h6; subst h7; subst h8; subst h9; subst h10
    exact ⟨⟨n0, z0, z1, z2, z3, z4, z5, z6, z7, z8, z9, z10⟩, rfl, ⟨dop_i64 wf0, dop_u64 w1, dop_u64 w2, dop_u64 w3⟩⟩
/-- A list of calls lies in memory. -/
def OpsAt (w : World) (A : Option Addr) (l : List OpH) : Prop := l.length ≤ maxLen ∧ (0 < l.length → ∃ ad, A = some ad ∧ ∀ (j : Nat) o, l[j]? = some o → ∀ i u, (opCells o)[i]? = some u → w.cell? ((ad.add (j * 12)).add i) = some u)
set_option maxRecDepth 100000 in
theorem open_ops {H : Type} {enc : TypeId × Value → H} {W : World} {a : Option Addr} {len cap : Nat} {d : DataW H} {p : List MemPlace}
    (h : DataW.Trod enc Tryd.prog W 0 (fun _ => true) true 44 (.slice a len cap) d p) :
    ∃ l : List OpH, len = l.length ∧ OpsAt W a l ∧ l.length ≤ cap ∧ ∀ o ∈ l, OpHOk o := by
  obtain ⟨fuel, hf⟩ := h
  rcases Go.Deep.open_slice Tryd.underlying44 hf with ⟨hcs, _⟩ | ⟨a', len', cap', m, n, D, Pl, hcs, _, hl, hm, hmm, hx, hi⟩
  · have hv : Value.slice a len cap = .slice none 0 0 := by simpa [Value.cells] using hcs
    injection hv with e1 e2 e3
    subst e1; subst e2; subst e3
    exact ⟨[], rfl, ⟨by decide, fun h => absurd h (by decide)⟩, Nat.le_refl _, fun s hs => by cases hs⟩
  · have hv : Value.slice a len cap = .slice (some a') len' cap' := by simpa [Value.cells] using hcs
    injection hv with e1 e2 e3
    subst e1; subst e2; subst e3
    have hlm : len ≤ m := by rw [hmm]; exact hl
    have ce : Tryd.prog.cellsOf 57 = 12 := by kernel_rfl
    have each : ∀ i, i < len → ∃ q : OpH, (∀ j u, (opCells q)[j]? = some u → W.cell? ((a'.add (i * 12)).add j) = some u) ∧ OpHOk q := by
      intro i hlt
      obtain ⟨cs', h1, h2⟩ := hi i (by omega)
      rw [ce] at h1
      obtain ⟨_, hlen, hcell⟩ := World.cells?_some h1
      obtain ⟨o, rfl, hk⟩ := op_cells hlen h2
      refine ⟨o, fun j u hu => ?_, hk⟩
      have hj : j < 12 := by have := (List.getElem?_eq_some_iff.1 hu).1; simpa [opCells] using this
      have := hcell j (by omega)
      rw [this]
      exact hu
    haveI : Inhabited OpH := ⟨⟨0, 0, 0, 0, 0, 0, 0, 0, 0, 0, 0, 0⟩⟩
    obtain ⟨q, hq⟩ := Go.Deep.choose_lt each
    have el : ((List.range len).map fun i => q i).length = len := by simp
    refine ⟨(List.range len).map fun i => q i, el.symm, ⟨by rw [el]; exact Nat.le_trans hl hm, fun _ => ⟨a', rfl, fun j o ho => ?_⟩⟩, by rw [el]; exact hl, fun s hs => ?_⟩
    · have hj : j < len := by
        rcases Nat.lt_or_ge j len with h | h
        · exact h
        · rw [List.getElem?_eq_none (by rw [el]; exact h)] at ho; cases ho
      have hp' : q j = o := by
        rw [List.getElem?_map, List.getElem?_range hj] at ho
        exact Option.some.inj ho
      subst hp'
      exact (hq j hj).1
    · obtain ⟨i, hi', rfl⟩ := List.mem_map.1 hs
      exact (hq i (by simpa using hi')).2
end Go.Proofs.YtomnfkihieinbaaDoor.PAll
