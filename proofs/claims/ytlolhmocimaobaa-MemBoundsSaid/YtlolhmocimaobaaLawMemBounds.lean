/- The law MemBounds of the chapter 20: at every input it answers true, and its input reads as before: an access is possible exactly if all its bytes are in the region. No condition. -/
import Derived.Test.YtlolhmocimaobaaRows
import Derived.Test.YtlolhmocimaobaaMemLBounds
import Derived.WalkKit
import Derived.HandedShaped
import Derived.ProofKit
import Derived.OpenShut
import Derived.ShutString
import Derived.ChangeOld
import Derived.Below
import Derived.SizedLaws
import Derived.Lib.SmallJoins
import Derived.WideKeyPair
import Derived.Test.YtlolhmocimaobaaWSized
namespace Go.Proofs.Ytlolhmocimaobaa.memBounds
open Go.ChangeShapes Go.WideShapes Go.ChangeAt Go.RowKit Go.Proofs.YtlolhmocimaobaaW.PrintWords Go.Proofs.YtlolhmocimaobaaW.PrintLast Go.Proofs.YtlolhmocimaobaaW.PrintMore
set_option linter.unusedVariables false
theorem own : ownKnob Try.prog.godebug = none := by kernel_rfl
theorem laidOut : laidOutB Try.prog = true := by kernel_rfl
def IsRow (k : IntKind) (w : World) (a : Option Addr) (len cap : Nat) (zs : List Int) : Prop :=
  (a = none ∧ len = 0 ∧ cap = 0 ∧ zs = []) ∨
  ∃ x, a = some x ∧ len ≤ cap ∧ cap ≤ maxLen ∧ zs.length = cap ∧ (∀ i, i < zs.length → w.cell? (x.add i) = some (.int k (zs.getD i 0))) ∧ ∀ n ∈ zs, (Lit.int k n).wf = true
set_option maxRecDepth 100000 in
theorem lifted (os : Os) (started : os.Started) (H : Type) (enc : TypeId × Value → H) :
    ReturnsInHanded {} Try.checked os 5 .any (Rows.memBoundsSpec.pre6 enc Try.prog Try.f5 Rows.memBoundsRow.domain false) (Rows.memBoundsSpec.post enc Try.prog Try.f5 false true false false) := by
  refine returnsInHanded_of_change_sized (C := Try.checked) own started (by kernel_rfl) Try.func5
    (ChangeSpec.witness6 (enc := enc) (C := Try.checked) false ⟨#[], #[.int .u64 0, .int .u8 0, .agg #[.int .i16 0, .int .i64 0]], []⟩ 8 (by kernel_rfl) (by kernel_rfl) (by kernel_rfl) (by kernel_rfl)) ?_
  intro W base args ds gs before hval0 hW hcnd hsz0 _
  have hsz : (DataW.weightsEach Try.prog (Try.f5.params.toList ++ Rows.memBoundsSpec.plain.varTypes Try.prog) (ds ++ gs)).all (· ≤ reachBytes) = true := hsz0
  have hval : ∀ (j : Nat) t v, Try.f5.params[j]? = some t → args[j]? = some v → Value.okWide Try.prog W .any base t v := hval0
  have hW' := hW
  obtain ⟨p, q, hA0, hV, rfl, hfz, hnd⟩ := hW
  have hA : DataW.TrodAll enc Try.prog W 0 (fun _ => true) true Try.f5.params.toList args.toList ds p := hA0
  rw [Try.params5] at hA hval hsz
  obtain ⟨v0, vs0, d0, ds0, p0, q0, hargs, rfl, rfl, h0, r0⟩ := trodAll_cons hA
  obtain ⟨v1, vs1, d1, ds1, p1, q1, rfl, rfl, rfl, h1, r1⟩ := trodAll_cons r0
  obtain ⟨v2, vs2, d2, ds2, p2, q2, rfl, rfl, rfl, h2, r2⟩ := trodAll_cons r1
  obtain ⟨rfl, rfl, rfl⟩ := trodAll_nil r2
  obtain rfl : args = #[v0, v1, v2] := by cases args; simp_all
  obtain ⟨rfl, rfl⟩ := trodVars_none hV
  obtain ⟨n0, rfl, rfl, rfl, wf0⟩ := open_int Try.underlying31 (hval 0 31 v0 rfl rfl) h0
  obtain ⟨n1, rfl, rfl, rfl, wf1⟩ := open_int Try.underlying5 (hval 1 5 v1 rfl rfl) h1
  have k2 := h2
  have lt2 : ∀ x ∈ p2, x.block < W.heap.size := by obtain ⟨m, hm⟩ := k2; exact DataW.trod_lt m _ _ _ hm
  obtain ⟨x2, u2, y2, z2, fu2, rfl, _, _, g2, j2⟩ := Go.Joins.open_agg2 Try.underlying49 (by kernel_rfl) (by kernel_rfl) (hval 2 49 v2 rfl rfl) h2
  obtain ⟨n2, e2, _, wf2⟩ := DataW.trod_int (Try.underlying47) g2
  obtain rfl : x2 = .int .i16 n2 := by simpa using e2
  obtain ⟨m2, e2', _, wm2⟩ := DataW.trod_int (Try.underlying3) j2
  obtain rfl : u2 = .int .i64 m2 := by simpa using e2'
  clear hA0 hval0 hsz0 hsz
  refine (PAll.memBounds_c W n0 n1 n2 m2 (bounds_u64 wf0).1 (by have := (bounds_u64 wf0).2; omega) (bounds_u8 wf1).1 (by have := (bounds_u8 wf1).2; omega) (bounds_i16 wf2).1 (by have := (bounds_i16 wf2).2; omega) (bounds_i64 wm2).1 (by have := (bounds_i64 wm2).2; omega)).mono fun e W' ⟨he, bel⟩ => ?_
  subst he
  exact ⟨_, rfl, _, _, _, [], _, [], hW', trodAll_mk1 (shut_bool Try.underlying4 _), (trodAll_cons_mk (shut_int Try.underlying31 wf0) (trodAll_cons_mk (shut_int Try.underlying5 wf1) (trodAll_cons_mk (Below.trod laidOut (by kernel_rfl) (of_decide_eq_true (by kernel_rfl)) k2 bel lt2) trodAll_mk0))), rfl, bel.frame _, fun h => by cases h⟩
theorem over : Rows.memBoundsRow.holds Try.pinned (OpenSpec.ofChange Rows.memBoundsSpec) :=
  OpenClaim.holds_of_wide 5 Try.f5 rfl rfl rfl rfl rfl rfl rfl ⟨rfl, rfl, rfl, rfl, rfl⟩ rfl rfl rfl rfl rfl (by kernel_rfl) Try.func5 (by kernel_rfl)
    (of_decide_eq_true (by kernel_rfl)) (by unfold Func.isWrapper; first | (rw [if_pos (by decide +kernel)]; kernel_rfl) | (rw [if_neg (by decide +kernel)]; exact ⟨rfl, rfl⟩))
    (fun os started H enc _ => lifted os started H enc)
theorem proved : Rows.MemBoundsSaid := over
#print axioms proved
end Go.Proofs.Ytlolhmocimaobaa.memBounds
namespace Go.Proofs.Ytlolhmocimaobaa
/-- The row, under a short name, for the claim. -/
theorem memBounds_holds : Rows.MemBoundsSaid := memBounds.proved
end Go.Proofs.Ytlolhmocimaobaa
