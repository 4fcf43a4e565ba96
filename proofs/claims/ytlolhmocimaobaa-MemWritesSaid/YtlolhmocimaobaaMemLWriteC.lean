/- mem: the law MemWrites, its walks joined. -/
import Derived.Test.YtlolhmocimaobaaMemLWr1
import Derived.Test.YtlolhmocimaobaaMemLWr2
import Derived.Test.YtlolhmocimaobaaMemLWr4
import Derived.Test.YtlolhmocimaobaaMemLWr8
set_option linter.unusedVariables false
namespace Go.Proofs.Ytlolhmocimaobaa.PAll
open Go.RowKit Go.Shelf Go.Proofs.YtlolhmocimaobaaW.PrintWords Go.Proofs.YtlolhmocimaobaaW.PrintLast Go.Proofs.YtlolhmocimaobaaW.PrintMore
theorem memWrites_c (X : World) (A0 : Option Addr) (c0 : Nat) (l0 : List Int) (at_ p x : Int) (hr0 : Kd.C (Kd.int .u8) X A0 l0.length l0) (hc0 : l0.length ≤ c0) (hw : ∀ y ∈ l0, (Lit.int .u8 y).wf = true) (ha0 : 0 ≤ at_) (ha1 : at_ < 65536) (hx0 : 0 ≤ x) (hx1 : x < 18446744073709551616) :
    Calls Try.prog 4 #[.slice A0 l0.length c0, .int .u16 at_, .agg #[.int .u64 p, .int .u64 x]] X fun e X' => e = .returned (.bool true) ∧ Below X.heap.size X X' := by
  by_cases hs : 0 < l0.length ∧ l0.length ≤ 600
  case neg => exact memWrites_a X A0 c0 l0.length at_ p x (by omega)
  obtain ⟨a, rfl⟩ : ∃ a : Nat, at_ = a := ⟨at_.toNat, by omega⟩
  obtain ⟨n, hn⟩ : ∃ n, IntKind.i64.wrap p = n := ⟨_, rfl⟩
  have hnr : -9223372036854775808 ≤ n ∧ n < 9223372036854775808 := by rw [← hn, IntKind.wrap_i64]; omega
  have hw' : ∀ y ∈ l0, 0 ≤ y ∧ y < 256 := fun y hy => wf_byte y (hw y hy)
  by_cases hno : numB n = true ∧ (a : Int) + n ≤ l0.length
  case neg => exact memWrites_b X A0 c0 l0 a p x n hr0 hc0 hw' hs.1 hs.2 (by omega) hx0 hx1 hn hnr.1 hnr.2 hno
  rcases numB_pos hno.1 with h | h | h | h
  · exact memWrites_w1 X A0 c0 l0 a p x n hr0 hc0 hw' hs.1 hs.2 (by omega) hx0 hx1 hn hnr.1 hnr.2 ⟨h, by have := hno.2; omega⟩
  · exact memWrites_w2 X A0 c0 l0 a p x n hr0 hc0 hw' hs.1 hs.2 (by omega) hx0 hx1 hn hnr.1 hnr.2 ⟨h, by have := hno.2; omega⟩
  · exact memWrites_w4 X A0 c0 l0 a p x n hr0 hc0 hw' hs.1 hs.2 (by omega) hx0 hx1 hn hnr.1 hnr.2 ⟨h, by have := hno.2; omega⟩
  · exact memWrites_w8 X A0 c0 l0 a p x n hr0 hc0 hw' hs.1 hs.2 (by omega) hx0 hx1 hn hnr.1 hnr.2 ⟨h, by have := hno.2; omega⟩
end Go.Proofs.Ytlolhmocimaobaa.PAll
