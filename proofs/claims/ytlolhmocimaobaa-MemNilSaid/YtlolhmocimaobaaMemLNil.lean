/- mem: the law MemNil, its walk. -/
import Derived.Test.YtlolhmocimaobaaMemAlive
set_option linter.unusedVariables false
set_option linter.unusedSimpArgs false
namespace Go.Proofs.Ytlolhmocimaobaa.PAll
open Go.RowKit Go.Shelf Go.Proofs.YtlolhmocimaobaaW.PrintWords Go.Proofs.YtlolhmocimaobaaW.PrintLast Go.Proofs.YtlolhmocimaobaaW.PrintMore
set_option maxHeartbeats 4000000 in
set_option maxRecDepth 100000 in
theorem memNil_c (X : World) (a n : Int) (A0 : Option Addr) (k c0 : Nat) (hk : k ≤ 9223372036854775807) : Calls Try.prog 8 #[.int .u64 a, .int .i64 n, .slice A0 k c0] X fun e X' => e = .returned (.bool true) ∧ Below X.heap.size X X' := by
  go_enter Try.func8, Try.ntmps8
  go_wp2_with fail
  refine (read_nil X a n).mono ?_
  rintro e w1 ⟨rfl, rfl⟩
  go_wp2_with fail
  refine (bytes_nil X a n).mono ?_
  rintro e w2 ⟨⟨v, rfl, hr⟩, hb⟩
  obtain ⟨A1, c1, rfl, hc1, hC1⟩ := Kd.R_reads hr
  have HB := Aside0.mk hb
  clear hr hb hC1
  go_wp2_with fail
  refine (alive_c w2).mono ?_
  rintro e w3 ⟨rfl, hb3⟩
  have HB3 : Aside0 (Below X.heap.size X w3) := ⟨HB.out.trans (hb3.mono HB.out.size)⟩
  clear hb3
  go_wp2_with fail
  refine (add_nil w3 a _).mono ?_
  rintro e w4 ⟨rfl, rfl⟩
  go_wp2_with fail
  refine (remove_nil w3 a).mono ?_
  rintro e w4 ⟨rfl, rfl⟩
  go_wp2_with fail
  refine (write_nil w3 a n 1 (by decide) (by decide)).mono ?_
  rintro e w4 ⟨rfl, hb4⟩
  have HB4 : Aside0 (Below X.heap.size X w4) := ⟨HB3.out.trans (hb4.mono HB3.out.size)⟩
  clear hb4
  go_wp2_with fail
  refine (put_nil w4 a A0 k c0 hk).mono ?_
  rintro e w5 ⟨rfl, rfl⟩
  go_wp2_with fail
  refine (len_nil w4).mono ?_
  rintro e w5 ⟨rfl, rfl⟩
  go_wp2_with fail
  go_ret
  exact ⟨rfl, HB4.out⟩
end Go.Proofs.Ytlolhmocimaobaa.PAll
