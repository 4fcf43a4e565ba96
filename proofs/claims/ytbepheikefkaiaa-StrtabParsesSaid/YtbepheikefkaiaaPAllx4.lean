-- By a program of this session (xp.py) over the kit's print, with texts of this session.
import Derived.Test.YtbepheikefkaiaaPAllx0
import Derived.Test.YtbepheikefkaiaaStrParB
namespace Go.Proofs.Ytbepheikefkaiaa.PAll
open Go.RowKit Go.Proofs.YtbepheikefkaiaaW.PrintWords Go.Proofs.YtbepheikefkaiaaW.PrintLast Go.Proofs.YtbepheikefkaiaaW.PrintMore
attribute [local go_sem] max2_int min2_int max_two min_two max_three min_three max_four min_four   -- for this text's walks alone
set_option linter.unusedVariables false
set_option linter.unusedSimpArgs false

-- EXTERN
-- XIMPORT Derived.Test.YtbepheikefkaiaaStrParB
/-! ### strtab.Parse: function 16 -/
def strtab_Parse.f (l0 : List Int) : Option (List ByteArray × List Int × Int) := if l0.length ≤ 1073741824 then some (parseR l0) else none
theorem strtab_Parse.calls (A0 : Option Addr) (c0 : Nat) (l0 : List Int) (r1 : List ByteArray) (r2 : List Int) (r3 : Int) (w : World) (hr0 : Kd.C (Kd.int .u8) w A0 l0.length l0) (hc0 : l0.length ≤ c0) (h : strtab_Parse.f l0 = some (r1, r2, r3)) :
    Calls Try.prog 16 #[.slice A0 l0.length c0] w fun e w' => ∃ v0_ v1_ : Value, e = .returned (.tuple #[v0_, v1_, .int .i64 r3]) ∧ Kd.R Kd.string 9 w' w.heap.size (fun _ => True) v0_ r1 ∧ Kd.R (Kd.int .i64) 3 w' w.heap.size (fun _ => True) v1_ r2 ∧ Below w.heap.size w w' := by
  unfold strtab_Parse.f at h
  split at h
  · rename_i hf
    have e : parseR l0 = (r1, r2, r3) := Option.some.inj h
    refine (strtab_Parse.any A0 c0 l0 w hr0 hc0 hf).mono fun e' w' hp => ?_
    unfold ParsePost at hp
    rw [e] at hp
    exact hp
  · cases h

end Go.Proofs.Ytbepheikefkaiaa.PAll
