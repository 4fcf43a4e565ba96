-- By a program of this session (xp.py) over the kit's print, with texts of this session.
import Derived.Test.YthahmmmkojeddaaDoorPAllx0
import Derived.Test.YthahmmmkojeddaaDoorNumBase
import Derived.WalkSpells
namespace Go.Proofs.YthahmmmkojeddaaDoor.PAll
open Go.RowKit Go.Proofs.YthahmmmkojeddaaDoorW.PrintWords Go.Proofs.YthahmmmkojeddaaDoorW.PrintLast Go.Proofs.YthahmmmkojeddaaDoorW.PrintMore
attribute [local go_sem] max2_int min2_int max_two min_two max_three min_three max_four min_four   -- for this text's walks alone
set_option linter.unusedVariables false
set_option linter.unusedSimpArgs false

-- EXTERN
-- XIMPORT Derived.Test.YthahmmmkojeddaaDoorNumBase Derived.WalkSpells
/-! ### num.known -/
def knownB (a : Int) : Bool := widthsTab.contains a
def num_known.f (a0 : Int) : Option Bool := some (knownB a0)
set_option maxHeartbeats 2000000 in
set_option maxRecDepth 100000 in
theorem num_known.calls (a0 : Int) (r : Bool) (w : World) (h : num_known.f a0 = some r) (hL : Laid4 w) :
    Calls Tryd.prog 25 #[.int .i64 a0] w fun e w' => e = .returned (.bool r) ∧ Drawn0 w w' := by
  obtain rfl : knownB a0 = r := Option.some.inj h
  have HL := Aside0.mk hL
  clear hL h
  go_enter Tryd.func25, Tryd.ntmps25
  go_wp2_with (go_at_call 35; refine (Tryd.slices_Contains_int 0 0 4 4 widthsTab a0 _ (by decide) (by decide) HL.out.width).mono ?_; rintro e w' ⟨rfl, rfl⟩)
  go_ret
  refine ⟨?_, Drawn0.refl _⟩
  show Ending.returned (Value.bool (decide (a0 ∈ List.take 4 widthsTab))) = _
  simp [knownB, widthsTab]

end Go.Proofs.YthahmmmkojeddaaDoor.PAll
