-- By a program of this session (xp.py) over the kit's print, with texts of this session.
import Derived.Test.YthahmmmkojeddaaDoorPAllx0
import Derived.Test.YthahmmmkojeddaaDoorNumBase
import Derived.WalkSpells
namespace Go.Proofs.YthahmmmkojeddaaDoor.PAll
open Go.RowKit Go.Proofs.YthahmmmkojeddaaDoorW.PrintWords Go.Proofs.YthahmmmkojeddaaDoorW.PrintLast Go.Proofs.YthahmmmkojeddaaDoorW.PrintMore
attribute [local go_sem] max2_int min2_int max_two min_two max_three min_three max_four min_four   -- for this text's walks alone
set_option linter.unusedVariables false
set_option linter.unusedSimpArgs false

-- EXTERN
-- XIMPORT Derived.Test.YthahmmmkojeddaaDoorNumBase Derived.WalkSpells
/-! ### num.Format -/
def num_Format.f (a0 : Int) : Option ByteArray := if -9223372036854775808 ≤ a0 ∧ a0 ≤ 9223372036854775807 then some ⟨(Lib.itoa a0).toArray⟩ else none
set_option maxHeartbeats 2000000 in
set_option maxRecDepth 100000 in
theorem num_Format.calls (a0 : Int) (r : ByteArray) (w : World) (h : num_Format.f a0 = some r) (hL : Laid4 w) :
    Calls Tryd.prog 12 #[.int .i64 a0] w fun e w' => e = .returned (.string r) ∧ Below w.heap.size w w' := by
  unfold num_Format.f at h
  split at h
  · rename_i hb
    obtain rfl := Option.some.inj h
    have HL := Aside0.mk hL
    clear hL h
    go_enter Tryd.func12, Tryd.ntmps12
    go_wp2_with (go_at_call 28; refine (Tryd.strconv_FormatInt_10 a0 hb.1 hb.2 _ HL.out.2).mono ?_; rintro e w' ⟨rfl, k, os, rfl⟩)
    go_ret
    refine ⟨rfl, ?_⟩
    exact Lib.below_grow _ w (Nat.le_refl _) k os
  · cases h

end Go.Proofs.YthahmmmkojeddaaDoor.PAll
