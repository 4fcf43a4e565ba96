/- NumParses: what the printed functions answer. -/
import Derived.Test.YthahmmmkojeddaaDoorNumRef2
import Derived.Test.YthahmmmkojeddaaDoorPAllx15
namespace Go.Proofs.YthahmmmkojeddaaDoor.Pure
open Go.RowKit Go.Proofs.YthahmmmkojeddaaDoor.PAll Go.Proofs.YthahmmmkojeddaaDoorW.PrintWords Go.Proofs.YthahmmmkojeddaaDoorW.PrintLast

/-- NumParses: Parse answers the value of the reference, or the error. -/
theorem NumParses : slotcodelaw01_NumParses.Pure := by
  intro s bits hs hb
  obtain ⟨K, hbig⟩ : ∃ K, 1000000 ≤ K := ⟨_, Nat.le_refl _⟩
  refine ⟨K, ?_⟩
  unfold slotcodelaw01_NumParses.f
  rw [alive_true]
  simp only [Option.bind_some]
  by_cases c : (s.size : Int) > 2000
  · rw [if_pos c]
  · have hp : num_Parse.f s bits = some (parseP s.data.toList bits) := by unfold num_Parse.f; rw [if_pos (by omega)]
    rw [if_neg c, hp, rparse_f s (by omega) bits K (by omega)]
    simp
end Go.Proofs.YthahmmmkojeddaaDoor.Pure
