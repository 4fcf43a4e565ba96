/- NumFits: what the printed functions answer. -/
import Derived.Test.YthahmmmkojeddaaDoorNumRef
import Derived.Test.YthahmmmkojeddaaDoorPAllx19
namespace Go.Proofs.YthahmmmkojeddaaDoor.Pure
open Go.RowKit Go.Proofs.YthahmmmkojeddaaDoor.PAll Go.Proofs.YthahmmmkojeddaaDoorW.PrintWords Go.Proofs.YthahmmmkojeddaaDoorW.PrintLast

/-- NumFits: Fits tells whether extending the number yields the number. -/
theorem NumFits : slotcodelaw01_NumFits.Pure := by
  intro x bits hx hb
  obtain ⟨K, hbig⟩ : ∃ K, 1000000 ≤ K := ⟨_, Nat.le_refl _⟩
  refine ⟨K, ?_⟩
  unfold slotcodelaw01_NumFits.f
  rw [alive_true]
  simp only [Option.bind_some]
  rw [if_pos (by trivial), fits_f, width_f]
  simp only [Option.bind_some]
  by_cases hk : knownB bits = true
  · rw [hk, if_pos (by trivial), u64_mod, extend_r _ _ (by omega) (by omega) K (by omega)]
    simp
  · have hk2 : knownB bits = false := by simpa using hk
    rw [hk2, if_neg (by decide)]
    rfl
end Go.Proofs.YthahmmmkojeddaaDoor.Pure
