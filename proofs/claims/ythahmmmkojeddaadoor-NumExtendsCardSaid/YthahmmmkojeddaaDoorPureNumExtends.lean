/- NumExtends: what the printed functions answer. -/
import Derived.Test.YthahmmmkojeddaaDoorNumRef
import Derived.Test.YthahmmmkojeddaaDoorPAllx18
namespace Go.Proofs.YthahmmmkojeddaaDoor.Pure
open Go.RowKit Go.Proofs.YthahmmmkojeddaaDoor.PAll Go.Proofs.YthahmmmkojeddaaDoorW.PrintWords Go.Proofs.YthahmmmkojeddaaDoorW.PrintLast

/-- NumExtends: Extend answers the number of the reference, which fits. -/
theorem NumExtends : slotcodelaw01_NumExtends.Pure := by
  intro x bits hx hb
  have hx' := u64_wf hx
  obtain ⟨K, hbig⟩ : ∃ K, 1000000 ≤ K := ⟨_, Nat.le_refl _⟩
  refine ⟨K, ?_⟩
  unfold slotcodelaw01_NumExtends.f
  rw [extend_n x bits hx'.1 hx'.2, alive_true]
  simp only [Option.bind_some]
  rw [if_pos (by trivial), extend_r x bits hx'.1 hx'.2 K (by omega)]
  simp only [Option.bind_some]
  rw [if_pos (by trivial), fits_f, width_f]
  simp only [Option.bind_some]
  by_cases hk : knownB bits = true
  · rw [hk, ext_again x bits hk hx'.1 hx'.2]
    simp
  · have hk2 : knownB bits = false := by simpa using hk
    rw [hk2]
    rfl
end Go.Proofs.YthahmmmkojeddaaDoor.Pure
