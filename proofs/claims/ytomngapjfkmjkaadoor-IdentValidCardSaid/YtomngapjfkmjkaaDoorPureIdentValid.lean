/- IdentValid: what the printed functions answer. -/
import Derived.Test.YtomngapjfkmjkaaDoorIdRef2
import Derived.Test.YtomngapjfkmjkaaDoorPAllx18
namespace Go.Proofs.YtomngapjfkmjkaaDoor.Pure
open Go.RowKit Go.Proofs.YtomngapjfkmjkaaDoor.PAll Go.Proofs.YtomngapjfkmjkaaDoorW.PrintWords Go.Proofs.YtomngapjfkmjkaaDoorW.PrintLast

/-- IdentValid: Valid answers the result of the reference. -/
theorem IdentValid : slotcodelaw02_IdentValid.Pure := by
  intro s hs
  obtain ⟨K, hbig⟩ : ∃ K, s.size + 1000 ≤ K := ⟨_, Nat.le_refl _⟩
  refine ⟨K + 5, ?_⟩
  unfold slotcodelaw02_IdentValid.f
  rw [alive_true K, Option.bind_some, if_pos rfl, show K + 5 = (K + 4) + 1 by omega, valid_f (K + 4) s (by omega), Option.bind_some, rvalid_f (K + 4 + 1) s (by omega) (by omega), Option.bind_some]
  simp
end Go.Proofs.YtomngapjfkmjkaaDoor.Pure
