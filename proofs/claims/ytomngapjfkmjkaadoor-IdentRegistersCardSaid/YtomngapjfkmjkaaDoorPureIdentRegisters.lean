/- IdentRegisters: what the printed functions answer. -/
import Derived.Test.YtomngapjfkmjkaaDoorIdRef2
import Derived.Test.YtomngapjfkmjkaaDoorPAllx19
namespace Go.Proofs.YtomngapjfkmjkaaDoor.Pure
open Go.RowKit Go.Proofs.YtomngapjfkmjkaaDoor.PAll Go.Proofs.YtomngapjfkmjkaaDoorW.PrintWords Go.Proofs.YtomngapjfkmjkaaDoorW.PrintLast

/-- IdentRegisters: Register and Name answer the results of the reference. -/
theorem IdentRegisters : slotcodelaw02_IdentRegisters.Pure := by
  intro s n hs hn
  obtain ⟨h0, h1⟩ := ii64_wf hn
  obtain ⟨K, hbig⟩ : ∃ K, 1000 ≤ K := ⟨_, Nat.le_refl _⟩
  obtain ⟨a, ha1, ha2⟩ := name_some n
  obtain ⟨b, hb1, hb2⟩ := rname_f n h0 h1 (K + 5) (by omega)
  refine ⟨K + 5, ?_⟩
  unfold slotcodelaw02_IdentRegisters.f
  rw [reg_f s (by omega), Option.bind_some, rreg_f s (K + 5) (by omega), Option.bind_some, alive_true K, Option.bind_some, if_pos rfl, if_pos rfl, if_pos (by simp), ha1, Option.bind_some, hb1, Option.bind_some, Lib.toList_data, Lib.toList_data, ha2, hb2]
  simp
end Go.Proofs.YtomngapjfkmjkaaDoor.Pure
