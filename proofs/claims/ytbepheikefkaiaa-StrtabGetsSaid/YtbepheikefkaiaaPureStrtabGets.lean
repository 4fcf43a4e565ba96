/- StrtabGets: Get answers as the reference's Get does. -/
import Derived.Test.YtbepheikefkaiaaStrRef
namespace Go.Proofs.Ytbepheikefkaiaa.Pure
open Go.RowKit Go.Proofs.Ytbepheikefkaiaa.PAll Go.Proofs.YtbepheikefkaiaaW.PrintWords Go.Proofs.YtbepheikefkaiaaW.PrintLast

/-- What StrtabGets says of the printed functions. -/
theorem StrtabGets : slotcodelaw14_StrtabGets.Pure := by
  intro l off hm hs hb _
  obtain ⟨K, hbig⟩ : ∃ K, 1000000 ≤ K := ⟨_, Nat.le_refl _⟩
  refine ⟨K, ?_⟩
  unfold slotcodelaw14_StrtabGets.f
  have ha : slotcodelaw14_alive.f = some true := rfl
  by_cases c : (l.length : Int) > 2000
  · rw [if_pos c, ha]; rfl
  · rw [if_neg c]
    have hB : BytesOk l := fun x hx => byte_wf x (hb x hx)
    have hg : strtab_Get.f l off = some (getR l off) := by unfold strtab_Get.f; rw [if_pos (by omega)]
    rw [hg]
    simp only [Option.bind_some]
    rw [rget_f l hB (by omega) off K (by omega)]
    simp only [Option.bind_some]
    by_cases hz : (getR l off).2 = 0
    · rw [if_pos hz, ha]
      simp only [Option.bind_some]
      rw [if_pos (by trivial), if_pos (by trivial), if_pos hz]
      simp
    · have e : getR l off = (⟨#[]⟩, 4) := by
        unfold getR at hz ⊢
        split
        · rfl
        · rename_i h
          rw [if_neg h] at hz
          split
          · rename_i h2; rw [if_pos h2] at hz; exact absurd rfl hz
          · rfl
      rw [if_neg hz, e, ha]
      simp only [Option.bind_some]
      rw [if_neg (by decide), if_pos (by trivial), if_pos (by rw [Lib.toList_data])]
      rfl
end Go.Proofs.Ytbepheikefkaiaa.Pure
