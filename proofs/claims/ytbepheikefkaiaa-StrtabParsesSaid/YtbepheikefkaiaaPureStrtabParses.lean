/- StrtabParses: what the printed functions answer. -/
import Derived.Test.YtbepheikefkaiaaStrRef3
namespace Go.Proofs.Ytbepheikefkaiaa.Pure
open Go.RowKit Go.Proofs.Ytbepheikefkaiaa.PAll Go.Proofs.YtbepheikefkaiaaW.PrintWords Go.Proofs.YtbepheikefkaiaaW.PrintLast

/-- StrtabParses: Parse answers the texts and offsets of the reference, or the error. -/
theorem StrtabParses : slotcodelaw14_StrtabParses.Pure := by
  intro l hm hs hb
  obtain ⟨K, hbig⟩ : ∃ K, 1000000 ≤ K := ⟨_, Nat.le_refl _⟩
  refine ⟨K, ?_⟩
  unfold slotcodelaw14_StrtabParses.f
  have ha : slotcodelaw14_alive.f = some true := rfl
  by_cases c : (l.length : Int) > 2000
  · rw [if_pos c, ha]; rfl
  · rw [if_neg c]
    have hB : BytesOk l := fun x hx => byte_wf x (hb x hx)
    have hg : strtab_Parse.f l = some (parseR l) := by unfold strtab_Parse.f; rw [if_pos (by omega)]
    rw [hg]
    simp only [Option.bind_some]
    rw [rparse_f l hB (by omega) K (by omega)]
    simp only [Option.bind_some]
    by_cases hz : (parseR l).2.2 = 0
    · obtain ⟨h1, h2, h3⟩ := parse_good l hB hz
      have ht : tot (parseR l).1 + 1 = l.length := by
        have := congrArg List.length h1
        simp only [tableB, List.length_cons, textB_length] at this
        omega
      have htl := tot_len (parseR l).1
      have ho : (parseR l).2.1.length = (parseR l).1.length := by rw [h2, offs_length]
      rw [if_pos hz]
      dsimp only
      rw [if_pos (by trivial), rbuild_f _ (by omega) (by omega) K (by omega)]
      simp only [Option.bind_some]
      rw [ha]
      simp only [Option.bind_some]
      rw [if_pos (by trivial), if_pos hz, eqs_f _ _ (by omega) K (by omega), decide_eq_true rfl]
      simp only [Option.bind_some]
      rw [if_pos (by trivial), eqi_f _ _ (by omega) K (by omega), decide_eq_true h2]
      rfl
    · rw [if_neg hz, parse_bad l hz, ha]
      rfl
end Go.Proofs.Ytbepheikefkaiaa.Pure
