/- StrtabIsCanonical: what the printed functions answer. -/
import Derived.Test.YtbepheikefkaiaaStrRef3
namespace Go.Proofs.Ytbepheikefkaiaa.Pure
open Go.RowKit Go.Proofs.Ytbepheikefkaiaa.PAll Go.Proofs.YtbepheikefkaiaaW.PrintWords Go.Proofs.YtbepheikefkaiaaW.PrintLast

/-- StrtabIsCanonical: the table of the texts that were parsed is the bytes. -/
theorem StrtabIsCanonical : slotcodelaw14_StrtabIsCanonical.Pure := by
  intro l hm hs hb
  obtain ⟨K, hbig⟩ : ∃ K, 1000000 ≤ K := ⟨_, Nat.le_refl _⟩
  refine ⟨K, ?_⟩
  unfold slotcodelaw14_StrtabIsCanonical.f
  have ha : slotcodelaw14_alive.f = some true := rfl
  by_cases c : (l.length : Int) > 2000
  · rw [if_pos c, ha]; rfl
  · rw [if_neg c]
    have hB : BytesOk l := fun x hx => byte_wf x (hb x hx)
    have hg : strtab_Parse.f l = some (parseR l) := by unfold strtab_Parse.f; rw [if_pos (by omega)]
    rw [hg]
    simp only [Option.bind_some]
    by_cases hz : (parseR l).2.2 = 0
    · obtain ⟨h1, h2, h3⟩ := parse_good l hB hz
      have ht : tot (parseR l).1 + 1 = l.length := by
        have := congrArg List.length h1
        simp only [tableB, List.length_cons, textB_length] at this
        omega
      have hbd : strtab_Build.f (parseR l).1 = some (tableB (parseR l).1, offs 1 (parseR l).1, 0) := by
        unfold strtab_Build.f
        rw [if_pos (show Few (parseR l).1 by unfold Few; omega)]
        unfold resB
        rw [if_neg]
        intro h
        obtain ⟨s, hs, hs2⟩ := List.any_eq_true.1 h
        rw [h3 s hs] at hs2
        cases hs2
      rw [if_pos hz, hbd]
      simp only [Option.bind_some]
      rw [ha]
      simp only [Option.bind_some]
      rw [if_pos (by trivial), if_pos (by trivial), ← h1, same_f _ _ (by omega) K (by omega), decide_eq_true rfl]
      rfl
    · rw [if_neg hz, ha]
      rfl
end Go.Proofs.Ytbepheikefkaiaa.Pure
