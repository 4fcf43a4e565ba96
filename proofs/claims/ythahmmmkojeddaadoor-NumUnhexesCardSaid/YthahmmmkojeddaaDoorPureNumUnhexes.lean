/- NumUnhexes: what the printed functions answer. -/
import Derived.Test.YthahmmmkojeddaaDoorNumRef4
namespace Go.Proofs.YthahmmmkojeddaaDoor.Pure
open Go.RowKit Go.Proofs.YthahmmmkojeddaaDoor.PAll Go.Proofs.YthahmmmkojeddaaDoorW.PrintWords Go.Proofs.YthahmmmkojeddaaDoorW.PrintLast

/-- NumUnhexes: Unhex answers the bytes of the reference, or the error. -/
theorem NumUnhexes : slotcodelaw01_NumUnhexes.Pure := by
  intro s hs
  obtain ⟨K, hbig⟩ : ∃ K, 1000000 ≤ K := ⟨_, Nat.le_refl _⟩
  refine ⟨K, ?_⟩
  unfold slotcodelaw01_NumUnhexes.f
  rw [alive_true]
  simp only [Option.bind_some]
  by_cases c : (s.size : Int) > 6000
  · rw [if_pos c]
  · have hf : num_Unhex.f s = some (unhexR s.data.toList) := by unfold num_Unhex.f; rw [if_pos (by omega)]
    have hlen : s.data.toList.length = s.size := data_length s
    rw [if_neg c, hf, unhexR_eq, runhex_f s (by omega) K (by omega)]
    cases hu : unp s.data.toList with
    | none => rfl
    | some x =>
      have hx : x.length ≤ s.size := by
        have hr := unhexR_eq s.data.toList
        rw [hu] at hr
        unfold unhexR at hr
        by_cases h : s.data.toList.length % 2 = 1
        · rw [if_pos h] at hr; simp at hr
        · rw [if_neg h] at hr
          by_cases h3 : s.data.toList.all (fun b => decide (0 ≤ hexV b)) = true
          · rw [if_pos h3] at hr
            have h4 : rowU s.data.toList (s.data.toList.length / 2) s.data.toList.length = x := congrArg Prod.fst hr
            rw [← h4, rowU_length]; omega
          · rw [if_neg h3] at hr; simp at hr
      simp only [Option.bind_some]
      rw [if_pos (by trivial), if_pos (by trivial), nsame_f _ _ (by omega) K (by omega), decide_eq_true rfl]
      rfl
end Go.Proofs.YthahmmmkojeddaaDoor.Pure
