/- NumHexes: what the printed functions answer. -/
import Derived.Test.YthahmmmkojeddaaDoorNumRef4
namespace Go.Proofs.YthahmmmkojeddaaDoor.Pure
open Go.RowKit Go.Proofs.YthahmmmkojeddaaDoor.PAll Go.Proofs.YthahmmmkojeddaaDoorW.PrintWords Go.Proofs.YthahmmmkojeddaaDoorW.PrintLast

/-- NumHexes: Hex answers the text of the reference, which Unhex inverts. -/
theorem NumHexes : slotcodelaw01_NumHexes.Pure := by
  intro l hm hs hb
  obtain ⟨K, hbig⟩ : ∃ K, 1000000 ≤ K := ⟨_, Nat.le_refl _⟩
  refine ⟨K, ?_⟩
  unfold slotcodelaw01_NumHexes.f
  rw [alive_true]
  simp only [Option.bind_some]
  by_cases c : (l.length : Int) > 3000
  · rw [if_pos c]
  · have hB : ∀ x ∈ l, 0 ≤ x ∧ x < 256 := fun x hx => nbyte_wf (hb x hx)
    have hf : num_Hex.f l = some ⟨(hexL l).toArray⟩ := by unfold num_Hex.f; rw [if_pos ⟨by omega, hB⟩]
    have hd : (⟨(hexL l).toArray⟩ : ByteArray).data.toList = hexL l := rfl
    have hsz : (⟨(hexL l).toArray⟩ : ByteArray).size = 2 * l.length := by rw [← data_length, hd, hexL_length]
    have hu : num_Unhex.f ⟨(hexL l).toArray⟩ = some (l, 0) := by
      unfold num_Unhex.f
      rw [if_pos (by omega), hd, unhexR_eq, unp_hexL l hB]
    obtain ⟨r, h1, h2⟩ := rhex_l0 l (by omega) hB l 0 K ⟨#[]⟩ rfl (by omega) (Nat.zero_le _) (Nat.zero_le _)
    have hr : slotcoderef01_Hex.f K l = some r := h1
    rw [if_neg c, hf]
    simp only [Option.bind_some]
    rw [hu]
    simp only [Option.bind_some]
    rw [if_pos (by trivial), hr]
    simp only [Option.bind_some]
    rw [if_pos (by rw [Lib.toList_data, Lib.toList_data, h2, hd]; rfl), nsame_f _ _ (by omega) K (by omega), decide_eq_true rfl]
    rfl
end Go.Proofs.YthahmmmkojeddaaDoor.Pure
