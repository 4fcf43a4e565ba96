/- NumFormats: what the printed functions answer. -/
import Derived.Test.YthahmmmkojeddaaDoorNumRef3
import Derived.Test.YthahmmmkojeddaaDoorPAllx17
namespace Go.Proofs.YthahmmmkojeddaaDoor.Pure
open Go.RowKit Go.Proofs.YthahmmmkojeddaaDoor.PAll Go.Proofs.YthahmmmkojeddaaDoorW.PrintWords Go.Proofs.YthahmmmkojeddaaDoorW.PrintLast

/-- NumFormats: Format answers the numeral of the reference, whose value is the number. -/
theorem NumFormats : slotcodelaw01_NumFormats.Pure := by
  intro x hx
  obtain ⟨h0, h1⟩ := i64_wf hx
  obtain ⟨K, hbig⟩ : ∃ K, 1000000 ≤ K := ⟨_, Nat.le_refl _⟩
  refine ⟨K, ?_⟩
  have hl := Lib.itoa_length_le x h0 (by omega)
  have hsz : (⟨(Lib.itoa x).toArray⟩ : ByteArray).size = (Lib.itoa x).length := by rw [← data_length]
  have hf : num_Format.f x = some ⟨(Lib.itoa x).toArray⟩ := by unfold num_Format.f; rw [if_pos ⟨h0, by omega⟩]
  have hp : num_Parse.f ⟨(Lib.itoa x).toArray⟩ 64 = some (x, 0) := by
    unfold num_Parse.f
    rw [if_pos (by rw [hsz]; omega)]
    show some (parseP (Lib.itoa x) 64) = _
    rw [parse_itoa x h0 h1]
  obtain ⟨r, hr1, hr2⟩ := fmt_f x h0 h1 K (by omega)
  unfold slotcodelaw01_NumFormats.f
  rw [hf]
  simp only [Option.bind_some]
  rw [hp, alive_true]
  simp only [Option.bind_some]
  rw [if_pos (by trivial), hr1]
  simp only [Option.bind_some]
  rw [if_pos (by rw [Lib.toList_data, Lib.toList_data, hr2]), if_pos (by trivial)]
  rfl
end Go.Proofs.YthahmmmkojeddaaDoor.Pure
