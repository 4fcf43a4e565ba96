/- IdentWords: what the printed functions answer. -/
import Derived.Test.YtomngapjfkmjkaaDoorIdRef
import Derived.Test.YtomngapjfkmjkaaDoorPAllx24
namespace Go.Proofs.YtomngapjfkmjkaaDoor.Pure
open Go.RowKit Go.Proofs.YtomngapjfkmjkaaDoor.PAll Go.Proofs.YtomngapjfkmjkaaDoorW.PrintWords Go.Proofs.YtomngapjfkmjkaaDoorW.PrintLast

/-- IdentWords: Word answers the number of the reference, and the rest begins with no word character. -/
theorem IdentWords : slotcodelaw02_IdentWords.Pure := by
  intro s hs
  obtain ⟨K, hbig⟩ : ∃ K, s.size + 10 ≤ K := ⟨_, Nat.le_refl _⟩
  have hlen : s.data.toList.length = s.size := data_length s
  have hle := wordN_le s.data.toList
  obtain ⟨n, hn⟩ : ∃ n, wordN s.data.toList = n := ⟨_, rfl⟩
  have h1 : wordN (s.data.toList.drop n) = 0 := by rw [← hn]; exact wordN_drop _
  have h2 : wordN (s.data.toList.take n) = n := by have := wordN_take s.data.toList; rw [hn] at this; exact this
  have e1 : (s.extract n s.size).data.toList = s.data.toList.drop n := by
    rw [Lib.extract_data, List.take_of_length_le (by rw [List.length_drop, data_length]; omega)]
  have e2 : (s.extract 0 n).data.toList = s.data.toList.take n := by
    rw [Lib.extract_data]; rfl
  have z1 : (s.extract n s.size).size ≤ 140737488355328 := by rw [← data_length, e1, List.length_drop]; omega
  have z2 : (s.extract 0 n).size ≤ 140737488355328 := by rw [← data_length, e2, List.length_take]; omega
  refine ⟨K + 5, ?_⟩
  unfold slotcodelaw02_IdentWords.f
  rw [word_f s (by omega), Option.bind_some, rword_f s (by omega) (K + 5) (by omega), Option.bind_some, if_pos rfl, alive_true K, Option.bind_some, if_pos rfl, hn, if_pos (by omega), if_pos (by omega), Int.toNat_natCast,
    word_f _ z1, Option.bind_some, e1, h1, if_pos (show ((0 : Nat) : Int) = 0 from rfl), word_f _ z2, Option.bind_some, e2, h2]
  simp
end Go.Proofs.YtomngapjfkmjkaaDoor.Pure
