/- Plain facts: words; the examples of the chapter. -/
import Derived.Test.YtomngapjfkmjkaaDoorPAllx15
import Derived.Test.YtomngapjfkmjkaaDoorPAllx17
set_option linter.unusedVariables false
set_option linter.unusedSimpArgs false
namespace Go.Proofs.YtomngapjfkmjkaaDoor.PAll
open Go.RowKit Go.Proofs.YtomngapjfkmjkaaDoorW.PrintWords Go.Proofs.YtomngapjfkmjkaaDoorW.PrintLast Go.Proofs.YtomngapjfkmjkaaDoorW.PrintMore
theorem alive_true (m : Nat) : slotcodelaw02_alive.f (m + 5) = some true := by kernel_rfl
theorem iw64 (x : Int) (h0 : -9223372036854775808 ≤ x) (h1 : x < 9223372036854775808) : wrap64 x = x := by unfold wrap64; omega
theorem in_at : ∀ n : Fin 256, slotcoderef02_in.f (n.1 : Int) = some (inW (n.1 : Int)) := by decide +kernel
theorem in_f (b : UInt8) : slotcoderef02_in.f (b.toNat : Int) = some (inW b.toNat) := in_at ⟨b.toNat, b.toNat_lt⟩
theorem idrop_next {α : Type} {l : List α} {i : Nat} {s : α} {r : List α} (h : l.drop i = s :: r) : l.drop (i + 1) = r ∧ i < l.length ∧ l.length = i + 1 + r.length := by
  have h1 : l.drop (i + 1) = (l.drop i).drop 1 := by rw [List.drop_drop]
  have h2 := congrArg List.length h
  rw [List.length_drop, List.length_cons] at h2
  refine ⟨by rw [h1, h]; rfl, by omega, by omega⟩
theorem ibt_cons (s : ByteArray) (i : Nat) (b : UInt8) (r : List UInt8) (h : s.data.toList.drop i = b :: r) : bt s (i : Int) = (b.toNat : Int) := by
  obtain ⟨_, hlt, _⟩ := idrop_next h
  rw [← rd_bytesOf]
  have : (bytesOf s)[i]? = some (b.toNat : Int) := by
    unfold bytesOf
    rw [List.getElem?_map, ← List.head?_drop, h]; rfl
  simp [rd, List.getD_eq_getElem?_getD, this]
theorem rword_l0 (s : ByteArray) (hs : s.size ≤ 140737488355328) (t : List UInt8) : ∀ (i k : Nat), s.data.toList.drop i = t → t.length < k → i ≤ s.size → slotcoderef02_Word.l0 k s (i : Int) = some ((i + wordN t : Nat) : Int) := by
  have hlen : s.data.toList.length = s.size := data_length s
  induction t with
  | nil =>
    intro i k ht hk hi
    obtain ⟨k, rfl⟩ : ∃ m, k = m + 1 := ⟨k - 1, by omega⟩
    have : s.data.toList.length ≤ i := List.drop_eq_nil_iff.mp ht
    simp only [slotcoderef02_Word.l0]
    rw [if_neg (by omega)]
    rfl
  | cons b r ih =>
    intro i k ht hk hi
    obtain ⟨k, rfl⟩ : ∃ m, k = m + 1 := ⟨k - 1, by omega⟩
    obtain ⟨hd, hlt, hl2⟩ := idrop_next ht
    simp only [List.length_cons] at hk
    simp only [slotcoderef02_Word.l0]
    rw [if_pos (by omega), if_pos (by omega), ibt_cons s i b r ht, in_f, Option.bind_some]
    by_cases h : inW b.toNat = true
    · rw [if_pos h, iw64 _ (by omega) (by omega), show (i : Int) + 1 = ((i + 1 : Nat) : Int) by omega, ih (i + 1) k hd (by omega) (by omega)]
      simp only [wordN]
      rw [if_pos h]
      congr 2
      omega
    · rw [if_neg h]
      simp only [wordN]
      rw [if_neg h]
      rfl
theorem rword_f (s : ByteArray) (hs : s.size ≤ 140737488355328) (k : Nat) (hk : s.size < k) : slotcoderef02_Word.f k s = some (wordN s.data.toList : Int) := by
  have h := rword_l0 s hs s.data.toList 0 k rfl (by rw [data_length]; omega) (Nat.zero_le _)
  rw [Nat.zero_add] at h
  exact h
theorem word_f (s : ByteArray) (hs : s.size ≤ 140737488355328) : ident_Word.f s = some (wordN s.data.toList : Int) := by unfold ident_Word.f; rw [if_pos hs]
theorem wordN_drop (l : List UInt8) : wordN (l.drop (wordN l)) = 0 := by
  induction l with
  | nil => rfl
  | cons b r ih =>
    simp only [wordN]
    by_cases h : inW b.toNat = true
    · rw [if_pos h, List.drop_succ_cons]; exact ih
    · rw [if_neg h, List.drop_zero]; simp only [wordN]; rw [if_neg h]
theorem wordN_take (l : List UInt8) : wordN (l.take (wordN l)) = wordN l := by
  induction l with
  | nil => rfl
  | cons b r ih =>
    simp only [wordN]
    by_cases h : inW b.toNat = true
    · rw [if_pos h, List.take_succ_cons]; simp only [wordN]; rw [if_pos h, ih]
    · rw [if_neg h, List.take_zero]; rfl
theorem wordN_join (l t : List UInt8) : wordN (l ++ 32 :: t) = wordN l := by
  induction l with
  | nil =>
    simp only [List.nil_append, wordN]
    rw [if_neg (by decide +kernel)]
  | cons b r ih =>
    simp only [List.cons_append, wordN, ih]
end Go.Proofs.YtomngapjfkmjkaaDoor.PAll
