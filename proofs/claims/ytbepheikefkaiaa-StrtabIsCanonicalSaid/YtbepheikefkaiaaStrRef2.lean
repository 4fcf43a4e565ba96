/- Plain facts: few, the reference's Right and Build, equality. -/
import Derived.Test.YtbepheikefkaiaaStrRef
namespace Go.Proofs.Ytbepheikefkaiaa.PAll
open Go.RowKit Go.Proofs.YtbepheikefkaiaaW.PrintWords Go.Proofs.YtbepheikefkaiaaW.PrintLast Go.Proofs.YtbepheikefkaiaaW.PrintMore

def sz : List ByteArray → Nat
  | [] => 0
  | s :: r => s.size + sz r
theorem tot_sz (l : List ByteArray) : tot l = sz l + l.length := by
  induction l with
  | nil => rfl
  | cons s r ih => simp only [tot, sz, List.length_cons, ih]; omega
theorem few_l0 (l : List ByteArray) (hl : l.length ≤ 8796093022207) (hs : ∀ s ∈ l, s.size ≤ 140737488351232) (t : List ByteArray) : ∀ (i k n : Nat), l.drop i = t → t.length < k → i ≤ l.length → n ≤ 3000 →
    slotcodelaw14_few.l0 k l (n : Int) l (l.length : Int) (i : Int) = some (decide (n + sz t ≤ 3000) && decide (l.length ≤ 300)) := by
  induction t with
  | nil =>
    intro i k n ht hk hi hn
    obtain ⟨k, rfl⟩ : ∃ m, k = m + 1 := ⟨k - 1, by omega⟩
    have : l.length ≤ i := List.drop_eq_nil_iff.mp ht
    simp only [slotcodelaw14_few.l0]; rw [if_neg (by omega)]
    rw [decide_eq_true (show n + sz [] ≤ 3000 by simpa [sz] using hn), Bool.true_and]
    congr 1
    exact decide_eq_decide.2 (by omega)
  | cons s r ih =>
    intro i k n ht hk hi hn
    obtain ⟨k, rfl⟩ : ∃ m, k = m + 1 := ⟨k - 1, by omega⟩
    obtain ⟨hd, hlt, hl2⟩ := drop_next ht
    have hb := hs s (List.mem_of_mem_drop (i := i) (by rw [ht]; simp))
    simp only [List.length_cons] at hk
    simp only [slotcodelaw14_few.l0]; rw [if_pos (by omega), if_pos (by omega), if_pos (by omega), rdS_at l i s r ht, w64 _ (by omega) (by omega)]
    by_cases c : (n : Int) + (s.size : Int) > 3000
    · rw [if_pos c, decide_eq_false (show ¬ n + sz (s :: r) ≤ 3000 by simp only [sz]; omega)]; rfl
    · rw [if_neg c, w64 _ (by omega) (by omega), show (i : Int) + 1 = ((i + 1 : Nat) : Int) by omega, show (n : Int) + (s.size : Int) = ((n + s.size : Nat) : Int) by omega, ih (i + 1) k (n + s.size) hd (by omega) (by omega) (by omega)]
      have e : n + s.size + sz r = n + sz (s :: r) := by simp only [sz]; omega
      rw [e]
theorem few_f (l : List ByteArray) (hl : l.length ≤ 8796093022207) (hs : ∀ s ∈ l, s.size ≤ 140737488351232) (k : Nat) (hk : l.length < k) : slotcodelaw14_few.f k l = some (decide (sz l ≤ 3000) && decide (l.length ≤ 300)) := by
  have h := few_l0 l hl hs l 0 k 0 rfl hk (Nat.zero_le _) (Nat.zero_le _)
  rw [Nat.zero_add] at h
  exact h
theorem right_l0 (s : ByteArray) (hs : s.size ≤ 140737488351232) (t : List UInt8) : ∀ (i k : Nat), s.data.toList.drop i = t → t.length < k → i ≤ s.size →
    slotcoderef14_Right.l0 k s (i : Int) = some (decide (Lib.indexByte t 0 < 0) && decide (0 < s.size)) := by
  have hlen : s.data.toList.length = s.size := data_length s
  induction t with
  | nil =>
    intro i k ht hk hi
    obtain ⟨k, rfl⟩ : ∃ m, k = m + 1 := ⟨k - 1, by omega⟩
    have : s.data.toList.length ≤ i := List.drop_eq_nil_iff.mp ht
    simp only [slotcoderef14_Right.l0]; rw [if_neg (by omega)]
    rw [decide_eq_true (show Lib.indexByte [] 0 < 0 by decide), Bool.true_and]
    congr 1
    exact decide_eq_decide.2 (by omega)
  | cons b r ih =>
    intro i k ht hk hi
    obtain ⟨k, rfl⟩ : ∃ m, k = m + 1 := ⟨k - 1, by omega⟩
    obtain ⟨hd, hlt, hl2⟩ := drop_next ht
    simp only [List.length_cons] at hk
    have hbt : bt s (i : Int) = (b.toNat : Int) := by
      rw [← rd_bytesOf]
      refine rd_at (bytesOf s) i _ (r.map fun b => (b.toNat : Int)) ?_
      unfold bytesOf
      rw [← List.map_drop, ht]; rfl
    simp only [slotcoderef14_Right.l0]; rw [if_pos (by omega), if_pos (by omega), hbt]
    have hg := Lib.indexByte_ge r 0
    by_cases hb : b = 0
    · subst hb
      rw [if_pos (by rfl)]
      simp [Lib.indexByte]
    · have hbn : ¬ ((b.toNat : Int) = 0) := by
        intro h
        apply hb
        apply UInt8.toNat_inj.1
        have : (0 : UInt8).toNat = 0 := rfl
        omega
      have hbb : (b == 0) = false := beq_eq_false_iff_ne.mpr hb
      rw [if_neg hbn, w64 _ (by omega) (by omega), show (i : Int) + 1 = ((i + 1 : Nat) : Int) by omega, ih (i + 1) k hd (by omega) (by omega)]
      congr 2
      apply decide_eq_decide.2
      simp only [Lib.indexByte, hbb]
      by_cases hz : Lib.indexByte r 0 = -1
      · simp [hz]
      · simp [hz]; omega
theorem right_f (s : ByteArray) (hs : s.size ≤ 140737488351232) (k : Nat) (hk : s.size < k) : slotcoderef14_Right.f k s = some (!badS s) := by
  have hlen : s.data.toList.length = s.size := data_length s
  have h := right_l0 s hs s.data.toList 0 k rfl (by omega) (Nat.zero_le _)
  have h' : slotcoderef14_Right.l0 k s 0 = _ := h
  unfold slotcoderef14_Right.f
  rw [h']
  congr 1
  unfold badS
  rw [Lib.toList_data]
  by_cases h0 : s.data.toList = []
  · have : s.size = 0 := by rw [← hlen, h0]; rfl
    simp [h0, this]
  · have : 0 < s.size := by
      rcases Nat.eq_zero_or_pos s.size with h | h
      · exact absurd (List.eq_nil_of_length_eq_zero (by omega)) h0
      · exact h
    rw [decide_eq_true this, decide_eq_false h0, Bool.and_true, Bool.false_or, ← decide_not]
    exact decide_eq_decide.2 (by omega)
theorem rbuild_l0 (l : List ByteArray) (hl : l.length ≤ 1000000) (t : List ByteArray) : ∀ (i k : Nat) (out o : List Int), l.drop i = t → t.length < k → i ≤ l.length → out.length + tot t ≤ 1073741824 → o.length = i →
    slotcoderef14_Build.l0 k l out o (i : Int) = some (out ++ textB t, o ++ offs out.length t) := by
  induction t with
  | nil =>
    intro i k out o ht hk hi _ _
    obtain ⟨k, rfl⟩ : ∃ m, k = m + 1 := ⟨k - 1, by omega⟩
    have : l.length ≤ i := List.drop_eq_nil_iff.mp ht
    simp only [slotcoderef14_Build.l0]; rw [if_neg (by omega)]; simp [textB, offs]
  | cons s r ih =>
    intro i k out o ht hk hi hb ho
    obtain ⟨k, rfl⟩ : ∃ m, k = m + 1 := ⟨k - 1, by omega⟩
    obtain ⟨hd, hlt, hl2⟩ := drop_next ht
    simp only [List.length_cons] at hk
    simp only [tot] at hb
    have he : (out ++ bytesOf s).length = out.length + s.size := by rw [List.length_append, bytesOf_length]
    simp only [slotcoderef14_Build.l0]; rw [if_pos (by omega), if_pos (by omega), if_pos (by omega), rdS_at l i s r ht, if_pos (by omega)]
    simp only [Option.bind_some]
    rw [if_pos (by rw [he]; omega), w64 _ (by omega) (by omega), show (i : Int) + 1 = ((i + 1 : Nat) : Int) by omega,
      ih (i + 1) k _ _ hd (by omega) (by omega) (by rw [List.length_append, he]; simp; omega) (by simp [ho])]
    have e2 : (out ++ bytesOf s ++ [0]).length = out.length + s.size + 1 := by rw [List.length_append, he]; rfl
    rw [e2]
    simp [textB, offs]
theorem rbuild_f (l : List ByteArray) (hl : l.length ≤ 1000000) (hb : tot l ≤ 1000000) (k : Nat) (hk : l.length < k) : slotcoderef14_Build.f k l = some (tableB l, offs 1 l) := by
  have h := rbuild_l0 l hl l 0 k [0] [] rfl hk (Nat.zero_le _) (by simp; omega) rfl
  exact h
theorem same_l0 (a b : List Int) (hl : a.length = b.length) (hm : a.length ≤ 1099511627776) (t : List Int) : ∀ (i k : Nat), a.drop i = t → t.length < k → i ≤ a.length →
    slotcoderef01_Same.l0 k a b (i : Int) = some (decide (t = b.drop i)) := by
  induction t with
  | nil =>
    intro i k ht hk hi
    obtain ⟨k, rfl⟩ : ∃ m, k = m + 1 := ⟨k - 1, by omega⟩
    have : a.length ≤ i := List.drop_eq_nil_iff.mp ht
    simp only [slotcoderef01_Same.l0]; rw [if_neg (by omega)]
    have hbn : b.drop i = [] := List.drop_eq_nil_iff.mpr (by omega)
    rw [hbn]; simp
  | cons s r ih =>
    intro i k ht hk hi
    obtain ⟨k, rfl⟩ : ∃ m, k = m + 1 := ⟨k - 1, by omega⟩
    obtain ⟨hd, hlt, hl2⟩ := drop_next ht
    obtain ⟨q, r2, hq⟩ : ∃ q r2, b.drop i = q :: r2 := by
      cases h : b.drop i with
      | nil => have := List.drop_eq_nil_iff.mp h; omega
      | cons q r2 => exact ⟨q, r2, rfl⟩
    obtain ⟨hd2, _, _⟩ := drop_next hq
    simp only [List.length_cons] at hk
    simp only [slotcoderef01_Same.l0]; rw [if_pos (by omega), if_pos (by omega), if_pos (by omega), rd_at a i s r ht, rd_at b i q r2 hq]
    by_cases c : s = q
    · rw [if_pos c, w64 _ (by omega) (by omega), show (i : Int) + 1 = ((i + 1 : Nat) : Int) by omega, ih (i + 1) k hd (by omega) (by omega), hd2, hq]
      simp [c]
    · rw [if_neg c, hq]; simp [c]
theorem same_f (a b : List Int) (hm : a.length ≤ 1099511627776) (k : Nat) (hk : a.length < k) : slotcoderef01_Same.f k a b = some (decide (a = b)) := by
  unfold slotcoderef01_Same.f
  by_cases c : a.length = b.length
  · rw [if_pos (by omega)]
    have := same_l0 a b c hm a 0 k rfl hk (Nat.zero_le _)
    simpa using this
  · rw [if_neg (by omega)]
    have : a ≠ b := fun h => c (by rw [h])
    simp [this]
theorem eqi_l0 (a b : List Int) (hl : a.length = b.length) (hm : a.length ≤ 1099511627776) (t : List Int) : ∀ (i k : Nat), a.drop i = t → t.length < k → i ≤ a.length →
    slices_Equal_int_int.l0 k a b (a.length : Int) (i : Int) = some (decide (t = b.drop i)) := by
  induction t with
  | nil =>
    intro i k ht hk hi
    obtain ⟨k, rfl⟩ : ∃ m, k = m + 1 := ⟨k - 1, by omega⟩
    have : a.length ≤ i := List.drop_eq_nil_iff.mp ht
    simp only [slices_Equal_int_int.l0]; rw [if_neg (by omega)]
    have hbn : b.drop i = [] := List.drop_eq_nil_iff.mpr (by omega)
    rw [hbn]; simp
  | cons s r ih =>
    intro i k ht hk hi
    obtain ⟨k, rfl⟩ : ∃ m, k = m + 1 := ⟨k - 1, by omega⟩
    obtain ⟨hd, hlt, hl2⟩ := drop_next ht
    obtain ⟨q, r2, hq⟩ : ∃ q r2, b.drop i = q :: r2 := by
      cases h : b.drop i with
      | nil => have := List.drop_eq_nil_iff.mp h; omega
      | cons q r2 => exact ⟨q, r2, rfl⟩
    obtain ⟨hd2, _, _⟩ := drop_next hq
    simp only [List.length_cons] at hk
    simp only [slices_Equal_int_int.l0]; rw [if_pos (by omega), if_pos (by omega), if_pos (by omega), if_pos (by omega), rd_at a i s r ht, rd_at b i q r2 hq]
    by_cases c : s = q
    · rw [if_pos c, w64 _ (by omega) (by omega), show (i : Int) + 1 = ((i + 1 : Nat) : Int) by omega, ih (i + 1) k hd (by omega) (by omega), hd2, hq]
      simp [c]
    · rw [if_neg c, hq]; simp [c]
theorem eqi_f (a b : List Int) (hm : a.length ≤ 1099511627776) (k : Nat) (hk : a.length < k) : slices_Equal_int_int.f k a b = some (decide (a = b)) := by
  unfold slices_Equal_int_int.f
  by_cases c : a.length = b.length
  · rw [if_pos (by omega)]
    have := eqi_l0 a b c hm a 0 k rfl hk (Nat.zero_le _)
    simpa using this
  · rw [if_neg (by omega)]
    have : a ≠ b := fun h => c (by rw [h])
    simp [this]
end Go.Proofs.Ytbepheikefkaiaa.PAll
