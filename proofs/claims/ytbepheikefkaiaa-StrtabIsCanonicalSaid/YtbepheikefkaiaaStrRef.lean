/- Plain facts: what the reference's functions of the chapter 14 compute. -/
import Derived.Test.YtbepheikefkaiaaPAllx14
import Derived.Test.YtbepheikefkaiaaPAllx15
import Derived.Test.YtbepheikefkaiaaPAllx10
namespace Go.Proofs.Ytbepheikefkaiaa.PAll
open Go.RowKit Go.Proofs.YtbepheikefkaiaaW.PrintWords Go.Proofs.YtbepheikefkaiaaW.PrintLast Go.Proofs.YtbepheikefkaiaaW.PrintMore

theorem byte_wf (x : Int) (h : (Lit.int .u8 x).wf = true) : 0 ≤ x ∧ x < 256 := by
  have h' : (decide ((IntKind.u8).min ≤ x) && decide (x ≤ (IntKind.u8).max)) = true := h
  rw [show (IntKind.u8).min = 0 by decide, show (IntKind.u8).max = 255 by decide, Bool.and_eq_true, decide_eq_true_eq, decide_eq_true_eq] at h'
  omega
theorem rd_at (l : List Int) (i : Nat) (s : Int) (r : List Int) (h : l.drop i = s :: r) : rd l (i : Int) = s := by
  have : l[i]? = some s := by rw [← List.head?_drop, h]; rfl
  simp [rd, List.getD_eq_getElem?_getD, this]
theorem zeroAt_cons (x : Int) (r : List Int) (h0 : 0 ≤ x) (h1 : x < 256) : zeroAt (x :: r) = if x = 0 then 0 else if zeroAt r = -1 then -1 else zeroAt r + 1 := by
  unfold zeroAt
  have e : Lib.bytesOf (x :: r) = UInt8.ofNat x.toNat :: Lib.bytesOf r := rfl
  rw [e]
  simp only [Lib.indexByte]
  have hb : (UInt8.ofNat x.toNat == 0) = decide (x = 0) := by
    by_cases hx : x = 0
    · subst hx; rfl
    · have : UInt8.ofNat x.toNat ≠ 0 := by
        intro he
        have h2 := congrArg UInt8.toNat he
        rw [UInt8.toNat_ofNat'] at h2
        have h3 : (0 : UInt8).toNat = 0 := rfl
        rw [h3, Nat.mod_eq_of_lt (by omega)] at h2
        omega
      rw [decide_eq_false hx]
      exact beq_eq_false_iff_ne.mpr this
  rw [hb]
  by_cases hx : x = 0
  · simp [hx]
  · simp [hx]
theorem zeroAt_ge (l : List Int) : -1 ≤ zeroAt l := Lib.indexByte_ge _ _
theorem str_append (a b : List Int) : strOfNums (a ++ b) = strOfNums a ++ strOfNums b := by
  apply ByteArray.ext
  apply Array.ext'
  simp [strOfNums]
theorem rget_l0 (l : List Int) (hb : BytesOk l) (hl : l.length ≤ 1073741824) (t : List Int) : ∀ (i k : Nat) (acc : ByteArray), l.drop i = t → t.length < k → i ≤ l.length → acc.size ≤ i →
    slotcoderef14_Get.l0 k l acc (i : Int) = some (if 0 ≤ zeroAt t then (acc ++ strOfNums (t.take (zeroAt t).toNat), true) else (⟨#[]⟩, false)) := by
  induction t with
  | nil =>
    intro i k acc ht hk hi ha
    obtain ⟨k, rfl⟩ : ∃ m, k = m + 1 := ⟨k - 1, by omega⟩
    have : l.length ≤ i := List.drop_eq_nil_iff.mp ht
    simp only [slotcoderef14_Get.l0]; rw [if_neg (by omega)]; rfl
  | cons x r ih =>
    intro i k acc ht hk hi ha
    obtain ⟨k, rfl⟩ : ∃ m, k = m + 1 := ⟨k - 1, by omega⟩
    obtain ⟨hd, hlt, hl2⟩ := drop_next ht
    have hx := hb x (List.mem_of_mem_drop (i := i) (by rw [ht]; simp))
    simp only [List.length_cons] at hk
    simp only [slotcoderef14_Get.l0]; rw [if_pos (by omega), if_pos (by omega), rd_at l i x r ht, zeroAt_cons x r hx.1 hx.2]
    have hg := zeroAt_ge r
    by_cases h0 : x = 0
    · rw [if_pos h0, if_pos h0, if_pos (by decide)]
      have : acc ++ strOfNums (List.take (0 : Int).toNat (x :: r)) = acc := by
        apply ByteArray.ext
        apply Array.ext'
        simp [strOfNums]
      rw [this]
    · rw [if_neg h0, if_neg h0, w64 _ (by omega) (by omega)]
      have e1 : ((i : Int) + 1).toNat = i + 1 := by omega
      have e2 : (l.take (i + 1)).drop i = [x] := by
        rw [List.drop_take, ht, show i + 1 - i = 1 by omega]; rfl
      rw [if_pos (by omega), if_pos (by omega), e1, Int.toNat_natCast, e2, if_pos (by rw [strOfNums_size]; simp; omega), show (i : Int) + 1 = ((i + 1 : Nat) : Int) by omega,
        ih (i + 1) k _ hd (by omega) (by omega) (by rw [ByteArray.size_append, strOfNums_size]; simp; omega)]
      by_cases hz : zeroAt r = -1
      · rw [if_pos hz, hz]; rfl
      · rw [if_neg hz, if_pos (by omega), if_pos (by omega)]
        have e3 : (zeroAt r + 1).toNat = (zeroAt r).toNat + 1 := by omega
        rw [e3, List.take_succ_cons, show x :: r.take (zeroAt r).toNat = [x] ++ r.take (zeroAt r).toNat from rfl, str_append, ByteArray.append_assoc]
/-- The reference's Get: the text up to the next zero byte. -/
theorem rget_f (l : List Int) (hb : BytesOk l) (hl : l.length ≤ 1073741824) (off : Int) (k : Nat) (hk : l.length < k) :
    slotcoderef14_Get.f k l off = some (if (getR l off).2 = 0 then ((getR l off).1, true) else (⟨#[]⟩, false)) := by
  unfold slotcoderef14_Get.f
  by_cases h1 : off < 0
  · have e : getR l off = (⟨#[]⟩, 4) := by unfold getR; rw [if_pos (.inl h1)]
    rw [if_pos h1, e]; rfl
  · rw [if_neg h1]
    obtain ⟨i, rfl⟩ : ∃ i : Nat, off = i := ⟨off.toNat, by omega⟩
    by_cases h2 : (l.length : Int) ≤ i
    · have e : getR l i = (⟨#[]⟩, 4) := by unfold getR; rw [if_pos (.inr h2)]
      rw [e]
      obtain ⟨k, rfl⟩ : ∃ m, k = m + 1 := ⟨k - 1, by omega⟩
      simp only [slotcoderef14_Get.l0]; rw [if_neg (by omega)]; rfl
    · rw [rget_l0 l hb hl (l.drop i) i k ⟨#[]⟩ rfl (by rw [List.length_drop]; omega) (by omega) (Nat.zero_le _)]
      by_cases hz : 0 ≤ zeroAt (l.drop i)
      · have e : getR l i = (strOfNums ((l.drop i).take (zeroAt (l.drop i)).toNat), 0) := by unfold getR; rw [if_neg (by omega), Int.toNat_natCast, if_pos hz]
        rw [if_pos hz, e]
        have : (⟨#[]⟩ : ByteArray) ++ strOfNums ((l.drop i).take (zeroAt (l.drop i)).toNat) = strOfNums ((l.drop i).take (zeroAt (l.drop i)).toNat) := by
          apply ByteArray.ext
          apply Array.ext'
          simp [strOfNums]
        rw [this]; rfl
      · have e : getR l i = (⟨#[]⟩, 4) := by unfold getR; rw [if_neg (by omega), Int.toNat_natCast, if_neg hz]
        rw [if_neg hz, e]; rfl
end Go.Proofs.Ytbepheikefkaiaa.PAll
