/- StrtabFinds: Find answers the least offset at which Get of the reference answers the text. -/
import Derived.Test.YtbepheikefkaiaaStrRef
import Derived.Lib.IndexMore
namespace Go.Proofs.Ytbepheikefkaiaa.Pure
open Go.RowKit Go.Proofs.Ytbepheikefkaiaa.PAll Go.Proofs.YtbepheikefkaiaaW.PrintWords Go.Proofs.YtbepheikefkaiaaW.PrintLast

/-- A text ahead of the first zero byte is the text with a zero byte behind it. -/
theorem cut_iff (U : List UInt8) : ∀ (S : List UInt8), Lib.indexByte S 0 < 0 → ((0 ≤ Lib.indexByte U 0 ∧ U.take (Lib.indexByte U 0).toNat = S) ↔ (S ++ [0]).isPrefixOf U = true) := by
  induction U with
  | nil => intro S _; cases S <;> simp [Lib.indexByte]
  | cons b r ih =>
    intro S hS
    have hg := Lib.indexByte_ge r 0
    by_cases hb : b = 0
    · subst hb
      have e : Lib.indexByte (0 :: r) 0 = 0 := by simp [Lib.indexByte]
      rw [e]
      cases S with
      | nil => simp
      | cons c q =>
        have hc : c ≠ 0 := by intro h; subst h; simp [Lib.indexByte] at hS
        simp [hc]
    · have hbb : (b == 0) = false := beq_eq_false_iff_ne.mpr hb
      cases S with
      | nil =>
        have : ¬ (0 == b) = true := by intro h; exact hb (eq_of_beq h).symm
        simp only [Lib.indexByte, hbb]
        constructor
        · rintro ⟨h1, h2⟩
          by_cases hz : Lib.indexByte r 0 = -1
          · simp [hz] at h1
          · have e3 : (Lib.indexByte r 0 + 1).toNat = (Lib.indexByte r 0).toNat + 1 := by omega
            simp [hz, e3] at h2
        · intro h; simp at h
          exact absurd h.symm hb
      | cons c q =>
        have hq : Lib.indexByte q 0 < 0 ∧ c ≠ 0 := by
          by_cases hc : c = 0
          · subst hc; simp [Lib.indexByte] at hS
          · have hcb : (c == 0) = false := beq_eq_false_iff_ne.mpr hc
            refine ⟨?_, hc⟩
            have h2 := Lib.indexByte_ge q 0
            simp only [Lib.indexByte, hcb] at hS
            by_cases hz : Lib.indexByte q 0 = -1
            · omega
            · simp [hz] at hS; omega
        have hi := ih q hq.1
        simp only [Lib.indexByte, hbb]
        by_cases hz : Lib.indexByte r 0 = -1
        · have hno : (q ++ [0]).isPrefixOf r = false := by
            rw [Bool.eq_false_iff]; intro h
            have := (hi.2 h).1; omega
          simp [hz]
          intro _ h
          rw [← List.isPrefixOf_iff_prefix, hno] at h
          cases h
        · have e3 : (Lib.indexByte r 0 + 1).toNat = (Lib.indexByte r 0).toNat + 1 := by omega
          have h0 : 0 ≤ Lib.indexByte r 0 := by omega
          have hi2 : r.take (Lib.indexByte r 0).toNat = q ↔ (q ++ [0]).isPrefixOf r = true := ⟨fun h => hi.1 ⟨h0, h⟩, fun h => (hi.2 h).2⟩
          have h1 : 0 ≤ Lib.indexByte r 0 + 1 := by omega
          simp only [Bool.false_eq_true, if_false, beq_iff_eq, hz, e3, List.take_succ_cons, List.cons_append, List.isPrefixOf, Bool.and_eq_true, List.cons.injEq, h1, true_and]
          rw [hi2]
          constructor
          · rintro ⟨rfl, h⟩; exact ⟨rfl, h⟩
          · rintro ⟨h, h2⟩; exact ⟨h.symm, h2⟩
/-- Ahead of the first zero byte there is none. -/
theorem no_zero (U : List UInt8) : 0 ≤ Lib.indexByte U 0 → Lib.indexByte (U.take (Lib.indexByte U 0).toNat) 0 < 0 := by
  induction U with
  | nil => intro h; simp [Lib.indexByte] at h
  | cons b r ih =>
    have hg := Lib.indexByte_ge r 0
    by_cases hb : b = 0
    · subst hb; intro _; simp [Lib.indexByte]
    · have hbb : (b == 0) = false := beq_eq_false_iff_ne.mpr hb
      by_cases hz : Lib.indexByte r 0 = -1
      · intro h; simp [Lib.indexByte, hbb, hz] at h
      · intro _
        have e3 : (Lib.indexByte r 0 + 1).toNat = (Lib.indexByte r 0).toNat + 1 := by omega
        have h2 := ih (by omega)
        have h3 : Lib.indexByte (r.take (Lib.indexByte r 0).toNat) 0 = -1 := by
          have := Lib.indexByte_ge (r.take (Lib.indexByte r 0).toNat) 0; omega
        simp [Lib.indexByte, hbb, hz, e3, h3]
/-- At offset j stands the text s. -/
def At (l : List Int) (s : ByteArray) (j : Nat) : Prop := (getR l j).2 = 0 ∧ (getR l j).1.toList = s.toList
theorem at_iff (l : List Int) (s : ByteArray) (j : Nat) (hj : j < l.length) : At l s j ↔ (0 ≤ Lib.indexByte (Lib.bytesOf (l.drop j)) 0 ∧ (Lib.bytesOf (l.drop j)).take (Lib.indexByte (Lib.bytesOf (l.drop j)) 0).toNat = s.data.toList) := by
  have hz0 : zeroAt (l.drop j) = Lib.indexByte (Lib.bytesOf (l.drop j)) 0 := rfl
  unfold At
  by_cases hz : 0 ≤ zeroAt (l.drop j)
  · have e : getR l j = (strOfNums ((l.drop j).take (zeroAt (l.drop j)).toNat), 0) := by unfold getR; rw [if_neg (by omega), Int.toNat_natCast, if_pos hz]
    rw [e, Lib.strOfNums_toList, Lib.toList_data, ← hz0]
    have e2 : Lib.bytesOf ((l.drop j).take (zeroAt (l.drop j)).toNat) = (Lib.bytesOf (l.drop j)).take (zeroAt (l.drop j)).toNat := by simp [Lib.bytesOf, List.map_take]
    rw [e2]
    simp [hz]
  · have e : getR l j = (⟨#[]⟩, 4) := by unfold getR; rw [if_neg (by omega), Int.toNat_natCast, if_neg hz]
    rw [e, ← hz0]
    simp [hz]
theorem at_occ (l : List Int) (s : ByteArray) (j : Nat) (hj : j < l.length) (hs : Lib.indexByte s.data.toList 0 < 0) : At l s j ↔ Lib.occAt (Lib.bytesOf l) (s.data.toList ++ [0]) j = true := by
  rw [at_iff l s j hj, cut_iff _ _ hs]
  have : Lib.bytesOf (l.drop j) = (Lib.bytesOf l).drop j := by simp [Lib.bytesOf, List.map_drop]
  rw [this]; rfl
theorem at_not (l : List Int) (s : ByteArray) (j : Nat) (hj : j < l.length) (hs : 0 ≤ Lib.indexByte s.data.toList 0) : ¬ At l s j := by
  rw [at_iff l s j hj]
  rintro ⟨h1, h2⟩
  have := no_zero _ h1
  rw [h2] at this
  omega
theorem occ_end (l : List Int) (s : ByteArray) (j : Nat) (hj : l.length ≤ j) : Lib.occAt (Lib.bytesOf l) (s.data.toList ++ [0]) j = false := by
  unfold Lib.occAt
  have : (Lib.bytesOf l).drop j = [] := List.drop_eq_nil_iff.mpr (by rw [Lib.bytesOf_length]; exact hj)
  rw [this]
  cases s.data.toList <;> rfl
theorem find_none (l : List Int) (s : ByteArray) (h : ∀ j, j < l.length → ¬ At l s j) : findR l s = (0, false) := by
  unfold findR
  by_cases hs : 0 ≤ Lib.indexByte s.data.toList 0
  · rw [if_pos hs]
  · rw [if_neg hs]
    have hi : findI l s = -1 := by
      unfold findI
      refine Lib.index_none fun j _ => ?_
      rcases Nat.lt_or_ge j l.length with hj | hj
      · have := (not_congr (at_occ l s j hj (by omega))).1 (h j hj)
        simpa using this
      · exact occ_end l s j hj
    rw [hi]; rfl
theorem find_some (l : List Int) (s : ByteArray) (j : Nat) (hj : j < l.length) (h1 : At l s j) (h2 : ∀ i, i < j → ¬ At l s i) : findR l s = ((j : Int), true) := by
  have hs : Lib.indexByte s.data.toList 0 < 0 := by
    rcases Int.lt_or_le (Lib.indexByte s.data.toList 0) 0 with h | h
    · exact h
    · exact absurd h1 (at_not l s j hj h)
  unfold findR
  rw [if_neg (by omega)]
  have hi : findI l s = (j : Int) := by
    unfold findI
    refine Lib.index_first (by rw [Lib.bytesOf_length]; omega) ((at_occ l s j hj hs).1 h1) fun i hi => ?_
    have := (not_congr (at_occ l s i (by omega) hs)).1 (h2 i hi)
    simpa using this
  rw [hi]
  unfold mx
  rw [if_neg (by omega), decide_eq_true (by omega)]
theorem loop (l : List Int) (s : ByteArray) (hB : BytesOk l) (hl : l.length ≤ 1000) : ∀ (i k : Nat) (want : Int), i ≤ l.length → i + 5000 < k →
    ((want = -1 ∧ ∀ j, i ≤ j → j < l.length → ¬ At l s j) ∨ (∃ j : Nat, want = j ∧ i ≤ j ∧ j < l.length ∧ At l s j ∧ ∀ q, i ≤ q → q < j → ¬ At l s q)) →
    slotcodelaw14_StrtabFinds.l0 k l s (findR l s).1 (findR l s).2 want ((i : Int) - 1) = some true := by
  intro i
  induction i with
  | zero =>
    intro k want _ hk h
    obtain ⟨k, rfl⟩ : ∃ m, k = m + 1 := ⟨k - 1, by omega⟩
    have ha : slotcodelaw14_alive.f = some true := rfl
    simp only [slotcodelaw14_StrtabFinds.l0]
    rw [if_neg (by omega), ha]
    simp only [Option.bind_some]
    rcases h with ⟨rfl, h⟩ | ⟨j, rfl, _, hj, h1, h2⟩
    · rw [find_none l s (fun j hj => h j (Nat.zero_le _) hj)]
      rfl
    · rw [find_some l s j hj h1 (fun q hq => h2 q (Nat.zero_le _) hq)]
      unfold mx
      rw [if_pos (by trivial), decide_eq_true (show (j : Int) ≥ 0 by omega), if_pos (by rfl), if_neg (by omega)]
      simp
  | succ i ih =>
    intro k want hi hk h
    obtain ⟨k, rfl⟩ : ∃ m, k = m + 1 := ⟨k - 1, by omega⟩
    have e1 : ((i + 1 : Nat) : Int) - 1 = (i : Int) := by omega
    rw [e1]
    simp only [slotcodelaw14_StrtabFinds.l0]
    rw [if_pos (by omega), rget_f l hB (by omega) (i : Int) k (by omega), w64 _ (by omega) (by omega)]
    simp only [Option.bind_some]
    by_cases hz : (getR l i).2 = 0
    · rw [if_pos hz, if_pos (by trivial)]
      by_cases he : (getR l i).1.toList = s.toList
      · rw [if_pos he]
        exact ih k i (by omega) (by omega) (.inr ⟨i, rfl, Nat.le_refl _, by omega, ⟨hz, he⟩, fun q h1 h2 => by omega⟩)
      · rw [if_neg he]
        refine ih k want (by omega) (by omega) ?_
        have hno : ¬ At l s i := fun h => he h.2
        rcases h with ⟨hw, h⟩ | ⟨j, hw, h0, hj, h1, h2⟩
        · exact .inl ⟨hw, fun j h0 hj => by rcases Nat.lt_or_ge i j with h3 | h3; exact h j h3 hj; rw [show j = i by omega]; exact hno⟩
        · exact .inr ⟨j, hw, by omega, hj, h1, fun q h3 h4 => by rcases Nat.lt_or_ge i q with h5 | h5; exact h2 q h5 h4; rw [show q = i by omega]; exact hno⟩
    · rw [if_neg hz, if_neg (by decide)]
      refine ih k want (by omega) (by omega) ?_
      have hno : ¬ At l s i := fun h => hz h.1
      rcases h with ⟨hw, h⟩ | ⟨j, hw, h0, hj, h1, h2⟩
      · exact .inl ⟨hw, fun j h0 hj => by rcases Nat.lt_or_ge i j with h3 | h3; exact h j h3 hj; rw [show j = i by omega]; exact hno⟩
      · exact .inr ⟨j, hw, by omega, hj, h1, fun q h3 h4 => by rcases Nat.lt_or_ge i q with h5 | h5; exact h2 q h5 h4; rw [show q = i by omega]; exact hno⟩
/-- What StrtabFinds says of the printed functions. -/
theorem StrtabFinds : slotcodelaw14_StrtabFinds.Pure := by
  intro l s hm hs hb _
  have ha : slotcodelaw14_alive.f = some true := rfl
  obtain ⟨K, hbig⟩ : ∃ K, 1000000 ≤ K := ⟨_, Nat.le_refl _⟩
  refine ⟨K + 1, ?_⟩
  unfold slotcodelaw14_StrtabFinds.f
  by_cases c : (l.length : Int) > 300
  · rw [if_pos c]
    simp only [slotcodelaw14_StrtabFinds.j0]
    rw [if_pos (by trivial), ha]; rfl
  · rw [if_neg c]
    simp only [slotcodelaw14_StrtabFinds.j0]
    by_cases c2 : (s.size : Int) > 300
    · rw [decide_eq_true c2, if_pos (by trivial), ha]; rfl
    · rw [decide_eq_false c2, if_neg (by decide)]
      have hB : BytesOk l := fun x hx => byte_wf x (hb x hx)
      have hf : strtab_Find.f l s = some (findR l s) := by unfold strtab_Find.f; rw [if_pos ⟨by omega, by omega, hB⟩]
      rw [hf]
      simp only [Option.bind_some]
      rw [w64 _ (by omega) (by omega)]
      exact loop l s hB (by omega) l.length K (-1) (Nat.le_refl _) (by omega) (.inl ⟨rfl, fun j h1 h2 => by omega⟩)
end Go.Proofs.Ytbepheikefkaiaa.Pure
