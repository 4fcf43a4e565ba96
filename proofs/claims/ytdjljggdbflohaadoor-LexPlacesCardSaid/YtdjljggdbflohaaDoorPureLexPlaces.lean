/- LexPlaces: what the printed functions answer. -/
import Derived.Test.YtdjljggdbflohaaDoorLexRef2
import Derived.Test.YtdjljggdbflohaaDoorPAllx20
import Derived.Test.YtdjljggdbflohaaDoorPAllx19
import Derived.Test.YtdjljggdbflohaaDoorPAllx19
set_option linter.unusedVariables false
namespace Go.Proofs.YtdjljggdbflohaaDoor.Pure
open Go.RowKit Go.Proofs.YtdjljggdbflohaaDoor.PAll Go.Proofs.YtdjljggdbflohaaDoorW.PrintWords Go.Proofs.YtdjljggdbflohaaDoorW.PrintLast
/-- Tokens that stand in a line from e on, one behind the other. -/
def okFrom (s : ByteArray) : Nat → List S31 → Prop
  | _, [] => True
  | e, t :: r => ∃ a : Nat, t.f1 = a ∧ e ≤ a ∧ a + t.f0.size ≤ s.size ∧ 0 < t.f0.size ∧ (s.data.toList.drop a).take t.f0.size = t.f0.data.toList ∧ okFrom s (a + t.f0.size) r
theorem tk_from (s : ByteArray) : ∀ (k : Nat) (l : List UInt8) (i e : Nat), s.data.toList.drop i = l → i ≤ s.size → e ≤ i → okFrom s e (tk k l i).1 := by
  have hlen : s.data.toList.length = s.size := data_length s
  intro k
  induction k with
  | zero => intro l i e _ _ _; exact trivial
  | succ k ih =>
    intro l i e hl hi he
    cases l with
    | nil => exact trivial
    | cons b r =>
      obtain ⟨hd, hlt, hl2⟩ := idrop_next hl
      have hle := wordN_le (b :: r)
      simp only [List.length_cons] at hle
      simp only [tk]
      by_cases hw : wordN (b :: r) ≠ 0
      · rw [if_pos hw]
        have hsz : (⟨((b :: r).take (wordN (b :: r))).toArray⟩ : ByteArray).size = wordN (b :: r) := by
          rw [← data_length]
          show (((b :: r).take (wordN (b :: r))).toArray.toList).length = _
          rw [List.toList_toArray, List.length_take]
          simp; omega
        refine ⟨i, rfl, he, ?_, ?_, ?_, ?_⟩
        · dsimp only; rw [hsz]; omega
        · dsimp only; rw [hsz]; omega
        · dsimp only; rw [hsz, hl]
        · dsimp only; rw [hsz]; exact ih _ _ _ (by rw [← hl, List.drop_drop]) (by omega) (Nat.le_refl _)
      · rw [if_neg hw]
        have h1 : (⟨#[b]⟩ : ByteArray).size = 1 := rfl
        split
        · refine ⟨i, rfl, he, ?_, ?_, ?_, ?_⟩
          · dsimp only; rw [h1]; omega
          · dsimp only; rw [h1]; omega
          · dsimp only; rw [h1, hl]; rfl
          · dsimp only; rw [h1]; exact ih _ _ _ hd (by omega) (Nat.le_refl _)
        · split
          · exact trivial
          · split
            · exact ih _ _ _ hd (by omega) (by omega)
            · exact trivial
theorem prefix_true (a b : ByteArray) (h : a.data.toList.take b.size = b.data.toList) (hl : b.size ≤ a.size) : strings_HasPrefix.f a b = some true := by
  unfold strings_HasPrefix.f stringslite_HasPrefix.f
  rw [if_pos (by omega), if_pos (by omega), if_pos (by omega), Option.bind_some, Int.toNat_natCast]
  have e : (a.extract 0 b.size).toList = b.toList := by
    rw [Lib.toList_data, Lib.toList_data, Lib.extract_data]
    exact h
  rw [e]
  simp
theorem places_l0 (s : ByteArray) (hs : s.size ≤ 3000) (l : List S31) (hl : l.length ≤ 1000000) (t : List S31) : ∀ (i e K : Nat), l.drop i = t → i ≤ l.length → t.length + 9 < K → okFrom s e t → e ≤ s.size → slotcodelaw08_LexPlaces.l0 K s (e : Int) l (l.length : Int) (i : Int) = some true := by
  induction t with
  | nil =>
    intro i e K ht hi hk ho he
    obtain ⟨K, rfl⟩ : ∃ m, K = m + 9 + 1 := ⟨K - 10, by omega⟩
    have : l.length ≤ i := List.drop_eq_nil_iff.mp ht
    simp only [slotcodelaw08_LexPlaces.l0]
    rw [if_neg (by omega), alive_true]
    rfl
  | cons x r ih =>
    intro i e K ht hi hk ho he
    obtain ⟨K, rfl⟩ : ∃ m, K = m + 1 := ⟨K - 1, by omega⟩
    obtain ⟨hd, hlt, hl2⟩ := idrop_next ht
    simp only [List.length_cons] at hk
    obtain ⟨a, ha, hea, has, h0, htx, hr⟩ := ho
    have hdl := data_length s
    have e1 := Aside0.mk (show wrap64 ((i : Int) + 1) = ((i + 1 : Nat) : Int) by rw [iw64 _ (by omega) (by omega)]; omega)
    have e2 := Aside0.mk (show wrap64 ((a : Int) + (x.f0.size : Int)) = ((a + x.f0.size : Nat) : Int) by rw [iw64 _ (by omega) (by omega)]; omega)
    have hex : (s.extract a s.size).data.toList = s.data.toList.drop a := by
      rw [Lib.extract_data, List.take_of_length_le (by rw [List.length_drop]; omega)]
    have hexs : (s.extract a s.size).size = s.size - a := by rw [← data_length, hex, List.length_drop]; omega
    have hne : ¬ x.f0.toList = ([] : List UInt8) := by
      rw [Lib.toList_data]
      intro h
      have := data_length x.f0
      rw [h] at this
      simp at this; omega
    simp only [slotcodelaw08_LexPlaces.l0]
    rw [if_pos (by omega), if_pos (by omega), if_pos (by omega), rd31 l i x r ht, ha, if_neg (by omega), if_neg (by omega), if_pos (by omega), if_pos (by omega), Int.toNat_natCast, prefix_true _ _ (by rw [hex]; exact htx) (by omega), Option.bind_some, if_pos rfl, if_neg hne, e1.out, e2.out]
    exact ih (i + 1) (a + x.f0.size) K hd (by omega) (by omega) hr (by omega)
/-- LexPlaces: each token stands in the line at its place. -/
theorem LexPlaces : slotcodelaw08_LexPlaces.Pure := by
  intro s hs
  obtain ⟨K, hbig⟩ : ∃ K, 5 * s.size + 100 ≤ K := ⟨_, Nat.le_refl _⟩
  refine ⟨K + 9, ?_⟩
  unfold slotcodelaw08_LexPlaces.f
  by_cases hb : (s.size : Int) > 3000
  · rw [if_pos hb, alive_true]; rfl
  · rw [if_neg hb, tokens_f s (by omega) (s.size + 1) (by omega), Option.bind_some]
    have hlen := (tk_size (s.size + 1) s.data.toList 0).2
    have hfr := tk_from s (s.size + 1) s.data.toList 0 0 rfl (Nat.zero_le _) (Nat.le_refl _)
    rw [data_length] at hlen
    cases h : tk (s.size + 1) s.data.toList 0 with
    | mk ts o =>
      rw [h] at hlen hfr
      dsimp only at hlen hfr
      cases o with
      | some i => exact places_l0 s (by omega) [] (by simp) [] 0 0 (K + 9) rfl (Nat.le_refl _) (by simp; omega) trivial (Nat.zero_le _)
      | none => exact places_l0 s (by omega) ts (by omega) ts 0 0 (K + 9) rfl (Nat.zero_le _) (by omega) hfr (Nat.zero_le _)
end Go.Proofs.YtdjljggdbflohaaDoor.Pure
