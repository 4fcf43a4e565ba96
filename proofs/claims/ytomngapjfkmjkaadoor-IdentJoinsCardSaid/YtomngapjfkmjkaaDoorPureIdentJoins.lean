/- IdentJoins: what the printed functions answer. -/
import Derived.Test.YtomngapjfkmjkaaDoorIdRef
import Derived.Test.YtomngapjfkmjkaaDoorPAllx25
namespace Go.Proofs.YtomngapjfkmjkaaDoor.Pure
open Go.RowKit Go.Proofs.YtomngapjfkmjkaaDoor.PAll Go.Proofs.YtomngapjfkmjkaaDoorW.PrintWords Go.Proofs.YtomngapjfkmjkaaDoorW.PrintLast

theorem valid_word (k : Nat) (s : ByteArray) (hs : s.size ≤ 140737488355328) : ∃ r, ident_Valid.f (k + 1) s = some r ∧ (r = true → wordN s.data.toList = s.size) := by
  have hreg : ident_Register.f s = some (regR s.data.toList) := by unfold ident_Register.f; rw [if_pos hs]
  have hj : ∀ x, (x = true → ident_Valid.j0 (k + 1) s x = some false) := fun x hx => by simp only [ident_Valid.j0]; rw [if_pos hx]
  unfold ident_Valid.f
  by_cases h1 : s.toList = ([] : List UInt8)
  · rw [if_pos h1]; exact ⟨false, hj true rfl, fun h => by cases h⟩
  · rw [if_neg h1]
    by_cases h2 : (s.size : Int) > 32
    · rw [if_pos h2]; exact ⟨false, hj true rfl, fun h => by cases h⟩
    · rw [if_neg h2, word_f s hs, Option.bind_some]
      by_cases h3 : wordN s.data.toList = s.size
      · have hb : (((wordN s.data.toList : Nat) : Int) != (s.size : Int)) = false := bne_eq_false_iff_eq.mpr (by rw [h3])
        have hsz : 0 < (s.size : Int) := by
          refine Decidable.byContradiction fun h => h1 ?_
          rw [Lib.toList_data]
          exact List.eq_nil_of_length_eq_zero (by rw [data_length]; omega)
        rw [hb]
        simp only [ident_Valid.j0]
        rw [if_neg (by decide), hreg, Option.bind_some]
        by_cases h4 : (regR s.data.toList).2 = true
        · rw [if_pos h4]; exact ⟨false, rfl, fun h => by cases h⟩
        · rw [if_neg h4, if_pos hsz]
          have hr := bt_range s 0
          have hw : wrap32 (bt s 0) ≤ 255 := by unfold wrap32; omega
          unfold unicode_IsDigit.f
          rw [if_pos hw, Option.bind_some]
          exact ⟨_, rfl, fun _ => h3⟩
      · have hb : (((wordN s.data.toList : Nat) : Int) != (s.size : Int)) = true := bne_iff_ne.mpr (by omega)
        rw [hb]; exact ⟨false, hj true rfl, fun h => by cases h⟩
/-- IdentJoins: a word does not depend on what follows it. -/
theorem IdentJoins : slotcodelaw02_IdentJoins.Pure := by
  intro s t hs ht
  obtain ⟨K, hbig⟩ : ∃ K, 100 ≤ K := ⟨_, Nat.le_refl _⟩
  refine ⟨K + 5 + 1 + 1, ?_⟩
  unfold slotcodelaw02_IdentJoins.f
  have hT : slotcodelaw02_IdentJoins.j0 (K + 5 + 1 + 1) s t true = some true := by
    simp only [slotcodelaw02_IdentJoins.j0]
    rw [if_pos (by trivial), show K + 5 + 1 = (K + 1) + 5 by omega, alive_true (K + 1)]; rfl
  by_cases c1 : (s.size : Int) > 2000
  · rw [if_pos c1, hT]
  · rw [if_neg c1]
    by_cases c2 : (t.size : Int) > 2000
    · rw [decide_eq_true c2, hT]
    · have hj1 : slotcodelaw02_IdentJoins.j1 (K + 5 + 1) s t false = some true := by
        have e1 : ((s ++ (⟨#[32]⟩ : ByteArray)) ++ t).data.toList = s.data.toList ++ 32 :: t.data.toList := by simp
        have z0 : (s ++ (⟨#[32]⟩ : ByteArray)).size = s.size + 1 := by rw [ByteArray.size_append]; rfl
        have z1 : ((s ++ (⟨#[32]⟩ : ByteArray)) ++ t).size = s.size + 1 + t.size := by rw [ByteArray.size_append, z0]
        simp only [slotcodelaw02_IdentJoins.j1]
        rw [if_neg (by decide), alive_true K, Option.bind_some, if_pos rfl, if_pos (by omega), if_pos (by rw [z0]; omega), word_f _ (by rw [z1]; omega), Option.bind_some, word_f s (by omega), Option.bind_some, e1, wordN_join]
        simp
      obtain ⟨r, hr1, hr2⟩ := valid_word (K + 5) s (by omega)
      rw [decide_eq_false c2]
      simp only [slotcodelaw02_IdentJoins.j0]
      rw [if_neg (by decide), hr1, Option.bind_some]
      by_cases hr : r = true
      · have hb : (((wordN s.data.toList : Nat) : Int) != (s.size : Int)) = false := bne_eq_false_iff_eq.mpr (by rw [hr2 hr])
        rw [if_pos hr, word_f s (by omega), Option.bind_some, hb, hj1]
      · rw [if_neg hr, hj1]
end Go.Proofs.YtomngapjfkmjkaaDoor.Pure
