/- IdentRepeated: what the printed functions answer. -/
import Derived.Test.YtomngapjfkmjkaaDoorIdRef2
import Derived.Test.YtomngapjfkmjkaaDoorPAllx23
import Derived.Test.YtomngapjfkmjkaaDoorPAllx22
namespace Go.Proofs.YtomngapjfkmjkaaDoor.Pure
open Go.RowKit Go.Proofs.YtomngapjfkmjkaaDoor.PAll Go.Proofs.YtomngapjfkmjkaaDoorW.PrintWords Go.Proofs.YtomngapjfkmjkaaDoorW.PrintLast

theorem irdS_at (l : List ByteArray) (i : Nat) (s : ByteArray) (r : List ByteArray) (h : l.drop i = s :: r) : rdOf ByteArray.empty l (i : Int) = s := by
  have : l[i]? = some s := by rw [← List.head?_drop, h]; rfl
  simp [rdOf, List.getD_eq_getElem?_getD, this]
set_option maxRecDepth 10000 in
theorem rrep (l : List ByteArray) (hl : l.length ≤ 300) : ∀ (n i k : Nat), i + n = l.length → n * 400 + 400 < k → slotcoderef02_Repeated.l0 k l (i : Int) = some (repL (l.take i) (l.drop i)) := by
  intro n
  induction n with
  | zero =>
    intro i k hi hk
    obtain ⟨k, rfl⟩ : ∃ m, k = m + 1 := ⟨k - 1, by omega⟩
    simp only [slotcoderef02_Repeated.l0]
    rw [if_neg (by omega), List.drop_eq_nil_iff.mpr (by omega)]
    rfl
  | succ n ih =>
    intro i k hi hk
    obtain ⟨k, rfl⟩ : ∃ m, k = m + 1 := ⟨k - 1, by omega⟩
    have hlt : i < l.length := by omega
    obtain ⟨s, hse⟩ : ∃ s, s = l[i] := ⟨_, rfl⟩
    have hdr : l.drop i = s :: l.drop (i + 1) := by rw [hse]; exact List.drop_eq_getElem_cons hlt
    have htk : l.take (i + 1) = l.take i ++ [s] := by rw [List.take_add_one, List.getElem?_eq_getElem hlt, hse]; rfl
    have hinner : ∀ (q j k : Nat), j + q = i → q + n * 400 + 405 < k → slotcoderef02_Repeated.l1 k l (i : Int) (j : Int) = some (if memB s ((l.take i).drop j) = true then (i : Int) else repL (l.take (i + 1)) (l.drop (i + 1))) := by
      intro q
      induction q with
      | zero =>
        intro j k hj hk
        obtain ⟨k, rfl⟩ : ∃ m, k = m + 1 := ⟨k - 1, by omega⟩
        simp only [slotcoderef02_Repeated.l1]
        have hz : (l.take i).drop j = [] := List.drop_eq_nil_iff.mpr (by rw [List.length_take]; omega)
        have h1 := ih (i + 1) k (by omega) (by omega)
        rw [if_neg (by omega), iw64 _ (by omega) (by omega), show (i : Int) + 1 = ((i + 1 : Nat) : Int) by omega, h1, hz, if_neg (show ¬ memB s [] = true by simp [memB])]
      | succ q ihq =>
        intro j k hj hk
        obtain ⟨k, rfl⟩ : ∃ m, k = m + 1 := ⟨k - 1, by omega⟩
        have hjl : j < l.length := by omega
        have hjd : l.drop j = l[j] :: l.drop (j + 1) := List.drop_eq_getElem_cons hjl
        have hjt : (l.take i).drop j = l[j] :: (l.take i).drop (j + 1) := by
          have h1 : j < (l.take i).length := by rw [List.length_take]; omega
          rw [List.drop_eq_getElem_cons h1, List.getElem_take]
        simp only [slotcoderef02_Repeated.l1]
        rw [if_pos (by omega), if_pos (by omega), if_pos (by omega), if_pos (by omega), if_pos (by omega), irdS_at l i s _ hdr, irdS_at l j _ _ hjd, hjt]
        by_cases he : s.toList = l[j].toList
        · rw [if_pos he, if_pos]
          unfold memB
          rw [List.any_cons, decide_eq_true (by rw [Lib.toList_data, Lib.toList_data] at he; exact he.symm), Bool.true_or]
        · rw [if_neg he, iw64 _ (by omega) (by omega), show (j : Int) + 1 = ((j + 1 : Nat) : Int) by omega, ihq (j + 1) k (by omega) (by omega)]
          unfold memB
          rw [List.any_cons, decide_eq_false (by rw [Lib.toList_data, Lib.toList_data] at he; exact fun h => he h.symm), Bool.false_or]
    simp only [slotcoderef02_Repeated.l0]
    have h1 := hinner i 0 k (by omega) (by omega)
    have h1' : slotcoderef02_Repeated.l1 k l (i : Int) 0 = _ := h1
    rw [if_pos (by omega), h1', List.drop_zero, hdr]
    simp only [repL]
    rw [htk, show (l.take i).length = i by rw [List.length_take]; omega]
/-- IdentRepeated: Repeated answers the index of the reference. -/
theorem IdentRepeated (l : List ByteArray) (hl : l.length ≤ 8796093022207) (hs : ∀ s ∈ l, s.size ≤ 140737488351232) : ∃ k, slotcodelaw02_IdentRepeated.f k l = some true := by
  obtain ⟨K, hbig⟩ : ∃ K, 1000000 ≤ K := ⟨_, Nat.le_refl _⟩
  refine ⟨K + 5, ?_⟩
  unfold slotcodelaw02_IdentRepeated.f
  rw [alive_true K, Option.bind_some, Option.bind_some, if_pos rfl]
  by_cases c : (l.length : Int) > 300
  · rw [if_pos c]
  · have hf : ident_Repeated.f l = some (repL [] l) := by unfold ident_Repeated.f; rw [if_pos ⟨by omega, fun s h => Nat.le_trans (hs s h) (by decide)⟩]
    have hr : slotcoderef02_Repeated.f (K + 5) l = some (repL [] l) := rrep l (by omega) l.length 0 (K + 5) (by omega) (by omega)
    rw [if_neg c, hf, Option.bind_some, hr, Option.bind_some]
    simp
end Go.Proofs.YtomngapjfkmjkaaDoor.Pure
