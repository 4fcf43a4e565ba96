/- StrtabInverts: what the printed functions answer. -/
import Derived.Test.YtbepheikefkaiaaStrRef3
namespace Go.Proofs.Ytbepheikefkaiaa.Pure
open Go.RowKit Go.Proofs.Ytbepheikefkaiaa.PAll Go.Proofs.YtbepheikefkaiaaW.PrintWords Go.Proofs.YtbepheikefkaiaaW.PrintLast

theorem invert_l0 (l : List ByteArray) (hl : l.length ≤ 1000000) (hz : (tableB l).length ≤ 1073741824) (hb : ∀ s ∈ l, badS s = false) (t : List ByteArray) : ∀ (i k : Nat), l.drop i = t → t.length < k → i ≤ l.length →
    (tableB l).drop (1 + tot (l.take i)) = textB t → offs 1 l = offs 1 (l.take i) ++ offs (1 + tot (l.take i)) t →
    slotcodelaw14_StrtabInverts.l0 k (tableB l) (offs 1 l) l (l.length : Int) (i : Int) = some true := by
  induction t with
  | nil =>
    intro i k ht hk hi _ _
    obtain ⟨k, rfl⟩ : ∃ m, k = m + 1 := ⟨k - 1, by omega⟩
    have : l.length ≤ i := List.drop_eq_nil_iff.mp ht
    have ha : slotcodelaw14_alive.f = some true := rfl
    simp only [slotcodelaw14_StrtabInverts.l0]
    rw [if_neg (by omega), ha]
    rfl
  | cons s r ih =>
    intro i k ht hk hi hd ho
    obtain ⟨k, rfl⟩ : ∃ m, k = m + 1 := ⟨k - 1, by omega⟩
    obtain ⟨hd2, hlt, hl2⟩ := drop_next ht
    simp only [List.length_cons] at hk
    have hs := hb s (List.mem_of_mem_drop (i := i) (by rw [ht]; simp))
    have hol : (offs 1 (l.take i)).length = i := by rw [offs_length, List.length_take]; omega
    have hrd : rd (offs 1 l) (i : Int) = ((1 + tot (l.take i) : Nat) : Int) := by
      refine rd_at (offs 1 l) i _ (offs (1 + tot (l.take i) + s.size + 1) r) ?_
      rw [ho, List.drop_append_of_le_length (by omega), List.drop_of_length_le (by omega)]
      rfl
    have hd' : (tableB l).drop (1 + tot (l.take i)) = bytesOf s ++ 0 :: textB r := by rw [hd]; simp [textB]
    have hg : strtab_Get.f (tableB l) ((1 + tot (l.take i) : Nat) : Int) = some (s, 0) := by
      unfold strtab_Get.f
      rw [if_pos (by omega), getR_text _ _ s _ hd' hs]
    have htk : tot (l.take (i + 1)) = tot (l.take i) + s.size + 1 := by
      have h := (tot_take l i hlt).1
      rw [rdS_at l i s r ht] at h
      exact h
    have hol2 : (offs 1 l).length = l.length := offs_length _ _
    simp only [slotcodelaw14_StrtabInverts.l0]
    rw [if_pos (by omega), if_pos (by omega), if_pos (by omega), if_pos (by omega), hrd, hg]
    simp only [Option.bind_some]
    rw [rdS_at l i s r ht, if_pos (by trivial), if_pos (by trivial), w64 _ (by omega) (by omega), show (i : Int) + 1 = ((i + 1 : Nat) : Int) by omega]
    refine ih (i + 1) k hd2 (by omega) (by omega) ?_ ?_
    · rw [htk, show 1 + (tot (l.take i) + s.size + 1) = 1 + tot (l.take i) + s.size + 1 by omega]
      exact drop_text _ _ s _ hd'
    · rw [htk, ho]
      have hi2 : l[i]? = some s := by rw [← List.head?_drop, ht]; rfl
      rw [List.take_add_one, hi2, offs_append]
      simp [offs, Nat.add_assoc]
/-- StrtabInverts: Parse inverts Build, and Get answers each text at its offset. -/
theorem StrtabInverts (l : List ByteArray) (hl : l.length ≤ 8796093022207) (hs : ∀ s ∈ l, s.size ≤ 140737488351232) : ∃ k, slotcodelaw14_StrtabInverts.f k l = some true := by
  obtain ⟨K, hbig⟩ : ∃ K, l.length + 1000000 ≤ K := ⟨_, Nat.le_refl _⟩
  refine ⟨K, ?_⟩
  unfold slotcodelaw14_StrtabInverts.f
  have ha : slotcodelaw14_alive.f = some true := rfl
  rw [few_f l hl hs K (by omega)]
  simp only [Option.bind_some]
  by_cases c : sz l ≤ 3000 ∧ l.length ≤ 300
  · have ht2 := tot_sz l
    have hf : strtab_Build.f l = some (resB l) := by unfold strtab_Build.f; rw [if_pos (show Few l by unfold Few; omega)]
    rw [decide_eq_true c.1, decide_eq_true c.2, if_pos (by rfl), hf]
    simp only [Option.bind_some]
    by_cases hany : l.any badS = true
    · have e : resB l = ([], [], 7) := by unfold resB; rw [if_pos hany]
      rw [e, if_neg (by decide), ha]
      rfl
    · have e : resB l = (tableB l, offs 1 l, 0) := by unfold resB; rw [if_neg hany]
      have hb : ∀ s ∈ l, badS s = false := fun s hs => by
        cases h : badS s with
        | false => rfl
        | true => exact absurd (List.any_eq_true.2 ⟨s, hs, h⟩) hany
      have hlen : (tableB l).length ≤ 4000 := by simp only [tableB, List.length_cons, textB_length]; omega
      have hp : strtab_Parse.f (tableB l) = some (l, offs 1 l, 0) := by unfold strtab_Parse.f; rw [if_pos (by omega), parse_table l hb]
      have hne : (((offs 1 l).length : Int) != (l.length : Int)) = false := bne_eq_false_iff_eq.mpr (by rw [offs_length])
      rw [e, if_pos (by trivial), hp]
      simp only [Option.bind_some]
      rw [if_pos (by trivial), eqs_f _ _ (by omega) K (by omega), decide_eq_true rfl]
      simp only [Option.bind_some]
      rw [if_pos (by trivial), hne]
      obtain ⟨K, rfl⟩ : ∃ m, K = m + 1 := ⟨K - 1, by omega⟩
      simp only [slotcodelaw14_StrtabInverts.j0]
      rw [if_neg (by decide)]
      exact invert_l0 l (by omega) (by omega) hb l 0 K rfl (by omega) (Nat.zero_le _) rfl (by simp [offs, tot])
  · have : (decide (sz l ≤ 3000) && decide (l.length ≤ 300)) = false := by
      rw [Bool.and_eq_false_iff, decide_eq_false_iff_not, decide_eq_false_iff_not]; omega
    rw [this, if_neg (by decide), ha]; rfl
end Go.Proofs.Ytbepheikefkaiaa.Pure
