/- StrtabBuilds: what the printed functions answer. -/
import Derived.Test.YtbepheikefkaiaaStrRef2
namespace Go.Proofs.Ytbepheikefkaiaa.Pure
open Go.RowKit Go.Proofs.Ytbepheikefkaiaa.PAll Go.Proofs.YtbepheikefkaiaaW.PrintWords Go.Proofs.YtbepheikefkaiaaW.PrintLast

theorem alive_true : slotcodelaw14_alive.f = some true := rfl
theorem builds_l0 (l : List ByteArray) (hl : l.length ≤ 300) (hs : ∀ s ∈ l, s.size ≤ 140737488351232) (hz : sz l ≤ 3000) (hS : ∀ s ∈ l, s.size ≤ 3000) (t : List ByteArray) : ∀ (i k : Nat), l.drop i = t → t.length + 10000 < k → i ≤ l.length → (∀ s ∈ l.take i, badS s = false) →
    slotcodelaw14_StrtabBuilds.l0 k l (resB l).1 (resB l).2.1 (resB l).2.2 l (l.length : Int) (i : Int) = some true := by
  induction t with
  | nil =>
    intro i k ht hk hi hb
    obtain ⟨k, rfl⟩ : ∃ m, k = m + 1 := ⟨k - 1, by omega⟩
    have hle : l.length ≤ i := List.drop_eq_nil_iff.mp ht
    obtain rfl : i = l.length := by omega
    rw [List.take_length] at hb
    have hall : l.any badS = false := List.any_eq_false.2 fun s hs => by rw [hb s hs]; decide
    have e : resB l = (tableB l, offs 1 l, 0) := by unfold resB; rw [if_neg (by rw [hall]; decide)]
    have ht2 := tot_sz l
    have h1 : (tableB l).length ≤ 4000 := by simp [tableB, textB_length]; omega
    have h2 : (offs 1 l).length ≤ 4000 := by rw [offs_length]; omega
    rw [e]
    simp only [slotcodelaw14_StrtabBuilds.l0]
    rw [if_neg (by omega), rbuild_f l (by omega) (by omega) k (by omega)]
    simp only [Option.bind_some]
    rw [alive_true]
    simp only [Option.bind_some]
    rw [if_pos (by trivial), if_pos (by trivial), same_f _ _ (by omega) k (by omega), decide_eq_true rfl]
    simp only [Option.bind_some]
    rw [if_pos (by trivial), eqi_f _ _ (by omega) k (by omega), decide_eq_true rfl]
    rfl
  | cons s r ih =>
    intro i k ht hk hi hb
    obtain ⟨k, rfl⟩ : ∃ m, k = m + 1 := ⟨k - 1, by omega⟩
    obtain ⟨hd, hlt, hl2⟩ := drop_next ht
    have hm : s ∈ l := List.mem_of_mem_drop (i := i) (by rw [ht]; simp)
    have h3 := hS s hm
    simp only [List.length_cons] at hk
    simp only [slotcodelaw14_StrtabBuilds.l0]
    rw [if_pos (by omega), if_pos (by omega), if_pos (by omega), rdS_at l i s r ht, right_f s (hs s hm) k (by omega)]
    simp only [Option.bind_some]
    by_cases c : badS s = true
    · have hany : l.any badS = true := List.any_eq_true.2 ⟨s, hm, c⟩
      have e : resB l = ([], [], 7) := by unfold resB; rw [if_pos hany]
      rw [c, if_neg (by decide), alive_true, e]
      rfl
    · have c' : badS s = false := by simpa using c
      rw [c', if_pos (by rfl), w64 _ (by omega) (by omega), show (i : Int) + 1 = ((i + 1 : Nat) : Int) by omega]
      refine ih (i + 1) k hd (by omega) (by omega) fun x hx => ?_
      rw [List.take_add_one] at hx
      have hi2 : l[i]? = some s := by rw [← List.head?_drop, ht]; rfl
      rw [hi2] at hx
      rcases List.mem_append.1 hx with h | h
      · exact hb x h
      · have : x = s := by simpa using h
        rw [this]; exact c'
theorem sz_mem (l : List ByteArray) : ∀ s ∈ l, s.size ≤ sz l := by
  induction l with
  | nil => intro s hs; cases hs
  | cons a r ih =>
    intro s hs
    rcases List.mem_cons.1 hs with rfl | hs
    · simp only [sz]; omega
    · have := ih s hs; simp only [sz]; omega
/-- StrtabBuilds: the table and the offsets are the reference's, or the error. -/
theorem StrtabBuilds (l : List ByteArray) (hl : l.length ≤ 8796093022207) (hs : ∀ s ∈ l, s.size ≤ 140737488351232) : ∃ k, slotcodelaw14_StrtabBuilds.f k l = some true := by
  obtain ⟨K, hbig⟩ : ∃ K, l.length + 1000000 ≤ K := ⟨_, Nat.le_refl _⟩
  refine ⟨K, ?_⟩
  unfold slotcodelaw14_StrtabBuilds.f
  rw [few_f l hl hs K (by omega)]
  simp only [Option.bind_some]
  by_cases c : sz l ≤ 3000 ∧ l.length ≤ 300
  · have ht2 := tot_sz l
    have hf : strtab_Build.f l = some (resB l) := by unfold strtab_Build.f; rw [if_pos (show Few l by unfold Few; omega)]
    rw [decide_eq_true c.1, decide_eq_true c.2, if_pos (by rfl), hf]
    simp only [Option.bind_some]
    exact builds_l0 l c.2 hs c.1 (fun s h => Nat.le_trans (sz_mem l s h) c.1) l 0 K rfl (by omega) (Nat.zero_le _) (fun s h => by simp at h)
  · have : (decide (sz l ≤ 3000) && decide (l.length ≤ 300)) = false := by
      rw [Bool.and_eq_false_iff, decide_eq_false_iff_not, decide_eq_false_iff_not]; omega
    rw [this, if_neg (by decide), alive_true]; rfl
end Go.Proofs.Ytbepheikefkaiaa.Pure
