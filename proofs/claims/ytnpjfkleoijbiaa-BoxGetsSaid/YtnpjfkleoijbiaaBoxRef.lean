/- Plain facts: what the reference's functions of the chapter 15 compute, without memory. -/
import Derived.Test.YtnpjfkleoijbiaaPAllx16
import Derived.Test.YtnpjfkleoijbiaaPAllx15
import Derived.Test.YtnpjfkleoijbiaaPAllx14
import Derived.Test.YtnpjfkleoijbiaaBoxPure
namespace Go.Proofs.Ytnpjfkleoijbiaa.PAll
open Go.RowKit Go.Proofs.YtnpjfkleoijbiaaW.PrintWords Go.Proofs.YtnpjfkleoijbiaaW.PrintLast Go.Proofs.YtnpjfkleoijbiaaW.PrintMore

def c50 (s : S46) : S50 := ⟨s.f0, s.f1⟩
def c46 (s : S50) : S46 := ⟨s.f0, s.f1⟩
theorem c46_c50 (s : S46) : c46 (c50 s) = s := rfl
theorem c50_c46 (s : S50) : c50 (c46 s) = s := rfl
theorem map_46_50 (l : List S46) : (l.map c50).map c46 = l := by simp [List.map_map, Function.comp_def, c46_c50]
theorem map_50_46 (l : List S50) : (l.map c46).map c50 = l := by simp [List.map_map, Function.comp_def, c50_c46]
theorem rdT46_at (l : List S46) (i : Nat) (s : S46) (r : List S46) (h : l.drop i = s :: r) : rd_T46 l (i : Int) = s := by
  have : l[i]? = some s := by rw [← List.head?_drop, h]; rfl
  simp [rd_T46, List.getD_eq_getElem?_getD, this]
theorem sane46 (l : List S46) (h : Sane (l.map c50)) : l.length ≤ 1048576 ∧ ∀ s ∈ l, s.f1.length ≤ 1099511627776 :=
  ⟨by simpa using h.1, fun s hs => h.2 (c50 s) (List.mem_map_of_mem hs)⟩

theorem few_l0 (l : List S46) (hl : l.length ≤ 4398046511103) (t : List S46) : ∀ (i k : Nat), l.drop i = t → t.length < k → i ≤ l.length →
    slotcodelaw15_few.l0 k l l (l.length : Int) (i : Int) = some (decide (l.length ≤ 30) && t.all fun s => decide (s.f1.length ≤ 500)) ∨ slotcodelaw15_few.l0 k l l (l.length : Int) (i : Int) = some false := by
  induction t with
  | nil =>
    intro i k ht hk hi
    obtain ⟨k, rfl⟩ : ∃ m, k = m + 1 := ⟨k - 1, by omega⟩
    have : l.length ≤ i := List.drop_eq_nil_iff.mp ht
    left
    simp only [slotcodelaw15_few.l0]; rw [if_neg (by omega)]
    simp only [List.all_nil, Bool.and_true, Option.some.injEq, decide_eq_decide]; omega
  | cons s r ih =>
    intro i k ht hk hi
    obtain ⟨k, rfl⟩ : ∃ m, k = m + 1 := ⟨k - 1, by omega⟩
    obtain ⟨hd, hlt, hla⟩ := drop_next ht
    simp only [List.length_cons] at hk
    simp only [slotcodelaw15_few.l0]; rw [if_pos (by omega), if_pos (by omega), if_pos (by omega), rdT46_at l i s r ht]
    by_cases c : (s.f1.length : Int) > 500
    · right; rw [if_pos c]
    · rw [if_neg c, w64 _ (by omega) (by omega), show (i : Int) + 1 = ((i + 1 : Nat) : Int) by omega]
      rcases ih (i + 1) k hd (by omega) (by omega) with h | h
      · left; rw [h]; simp [show s.f1.length ≤ 500 by omega]
      · right; exact h
/-- few answers; where it says yes, the sections are few and short. -/
theorem few_f (l : List S46) (hl : l.length ≤ 4398046511103) : ∃ b, (∀ k, l.length < k → slotcodelaw15_few.f k l = some b) ∧ (b = true → l.length ≤ 30 ∧ ∀ s ∈ l, s.f1.length ≤ 500) := by
  have h0 : ∀ k, l.length < k → _ := fun k hk => few_l0 l hl l 0 k rfl hk (Nat.zero_le _)
  have hm : ∀ k r, slotcodelaw15_few.f k l = some r → ∀ j, slotcodelaw15_few.f (k + j) l = some r := by
    intro k r h j
    induction j with
    | zero => exact h
    | succ j ih => exact slotcodelaw15_few.mono l (k + j) r ih
  rcases h0 (l.length + 1) (by omega) with h | h
  · refine ⟨(decide (l.length ≤ 30) && l.all fun s => decide (s.f1.length ≤ 500)), fun k hk => ?_, fun hb => ?_⟩
    · have := hm (l.length + 1) _ h (k - (l.length + 1))
      rwa [show l.length + 1 + (k - (l.length + 1)) = k by omega] at this
    · simp only [Bool.and_eq_true, decide_eq_true_eq, List.all_eq_true] at hb
      exact ⟨hb.1, fun s hs => hb.2 s hs⟩
  · refine ⟨false, fun k hk => ?_, fun hb => by cases hb⟩
    have := hm (l.length + 1) _ h (k - (l.length + 1))
    rwa [show l.length + 1 + (k - (l.length + 1)) = k by omega] at this

theorem forward_l0 (l : List S46) (hl : l.length ≤ 1048576) (t : List S46) : ∀ (i k : Nat) (acc : List S50), l.drop i = t → t.length < k → i ≤ l.length → acc.length = i →
    slotcodelaw15_forward.l0 k acc l (l.length : Int) (i : Int) = some (acc ++ t.map c50) := by
  induction t with
  | nil =>
    intro i k acc ht hk hi ha
    obtain ⟨k, rfl⟩ : ∃ m, k = m + 1 := ⟨k - 1, by omega⟩
    have : l.length ≤ i := List.drop_eq_nil_iff.mp ht
    simp only [slotcodelaw15_forward.l0]; rw [if_neg (by omega)]; simp
  | cons s r ih =>
    intro i k acc ht hk hi ha
    obtain ⟨k, rfl⟩ : ∃ m, k = m + 1 := ⟨k - 1, by omega⟩
    obtain ⟨hd, hlt, hla⟩ := drop_next ht
    simp only [List.length_cons] at hk
    simp only [slotcodelaw15_forward.l0]; rw [if_pos (by omega), if_pos (by omega), if_pos (by omega), if_pos (by omega), rdT46_at l i s r ht, w64 _ (by omega) (by omega), show (i : Int) + 1 = ((i + 1 : Nat) : Int) by omega]
    rw [ih (i + 1) k _ hd (by omega) (by omega) (by simp [ha])]
    simp [c50]
theorem forward_f (l : List S46) (hl : l.length ≤ 1048576) (k : Nat) (hk : l.length < k) : slotcodelaw15_forward.f k l = some (l.map c50) := by
  have := forward_l0 l hl l 0 k [] rfl hk (Nat.zero_le _) rfl
  simpa [slotcodelaw15_forward.f] using this
theorem back_l0 (l : List S50) (hl : l.length ≤ 1048576) (t : List S50) : ∀ (i k : Nat) (acc : List S46), l.drop i = t → t.length < k → i ≤ l.length → acc.length = i →
    slotcodelaw15_back.l0 k acc l (l.length : Int) (i : Int) = some (acc ++ t.map c46) := by
  induction t with
  | nil =>
    intro i k acc ht hk hi ha
    obtain ⟨k, rfl⟩ : ∃ m, k = m + 1 := ⟨k - 1, by omega⟩
    have : l.length ≤ i := List.drop_eq_nil_iff.mp ht
    simp only [slotcodelaw15_back.l0]; rw [if_neg (by omega)]; simp
  | cons s r ih =>
    intro i k acc ht hk hi ha
    obtain ⟨k, rfl⟩ : ∃ m, k = m + 1 := ⟨k - 1, by omega⟩
    obtain ⟨hd, hlt, hla⟩ := drop_next ht
    simp only [List.length_cons] at hk
    simp only [slotcodelaw15_back.l0]; rw [if_pos (by omega), if_pos (by omega), if_pos (by omega), if_pos (by omega), rdT_at l i s r ht, w64 _ (by omega) (by omega), show (i : Int) + 1 = ((i + 1 : Nat) : Int) by omega]
    rw [ih (i + 1) k _ hd (by omega) (by omega) (by simp [ha])]
    simp [c46]
theorem back_f (l : List S50) (hl : l.length ≤ 1048576) (k : Nat) (hk : l.length < k) : slotcodelaw15_back.f k l = some (l.map c46) := by
  have := back_l0 l hl l 0 k [] rfl hk (Nat.zero_le _) rfl
  simpa [slotcodelaw15_back.f] using this

theorem rup_f (n : Nat) (h : n < 4611686018427387904) : slotcoderef15_up.f (n : Int) = some ((upN n : Nat) : Int) := by
  unfold slotcoderef15_up.f upN
  rw [w64 ((n : Int) + 7) (by omega) (by omega), Int.tdiv_eq_ediv_of_nonneg (by omega), w64 (((n : Int) + 7) / 8) (by omega) (by omega), w64 _ (by omega) (by omega)]
  congr 1
theorem rsize_l0 (l : List S46) (hs : Sane (l.map c50)) (t : List S46) : ∀ (i k acc : Nat), l.drop i = t → t.length < k → acc + datas (t.map c50) ≤ 2305843009213693952 → i ≤ l.length →
    slotcoderef15_Size.l0 k l (acc : Int) (i : Int) = some ((acc + datas (t.map c50) : Nat) : Int) := by
  have hs := sane46 l hs
  induction t with
  | nil =>
    intro i k acc ht hk _ hi
    obtain ⟨k, rfl⟩ : ∃ m, k = m + 1 := ⟨k - 1, by omega⟩
    have : l.length ≤ i := List.drop_eq_nil_iff.mp ht
    simp only [slotcoderef15_Size.l0]; rw [if_neg (by omega)]; simp [datas]
  | cons s r ih =>
    intro i k acc ht hk ha hi
    obtain ⟨k, rfl⟩ : ∃ m, k = m + 1 := ⟨k - 1, by omega⟩
    obtain ⟨hd, hlt, hl⟩ := drop_next ht
    have hb : s.f1.length ≤ 1099511627776 := hs.2 s (List.mem_of_mem_drop (i := i) (by rw [ht]; simp))
    have h1 := hs.1
    have hu := upN_ge s.f1.length
    simp only [List.length_cons] at hk
    simp only [slotcoderef15_Size.l0]; rw [if_pos (by omega), if_pos (by omega), rdT46_at l i s r ht, rup_f _ (by omega)]
    simp only [Option.bind_some]
    simp only [List.map_cons, datas] at ha ⊢
    have e : (c50 s).f1 = s.f1 := rfl
    rw [e] at ha ⊢
    rw [w64 _ (by omega) (by omega), w64 _ (by omega) (by omega)]
    have := ih (i + 1) k (acc + upN s.f1.length) hd (by omega) (by omega) (by omega)
    rw [Nat.add_assoc] at this
    rw [← this]; congr 1
theorem rsize_f (l : List S46) (hs : Sane (l.map c50)) (k : Nat) (hk : l.length < k) : slotcoderef15_Size.f k l = some ((wsize (l.map c50) : Nat) : Int) := by
  have h1 := (sane46 l hs).1
  have hw := wsize_bound (l.map c50) hs
  have hu := upN_ge (16 + 12 * l.length)
  unfold slotcoderef15_Size.f
  rw [w64 (12 * (l.length : Int)) (by omega) (by omega), w64 _ (by omega) (by omega), show (16 : Int) + 12 * (l.length : Int) = ((16 + 12 * l.length : Nat) : Int) by omega, rup_f _ (by omega)]
  simp only [Option.bind_some]
  have e : wsize (l.map c50) = upN (16 + 12 * l.length) + datas (l.map c50) := by simp [wsize, headN]
  rw [e] at hw ⊢
  exact rsize_l0 l hs l 0 k _ rfl hk hw (Nat.zero_le _)

/-- The kind ahead of place i (0 at the start). -/
def lastOf (l : List S46) (i : Nat) : Int := if i = 0 then 0 else (rd_T46 l ((i : Int) - 1)).f0
theorem rcheck_l0 (l : List S46) (hs : l.length ≤ 1048576) (t : List S46) : ∀ (i k : Nat), l.drop i = t → t.length < k → i ≤ l.length → 0 ≤ lastOf l i →
    slotcoderef15_Check.l0 k l (i : Int) = some (if kindsOk (lastOf l i) (t.map c50) then 0 else 4) := by
  induction t with
  | nil =>
    intro i k ht hk hi hl0
    obtain ⟨k, rfl⟩ : ∃ m, k = m + 1 := ⟨k - 1, by omega⟩
    have : l.length ≤ i := List.drop_eq_nil_iff.mp ht
    simp only [slotcoderef15_Check.l0]; rw [if_neg (by omega)]; simp [kindsOk]
  | cons s r ih =>
    intro i k ht hk hi hl0
    obtain ⟨k, rfl⟩ : ∃ m, k = m + 1 := ⟨k - 1, by omega⟩
    obtain ⟨hd, hlt, hl⟩ := drop_next ht
    simp only [List.length_cons] at hk
    have hr := rdT46_at l i s r ht
    have hlast : lastOf l (i + 1) = s.f0 := by
      unfold lastOf; rw [if_neg (by omega), show ((i + 1 : Nat) : Int) - 1 = (i : Int) by omega, hr]
    simp only [slotcoderef15_Check.l0]; rw [if_pos (by omega), if_pos (by omega), hr]
    have hk0 : kindsOk (lastOf l i) ((s :: r).map c50) = (decide (lastOf l i < s.f0) && decide (s.f0 ≤ 65535) && kindsOk s.f0 (r.map c50)) := rfl
    rw [hk0]
    by_cases c1 : s.f0 < 1
    · rw [if_pos c1, decide_eq_false (show ¬ lastOf l i < s.f0 by omega)]; rfl
    · rw [if_neg c1]
      by_cases c2 : s.f0 > 65535
      · rw [if_pos c2, decide_eq_false (show ¬ s.f0 ≤ 65535 by omega)]; simp
      · rw [if_neg c2, decide_eq_true (show s.f0 ≤ 65535 by omega)]
        have hnext := ih (i + 1) k hd (by omega) (by omega) (by rw [hlast]; omega)
        rw [hlast] at hnext
        have hw : wrap64 ((i : Int) + 1) = ((i + 1 : Nat) : Int) := by rw [w64 _ (by omega) (by omega)]; omega
        by_cases c3 : (i : Int) > 0
        · have e1 : wrap64 ((i : Int) - 1) = (i : Int) - 1 := w64 _ (by omega) (by omega)
          have e2 : lastOf l i = (rd_T46 l ((i : Int) - 1)).f0 := by unfold lastOf; rw [if_neg (by omega)]
          rw [if_pos c3, e1, if_pos (by omega), if_pos (by omega), ← e2]
          by_cases c4 : s.f0 ≤ lastOf l i
          · rw [if_pos c4, decide_eq_false (show ¬ lastOf l i < s.f0 by omega)]; rfl
          · rw [if_neg c4, hw, hnext, decide_eq_true (show lastOf l i < s.f0 by omega)]; rfl
        · have e2 : lastOf l i = 0 := by unfold lastOf; rw [if_pos (by omega)]
          rw [if_neg c3, hw, hnext, decide_eq_true (show lastOf l i < s.f0 by omega)]; rfl
theorem rcheck_f (l : List S46) (hs : Sane (l.map c50)) (k : Nat) (hk : l.length + 1 < k) : slotcoderef15_Check.f k l = some (wcheck (l.map c50)) := by
  have h1 := (sane46 l hs).1
  have hj : ∀ b : Bool, slotcoderef15_Check.j0 k l b = if b = true then some 16 else some (if kindsOk 0 (l.map c50) then 0 else 4) := by
    intro b
    obtain ⟨k, rfl⟩ : ∃ m, k = m + 1 := ⟨k - 1, by omega⟩
    simp only [slotcoderef15_Check.j0]
    split
    · rfl
    · exact rcheck_l0 l h1 l 0 k rfl (by omega) (Nat.zero_le _) (Int.le_refl _)
  unfold slotcoderef15_Check.f wcheck
  rw [List.length_map]
  by_cases c : (l.length : Int) > 16
  · rw [if_pos c, hj, if_pos rfl, if_pos (.inl (by omega))]
  · rw [if_neg c, rsize_f l hs k (by omega)]
    simp only [Option.bind_some]
    rw [hj]
    by_cases c2 : 1073741824 < wsize (l.map c50)
    · rw [if_pos (by simp; omega), if_pos (.inr c2)]
    · rw [if_neg (by simp; omega), if_neg (show ¬ (16 < l.length ∨ 1073741824 < wsize (l.map c50)) by omega)]

theorem le_cons (n : Nat) (x : Int) : le (n + 1) x = byteAt x 0 :: le n (x / 256) := by
  have h : ∀ i, byteAt x (i + 1) = byteAt (x / 256) i := by
    intro i
    unfold byteAt
    rw [show 8 * (i + 1) = 8 + 8 * i by omega, Int.pow_add, ← Int.ediv_ediv_of_nonneg (by decide)]
    rfl
  simp [le, List.range_succ_eq_map, List.map_map, Function.comp_def, h]
theorem number_l0 (n : Nat) (hn : n ≤ 8) : ∀ (d i k : Nat) (x : Int) (out : List Int), i + d = n → d < k → 0 ≤ x → x < 9223372036854775808 → out.length + d < 140737488355328 →
    slotcoderef15_number.l0 k out x (n : Int) (i : Int) = some (out ++ le d x) := by
  intro d
  induction d with
  | zero =>
    intro i k x out hi hk _ _ _
    obtain ⟨k, rfl⟩ : ∃ m, k = m + 1 := ⟨k - 1, by omega⟩
    simp only [slotcoderef15_number.l0]; rw [if_neg (by omega)]; simp [le]
  | succ d ih =>
    intro i k x out hi hk h0 h1 hl
    obtain ⟨k, rfl⟩ : ∃ m, k = m + 1 := ⟨k - 1, by omega⟩
    simp only [slotcoderef15_number.l0]
    have e1 : Int.tmod x 256 % 256 = byteAt x 0 := by rw [Int.tmod_eq_emod_of_nonneg h0]; unfold byteAt; simp
    rw [if_pos (by omega), if_pos (by omega), e1, Int.tdiv_eq_ediv_of_nonneg h0, w64 (x / 256) (by omega) (by omega), w64 _ (by omega) (by omega), show (i : Int) + 1 = ((i + 1 : Nat) : Int) by omega]
    rw [ih (i + 1) k (x / 256) _ (by omega) (by omega) (by omega) (by omega) (by simp; omega), le_cons]; simp
end Go.Proofs.Ytnpjfkleoijbiaa.PAll
