/- IdentFresh: what the printed functions answer. -/
import Derived.Test.YtomngapjfkmjkaaDoorIdRef2
import Derived.Test.YtomngapjfkmjkaaDoorPAllx21
import Derived.Test.YtomngapjfkmjkaaDoorPAllx20
namespace Go.Proofs.YtomngapjfkmjkaaDoor.Pure
open Go.RowKit Go.Proofs.YtomngapjfkmjkaaDoor.PAll Go.Proofs.YtomngapjfkmjkaaDoorW.PrintWords Go.Proofs.YtomngapjfkmjkaaDoorW.PrintLast

def freshL (v : Int) : List UInt8 := if v < 0 ∨ v > 2147483648 then [] else 76 :: Lib.itoa v
theorem fresh_some (v : Int) : ∃ n : ByteArray, ident_Fresh.f v = some n ∧ n.data.toList = freshL v := by
  unfold ident_Fresh.f freshL
  by_cases h1 : v < 0
  · rw [if_pos h1, if_pos (.inl h1)]; exact ⟨_, rfl, rfl⟩
  · rw [if_neg h1]
    by_cases h2 : v > 2147483648
    · rw [if_pos h2, if_pos (.inr h2)]; exact ⟨_, rfl, rfl⟩
    · rw [if_neg h2, if_neg (by omega)]
      have hl := Lib.itoa_length_le v (by omega) (by omega)
      have hsz : (⟨(Lib.itoa v).toArray⟩ : ByteArray).size = (Lib.itoa v).length := by rw [← data_length]
      unfold strconv_Itoa_24.f
      rw [if_pos ⟨by omega, by omega⟩, Option.bind_some, if_pos (by rw [hsz]; omega)]
      exact ⟨_, rfl, by simp⟩
theorem rfresh_some (v : Int) (h0 : -9223372036854775808 ≤ v) (h1 : v < 9223372036854775808) (k : Nat) (hk : 100 < k) : ∃ n : ByteArray, slotcoderef02_Fresh.f k v = some n ∧ n.data.toList = freshL v := by
  unfold slotcoderef02_Fresh.f freshL
  by_cases c1 : v < 0
  · rw [if_pos c1, if_pos (.inl c1)]; exact ⟨_, rfl, rfl⟩
  · rw [if_neg c1]
    by_cases c2 : v > 2147483648
    · rw [if_pos c2, if_pos (.inr c2)]; exact ⟨_, rfl, rfl⟩
    · rw [if_neg c2, if_neg (by omega)]
      obtain ⟨r, hr1, hr2⟩ := fmt_f v h0 h1 k hk
      have hl := Lib.itoa_length_le v h0 (by omega)
      have hsz : r.size = (Lib.itoa v).length := by rw [← data_length, hr2]
      rw [hr1, Option.bind_some, if_pos (by rw [hsz]; omega)]
      exact ⟨_, rfl, by simp [hr2]⟩
def valD (l : List UInt8) : Nat := l.foldl (fun v b => v * 10 + (b.toNat - 48)) 0
theorem valD_dec : ∀ (n u : Nat), u < 10 ^ n → valD (Lib.decDigits u) = u := by
  intro n
  induction n with
  | zero =>
    intro u hu
    obtain rfl : u = 0 := by simpa using hu
    rw [Lib.decDigits_one (by omega)]
    rfl
  | succ n ih =>
    intro u hu
    by_cases h : u < 10
    · rw [Lib.decDigits_one h]
      unfold valD
      simp only [List.foldl_cons, List.foldl_nil]
      rw [dig_nat u h]
      omega
    · rw [Lib.decDigits, dif_neg h]
      have := ih (u / 10) (by rw [Nat.pow_succ] at hu; omega)
      unfold valD at this ⊢
      rw [List.foldl_append, this]
      simp only [List.foldl_cons, List.foldl_nil]
      rw [dig_nat (u % 10) (by omega)]
      omega
theorem word_all (l : List UInt8) (h : ∀ b ∈ l, inW b.toNat = true) : wordN l = l.length := by
  induction l with
  | nil => rfl
  | cons b r ih =>
    simp only [wordN]
    rw [if_pos (h b (by simp)), ih (fun x hx => h x (by simp [hx]))]
    rfl
theorem inW_dig : ∀ n : Fin 256, 48 ≤ n.1 → n.1 ≤ 57 → inW (n.1 : Int) = true := by decide +kernel
theorem fresh_valid (v : Int) (h0 : 0 ≤ v) (h1 : v ≤ 2147483648) : validB (freshL v) = true := by
  have e : freshL v = 76 :: Lib.decDigits v.toNat := by unfold freshL; rw [if_neg (by omega), Lib.itoa, if_neg (by omega)]
  have hp : (10 : Nat) ^ 10 = 10000000000 := by decide
  obtain ⟨c1, c2⟩ := dec_chars 10 v.toNat (by omega)
  have hl := Lib.itoa_length_le v (by omega) (by omega)
  rw [Lib.itoa, if_neg (by omega)] at hl
  have hw : wordN (76 :: Lib.decDigits v.toNat) = (76 :: Lib.decDigits v.toNat).length := by
    refine word_all _ fun b hb => ?_
    rcases List.mem_cons.1 hb with rfl | hb
    · decide +kernel
    · obtain ⟨g1, g2⟩ := c1 b hb
      exact inW_dig ⟨b.toNat, b.toNat_lt⟩ g1 g2
  have hr : regR (76 :: Lib.decDigits v.toNat) = (0, false) := by
    unfold regR
    rw [if_pos (.inr (by show (76 : UInt8) ≠ 114; decide))]
  rw [e]
  unfold validB
  rw [hw, hr, decide_eq_true (by simp), decide_eq_true (by simp; omega), decide_eq_true rfl]
  rfl
/-- IdentFresh: Fresh answers the text of the reference, which is an identifier. -/
theorem IdentFresh : slotcodelaw02_IdentFresh.Pure := by
  intro n m hn hm
  obtain ⟨n0, n1⟩ := ii64_wf hn
  obtain ⟨m0, m1⟩ := ii64_wf hm
  obtain ⟨K, hbig⟩ : ∃ K, 1000 ≤ K := ⟨_, Nat.le_refl _⟩
  obtain ⟨a, ha1, ha2⟩ := fresh_some n
  obtain ⟨b, hb1, hb2⟩ := fresh_some m
  obtain ⟨c, hc1, hc2⟩ := rfresh_some n n0 n1 (K + 5) (by omega)
  refine ⟨K + 5, ?_⟩
  unfold slotcodelaw02_IdentFresh.f
  rw [ha1, Option.bind_some, hb1, Option.bind_some, alive_true K, Option.bind_some, if_pos rfl, hc1, Option.bind_some, if_pos (by rw [Lib.toList_data, Lib.toList_data, ha2, hc2])]
  by_cases hr : n < 0 ∨ n > 2147483648
  · rw [if_pos (by rw [Lib.toList_data, ha2, freshL, if_pos hr])]
  · have hne : ¬ a.toList = [] := by rw [Lib.toList_data, ha2, freshL, if_neg hr]; simp
    have hv := fresh_valid n (by omega) (by omega)
    have hlen : a.size ≤ 140737488355328 := by
      have hl := Lib.itoa_length_le n n0 (by omega)
      rw [← data_length, ha2, freshL, if_neg hr, List.length_cons]; omega
    rw [if_neg hne, show K + 5 = (K + 4) + 1 by omega, valid_f (K + 4) a hlen, Option.bind_some, ha2, hv, if_pos rfl, Lib.toList_data, Lib.toList_data, ha2, hb2]
    have hq : (freshL n == freshL m) = (n == m) := by
      by_cases e : n = m
      · subst e; simp
      · have hf : freshL n ≠ freshL m := by
          intro h
          apply e
          unfold freshL at h
          rw [if_neg hr] at h
          by_cases hs : m < 0 ∨ m > 2147483648
          · rw [if_pos hs] at h; cases h
          · rw [if_neg hs] at h
            have h' : Lib.itoa n = Lib.itoa m := (List.cons.inj h).2
            rw [Lib.itoa, if_neg (by omega), Lib.itoa, if_neg (by omega)] at h'
            have hp : (10 : Nat) ^ 10 = 10000000000 := by decide
            have v1 := valD_dec 10 n.toNat (by omega)
            have v2 := valD_dec 10 m.toNat (by omega)
            rw [h', v2] at v1
            omega
        rw [beq_eq_false_iff_ne.2 hf, beq_eq_false_iff_ne.2 e]
    rw [hq]
    simp
end Go.Proofs.YtomngapjfkmjkaaDoor.Pure
