/- LexLines: what the printed functions answer. -/
import Derived.Test.YtdjljggdbflohaaDoorLexRef2
import Derived.Test.YtdjljggdbflohaaDoorPAllx17
import Derived.Test.YtdjljggdbflohaaDoorPAllx11
import Derived.Test.YtdjljggdbflohaaDoorPAllx18
set_option linter.unusedVariables false
namespace Go.Proofs.YtdjljggdbflohaaDoor.Pure
open Go.RowKit Go.Proofs.YtdjljggdbflohaaDoor.PAll Go.Proofs.YtdjljggdbflohaaDoorW.PrintWords Go.Proofs.YtdjljggdbflohaaDoorW.PrintLast
theorem cut_at (p r : List UInt8) (h : ∀ b ∈ p, b ≠ 10) : cutL (p ++ 10 :: r) = (p, r) := by
  induction p with
  | nil => rfl
  | cons b p ih =>
    have e := ih (fun x hx => h x (List.mem_cons_of_mem _ hx))
    simp only [List.cons_append, cutL]
    rw [if_neg (h b List.mem_cons_self), e]
theorem cut_no (p : List UInt8) (h : ∀ b ∈ p, b ≠ 10) : cutL p = (p, []) := by
  induction p with
  | nil => rfl
  | cons b p ih =>
    have e := ih (fun x hx => h x (List.mem_cons_of_mem _ hx))
    simp only [cutL]
    rw [if_neg (h b List.mem_cons_self), e]
theorem lines_nil (k : Nat) : linesL k [] = [] := by cases k <;> rfl
theorem ext_at (s : ByteArray) (a b : Nat) (hab : a ≤ b) (hb : b ≤ s.size) (p r : List UInt8) (h : s.data.toList.drop a = p ++ r) (hp : p.length = b - a) : s.extract a b = ⟨p.toArray⟩ := by
  refine ba_eq _ _ ?_
  rw [Lib.extract_data, h, List.take_append_of_le_length (by omega), List.take_of_length_le (by omega)]
theorem rlines_l0 (s : ByteArray) (hs : s.size ≤ 20000) : ∀ (d i f k K : Nat) (acc : List ByteArray) (p r : List UInt8), d + i = s.size → d < K → s.size - f < k → f ≤ i → s.data.toList.drop f = p ++ r → p.length = i - f → (∀ b ∈ p, b ≠ 10) → acc.length ≤ i →
    slotcoderef08_Lines.l0 K s acc (f : Int) (i : Int) = some (acc ++ linesL k (s.data.toList.drop f)) := by
  have hlen : s.data.toList.length = s.size := data_length s
  intro d
  induction d with
  | zero =>
    intro i f k K acc p r hd hK hk hf hp hpl hno hacc
    obtain ⟨K, rfl⟩ : ∃ m, K = m + 1 := ⟨K - 1, by omega⟩
    obtain ⟨k, rfl⟩ : ∃ m, k = m + 1 := ⟨k - 1, by omega⟩
    have hl := congrArg List.length hp
    rw [List.length_drop, List.length_append] at hl
    obtain rfl : r = [] := List.eq_nil_of_length_eq_zero (by omega)
    simp only [slotcoderef08_Lines.l0]
    rw [if_neg (by omega)]
    simp only [linesL]
    by_cases hlt : f < s.size
    · rw [if_pos (by omega), if_pos (by omega), if_pos (by omega), if_pos (by omega), if_neg (by rw [List.length_drop]; omega), hp, List.append_nil, cut_no p hno, lines_nil, Int.toNat_natCast, ext_at s f s.size (by omega) (Nat.le_refl _) p [] hp (by omega)]
    · rw [if_neg (by omega), if_pos (by rw [List.length_drop]; omega), List.append_nil]
  | succ d ih =>
    intro i f k K acc p r hd hK hk hf hp hpl hno hacc
    obtain ⟨K, rfl⟩ : ∃ m, K = m + 1 := ⟨K - 1, by omega⟩
    obtain ⟨k, rfl⟩ : ∃ m, k = m + 1 := ⟨k - 1, by omega⟩
    have e1 := Aside0.mk (show wrap64 ((i : Int) + 1) = ((i + 1 : Nat) : Int) by rw [iw64 _ (by omega) (by omega)]; omega)
    have hdi : s.data.toList.drop i = r := by
      have : s.data.toList.drop i = (s.data.toList.drop f).drop (i - f) := by rw [List.drop_drop]; congr 1; omega
      rw [this, hp, ← hpl, List.drop_left]
    cases r with
    | nil =>
      have := List.drop_eq_nil_iff.mp hdi
      omega
    | cons b r =>
      obtain ⟨hdn, hlt, hl2⟩ := idrop_next hdi
      simp only [slotcoderef08_Lines.l0]
      rw [if_pos (by omega), if_pos (by omega), ibt_cons s i b r hdi, e1.out]
      by_cases hb : b = 10
      · subst hb
        rw [if_pos (by rfl), if_pos (by omega), if_pos (by omega), if_pos (by omega), if_pos (by omega), Int.toNat_natCast, Int.toNat_natCast, ext_at s f i hf (by omega) p (10 :: r) hp hpl]
        rw [ih (i + 1) (i + 1) k K _ [] r (by omega) (by omega) (by omega) (Nat.le_refl _) hdn (by simp) (by simp) (by simp; omega)]
        simp only [linesL]
        rw [if_neg (by rw [List.length_drop]; omega), hp, cut_at p r hno, hdn]
        simp
      · rw [if_neg (by intro h; exact hb (UInt8.toNat_inj.1 (by show b.toNat = 10; omega)))]
        exact ih (i + 1) f (k + 1) K acc (p ++ [b]) r (by omega) (by omega) hk (by omega) (by rw [hp]; simp) (by simp; omega) (fun x hx => by rcases List.mem_append.1 hx with h | h; exact hno x h; rw [List.mem_singleton.1 h]; exact hb) (by omega)
theorem rlines_f (s : ByteArray) (hs : s.size ≤ 20000) (K : Nat) (hK : s.size < K) : slotcoderef08_Lines.f K s = some (linesL (s.size + 1) s.data.toList) := by
  have h := rlines_l0 s hs s.size 0 0 (s.size + 1) K [] [] s.data.toList rfl hK (by omega) (Nat.le_refl _) rfl rfl (by simp) (Nat.le_refl _)
  exact h
/-- LexLines: Lines answers the lines of the reference. -/
theorem LexLines : slotcodelaw08_LexLines.Pure := by
  intro s hs
  obtain ⟨K, hbig⟩ : ∃ K, 5 * s.size + 100 ≤ K := ⟨_, Nat.le_refl _⟩
  refine ⟨K + 9, ?_⟩
  unfold slotcodelaw08_LexLines.f
  by_cases hb : (s.size : Int) > 20000
  · rw [if_pos hb, alive_true]; rfl
  · have hl := linesL_len (s.size + 1) s.data.toList
    have hd := data_length s
    have hf : lex_Lines.f s = some (linesL (s.size + 1) s.data.toList) := by unfold lex_Lines.f; rw [if_pos (by omega)]
    rw [if_neg hb, alive_true, Option.bind_some, if_pos rfl, hf, Option.bind_some, rlines_f s (by omega) (K + 9) (by omega), Option.bind_some, eqself_f _ (by omega) (K + 9) (by omega)]
    rfl
end Go.Proofs.YtdjljggdbflohaaDoor.Pure
