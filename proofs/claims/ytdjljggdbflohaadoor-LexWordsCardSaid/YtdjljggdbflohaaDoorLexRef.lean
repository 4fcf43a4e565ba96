/- Plain facts: tokens, words, the reference's tokens. -/
import Derived.Test.YtdjljggdbflohaaDoorPAllx12
import Derived.Test.YtdjljggdbflohaaDoorPAllx13
import Derived.Test.YtdjljggdbflohaaDoorPAllx13
import Derived.Test.YtdjljggdbflohaaDoorPAllx13
import Derived.Test.YtdjljggdbflohaaDoorPAllx13
import Derived.Test.YtdjljggdbflohaaDoorPAllx4
set_option linter.unusedVariables false
set_option linter.unusedSimpArgs false
namespace Go.Proofs.YtdjljggdbflohaaDoor.PAll
open Go.RowKit Go.Proofs.YtdjljggdbflohaaDoorW.PrintWords Go.Proofs.YtdjljggdbflohaaDoorW.PrintLast Go.Proofs.YtdjljggdbflohaaDoorW.PrintMore
theorem alive_true (m : Nat) : slotcodelaw08_alive.f (m + 9) = some true := by kernel_rfl
theorem iw64 (x : Int) (h0 : -9223372036854775808 ≤ x) (h1 : x < 9223372036854775808) : wrap64 x = x := by unfold wrap64; omega
theorem in_at : ∀ n : Fin 256, slotcoderef02_in.f (n.1 : Int) = some (inW (n.1 : Int)) := by decide +kernel
theorem in_f (b : UInt8) : slotcoderef02_in.f (b.toNat : Int) = some (inW b.toNat) := in_at ⟨b.toNat, b.toNat_lt⟩
theorem idrop_next {α : Type} {l : List α} {i : Nat} {s : α} {r : List α} (h : l.drop i = s :: r) : l.drop (i + 1) = r ∧ i < l.length ∧ l.length = i + 1 + r.length := by
  have h1 : l.drop (i + 1) = (l.drop i).drop 1 := by rw [List.drop_drop]
  have h2 := congrArg List.length h
  rw [List.length_drop, List.length_cons] at h2
  refine ⟨by rw [h1, h]; rfl, by omega, by omega⟩
theorem ibt_cons (s : ByteArray) (i : Nat) (b : UInt8) (r : List UInt8) (h : s.data.toList.drop i = b :: r) : bt s (i : Int) = (b.toNat : Int) := by
  obtain ⟨_, hlt, _⟩ := idrop_next h
  rw [← rd_bytesOf]
  have : (bytesOf s)[i]? = some (b.toNat : Int) := by
    unfold bytesOf
    rw [List.getElem?_map, ← List.head?_drop, h]; rfl
  simp [rd, List.getD_eq_getElem?_getD, this]
theorem rword_l0 (s : ByteArray) (hs : s.size ≤ 140737488355328) (t : List UInt8) : ∀ (i k : Nat), s.data.toList.drop i = t → t.length < k → i ≤ s.size → slotcoderef02_Word.l0 k s (i : Int) = some ((i + wordN t : Nat) : Int) := by
  have hlen : s.data.toList.length = s.size := data_length s
  induction t with
  | nil =>
    intro i k ht hk hi
    obtain ⟨k, rfl⟩ : ∃ m, k = m + 1 := ⟨k - 1, by omega⟩
    have : s.data.toList.length ≤ i := List.drop_eq_nil_iff.mp ht
    simp only [slotcoderef02_Word.l0]
    rw [if_neg (by omega)]
    rfl
  | cons b r ih =>
    intro i k ht hk hi
    obtain ⟨k, rfl⟩ : ∃ m, k = m + 1 := ⟨k - 1, by omega⟩
    obtain ⟨hd, hlt, hl2⟩ := idrop_next ht
    simp only [List.length_cons] at hk
    simp only [slotcoderef02_Word.l0]
    rw [if_pos (by omega), if_pos (by omega), ibt_cons s i b r ht, in_f, Option.bind_some]
    by_cases h : inW b.toNat = true
    · rw [if_pos h, iw64 _ (by omega) (by omega), show (i : Int) + 1 = ((i + 1 : Nat) : Int) by omega, ih (i + 1) k hd (by omega) (by omega)]
      simp only [wordN]
      rw [if_pos h]
      congr 2
      omega
    · rw [if_neg h]
      simp only [wordN]
      rw [if_neg h]
      rfl
theorem rword_f (s : ByteArray) (hs : s.size ≤ 140737488355328) (k : Nat) (hk : s.size < k) : slotcoderef02_Word.f k s = some (wordN s.data.toList : Int) := by
  have h := rword_l0 s hs s.data.toList 0 k rfl (by rw [data_length]; omega) (Nat.zero_le _)
  rw [Nat.zero_add] at h
  exact h
/-! ### the tokens -/
def tk : Nat → List UInt8 → Nat → List S31 × Option Nat
  | 0, _, _ => ([], none)
  | _ + 1, [], _ => ([], none)
  | k + 1, b :: r, i =>
    if wordN (b :: r) ≠ 0 then (⟨⟨((b :: r).take (wordN (b :: r))).toArray⟩, i⟩ :: (tk k ((b :: r).drop (wordN (b :: r))) (i + wordN (b :: r))).1, (tk k ((b :: r).drop (wordN (b :: r))) (i + wordN (b :: r))).2)
    else if litI litM b.toNat = true then (⟨⟨#[b]⟩, i⟩ :: (tk k r (i + 1)).1, (tk k r (i + 1)).2)
    else if litI litC b.toNat = true then ([], none)
    else if litI litS b.toNat = true then tk k r (i + 1)
    else ([], some i)
theorem tkS_low (l : List UInt8) : ∀ (i nx nx' : Nat), nx ≤ i → nx' ≤ i → tkS l i nx = tkS l i nx' := by
  induction l with
  | nil => intro i nx nx' _ _; rfl
  | cons b r ih =>
    intro i nx nx' h h'
    simp only [tkS]
    rw [if_neg (show ¬ i < nx by omega), if_neg (show ¬ i < nx' by omega), ih (i + 1) nx nx' (by omega) (by omega)]
theorem tkS_skip : ∀ (m : Nat) (l : List UInt8) (i : Nat), m ≤ l.length → tkS l i (i + m) = tkS (l.drop m) (i + m) (i + m)
  | 0, l, i, _ => rfl
  | m + 1, [], i, h => by simp at h
  | m + 1, b :: r, i, h => by
    simp only [List.length_cons] at h
    have ih := tkS_skip m r (i + 1) (by omega)
    simp only [tkS, List.drop_succ_cons]
    rw [if_pos (by omega), show i + (m + 1) = i + 1 + m by omega, ih]
theorem tkS_tk : ∀ (k : Nat) (l : List UInt8) (i nx : Nat), l.length < k → nx ≤ i → tkS l i nx = tk k l i
  | 0, l, i, nx, h, _ => by omega
  | k + 1, [], i, nx, _, _ => rfl
  | k + 1, b :: r, i, nx, h, hn => by
    simp only [List.length_cons] at h
    have hle := wordN_le (b :: r)
    simp only [List.length_cons] at hle
    simp only [tkS, tk]
    rw [if_neg (by omega), ← tkS_tk k r (i + 1) nx (by omega) (by omega)]
    by_cases hw : wordN (b :: r) ≠ 0
    · rw [if_pos hw, if_pos hw]
      have e : tkS r (i + 1) (i + wordN (b :: r)) = tk k ((b :: r).drop (wordN (b :: r))) (i + wordN (b :: r)) := by
        obtain ⟨m, hm⟩ : ∃ m, wordN (b :: r) = m + 1 := ⟨wordN (b :: r) - 1, by omega⟩
        rw [hm, List.drop_succ_cons, show i + (m + 1) = i + 1 + m by omega, tkS_skip m r (i + 1) (by omega)]
        exact tkS_tk k _ _ _ (by rw [List.length_drop]; omega) (Nat.le_refl _)
      rw [e]
    · rw [if_neg hw, if_neg hw]
theorem tokens_f (s : ByteArray) (hs : s.size ≤ 1073741824) (k : Nat) (hk : s.size < k) : lex_Tokens.f s = some (tkR (tk k s.data.toList 0)) := by
  unfold lex_Tokens.f
  rw [if_pos hs, tkS_tk k _ 0 0 (by rw [data_length]; exact hk) (Nat.le_refl _)]
/-! ### bytes -/
theorem byte_class : ∀ n : Fin 256, (litI litC n.1 = (decide (n.1 = 59) || decide (n.1 = 35))) ∧ (litI litS n.1 = (decide (n.1 = 32) || decide (n.1 = 9) || decide (n.1 = 13))) ∧ slotcoderef08_punct.f (n.1 : Int) = some (litI litM n.1) ∧ (litI litC n.1 = true → inW (n.1 : Int) = false ∧ litI litM n.1 = false) ∧ (litI litS n.1 = true → inW (n.1 : Int) = false ∧ litI litM n.1 = false ∧ litI litC n.1 = false) ∧ (litI litM n.1 = true → inW (n.1 : Int) = false ∧ n.1 ≠ 119) := by decide +kernel
theorem byte_at (b : UInt8) : (litI litC b.toNat = (decide (b.toNat = 59) || decide (b.toNat = 35))) ∧ (litI litS b.toNat = (decide (b.toNat = 32) || decide (b.toNat = 9) || decide (b.toNat = 13))) ∧ slotcoderef08_punct.f (b.toNat : Int) = some (litI litM b.toNat) ∧ (litI litC b.toNat = true → inW (b.toNat : Int) = false ∧ litI litM b.toNat = false) ∧ (litI litS b.toNat = true → inW (b.toNat : Int) = false ∧ litI litM b.toNat = false ∧ litI litC b.toNat = false) ∧ (litI litM b.toNat = true → inW (b.toNat : Int) = false ∧ b.toNat ≠ 119) := byte_class ⟨b.toNat, b.toNat_lt⟩
theorem wordN_ne (b : UInt8) (r : List UInt8) : wordN (b :: r) ≠ 0 ↔ inW b.toNat = true := by
  simp only [wordN]
  by_cases h : inW b.toNat = true
  · simp [h]
  · rw [if_neg h]; simp [h]
/-! ### the reference's tokens -/
def to32 (x : S31) : S32 := ⟨x.f0, x.f1⟩
def rkR (acc : List S32) : List S31 × Option Nat → List S32 × Int
  | (ts, none) => (acc ++ ts.map to32, -1)
  | (_, some i) => ([], i)
theorem take_extract' (s : ByteArray) (p n : Nat) : s.extract p (p + n) = ⟨((s.data.toList.drop p).take n).toArray⟩ := take_extract s _ rfl p n
set_option maxHeartbeats 4000000 in
theorem rtokens_l0 (s : ByteArray) (hs : s.size ≤ 1000000) : ∀ (k : Nat) (t : List UInt8) (i K : Nat) (acc : List S32), s.data.toList.drop i = t → t.length < k → i ≤ s.size → acc.length ≤ i → 3 * t.length + s.size + 10 < K →
    slotcoderef08_Tokens.l0 K s acc (i : Int) = some (rkR acc (tk k t i)) := by
  have hlen : s.data.toList.length = s.size := data_length s
  intro k
  induction k with
  | zero => intro t i K acc _ h; omega
  | succ k ih =>
    intro t i K acc ht hk hi hacc hK
    obtain ⟨K, rfl⟩ : ∃ m, K = m + 1 := ⟨K - 1, by omega⟩
    cases t with
    | nil =>
      have : s.data.toList.length ≤ i := List.drop_eq_nil_iff.mp ht
      simp only [slotcoderef08_Tokens.l0, tk, rkR, List.map_nil, List.append_nil]
      rw [if_neg (by omega)]
    | cons b r =>
      obtain ⟨hd, hlt, hl2⟩ := idrop_next ht
      simp only [List.length_cons] at hk hK
      have hle := wordN_le (b :: r)
      simp only [List.length_cons] at hle
      obtain ⟨hC, hS, hP, hC2, hS2, hM2⟩ := byte_at b
      have hb8 := b.toNat_lt
      have hex : (s.extract i s.size).data.toList = b :: r := by
        rw [Lib.extract_data, List.take_of_length_le (by rw [List.length_drop]; omega), ht]
      have hexs : (s.extract i s.size).size = r.length + 1 := by rw [← data_length, hex, List.length_cons]
      have hwf : slotcoderef02_Word.f K (s.extract i s.size) = some (wordN (b :: r) : Int) := by rw [rword_f _ (by omega) K (by omega), hex]
      have hwn := wordN_ne b r
      obtain ⟨n, hn⟩ : ∃ n, wordN (b :: r) = n := ⟨_, rfl⟩
      rw [hn] at hle hwf hwn
      simp only [slotcoderef08_Tokens.l0]
      rw [if_pos (by omega), if_pos (by omega), if_pos (by omega), Int.toNat_natCast, hwf, Option.bind_some, ibt_cons s i b r ht]
      obtain ⟨K, rfl⟩ : ∃ m, K = m + 1 := ⟨K - 1, by omega⟩
      simp only [tk]
      rw [hn]
      have hj1 : (if (b.toNat : Int) = 59 then slotcoderef08_Tokens.j1 (K + 1) s acc i b.toNat n true else slotcoderef08_Tokens.j1 (K + 1) s acc i b.toNat n ((b.toNat : Int) == 35)) = slotcoderef08_Tokens.j1 (K + 1) s acc i b.toNat n (litI litC b.toNat) := by
        rw [hC]
        by_cases h : b.toNat = 59
        · rw [if_pos (by omega)]; simp [h]
        · rw [if_neg (by omega)]
          congr 1
          rw [decide_eq_false h, Bool.false_or]
          by_cases h2 : b.toNat = 35
          · simp [h2]
          · rw [decide_eq_false h2]; exact beq_eq_false_iff_ne.mpr (by omega)
      rw [hj1]
      simp only [slotcoderef08_Tokens.j1]
      by_cases hc : litI litC b.toNat = true
      · rw [if_pos hc]
        have h2 := hC2 hc
        rw [if_neg (by rw [hwn, h2.1]; decide), if_neg (by rw [h2.2]; decide), if_pos hc]
        simp [rkR]
      · rw [if_neg hc]
        obtain ⟨K, rfl⟩ : ∃ m, K = m + 1 := ⟨K - 1, by omega⟩
        have hj2 : (if (b.toNat : Int) = 32 then slotcoderef08_Tokens.j2 (K + 1) s acc i b.toNat n true else if (b.toNat : Int) = 9 then slotcoderef08_Tokens.j2 (K + 1) s acc i b.toNat n true else slotcoderef08_Tokens.j2 (K + 1) s acc i b.toNat n ((b.toNat : Int) == 13)) = slotcoderef08_Tokens.j2 (K + 1) s acc i b.toNat n (litI litS b.toNat) := by
          rw [hS]
          by_cases h : b.toNat = 32
          · rw [if_pos (by omega)]; simp [h]
          · rw [if_neg (by omega)]
            by_cases h1 : b.toNat = 9
            · rw [if_pos (by omega)]; simp [h1]
            · rw [if_neg (by omega)]
              congr 1
              rw [decide_eq_false h, decide_eq_false h1, Bool.false_or, Bool.false_or]
              by_cases h2 : b.toNat = 13
              · simp [h2]
              · rw [decide_eq_false h2]; exact beq_eq_false_iff_ne.mpr (by omega)
        rw [hj2]
        simp only [slotcoderef08_Tokens.j2]
        have e1 := Aside0.mk (show wrap64 ((i : Int) + 1) = ((i + 1 : Nat) : Int) by rw [iw64 _ (by omega) (by omega)]; omega)
        by_cases hsp : litI litS b.toNat = true
        · rw [if_pos hsp, e1.out]
          have h2 := hS2 hsp
          rw [if_neg (show ¬ n ≠ 0 by rw [hwn, h2.1]; decide), if_neg (by rw [h2.2.1]; decide), if_neg (by rw [h2.2.2]; decide), if_pos hsp]
          exact ih r (i + 1) K acc hd (by omega) (by omega) (by omega) (by omega)
        · rw [if_neg hsp]
          have e2 := Aside0.mk (show wrap64 ((i : Int) + n) = ((i + n : Nat) : Int) by rw [iw64 _ (by omega) (by omega)]; omega)
          by_cases hw : n ≠ 0
          · rw [if_pos hw, if_pos (by omega), if_pos (by omega), e2.out, if_pos (by omega), if_pos (by omega), if_pos (by omega), Int.toNat_natCast, Int.toNat_natCast, take_extract', ht]
            rw [ih ((b :: r).drop n) (i + n) K _ (by rw [← ht, List.drop_drop]) (by rw [List.length_drop]; simp; omega) (by omega) (by simp; omega) (by rw [List.length_drop]; simp; omega)]
            cases htk : tk k ((b :: r).drop n) (i + n) with
            | mk ts o => cases o <;> simp [rkR, to32]
          · rw [if_neg hw, if_neg (by omega), hP, Option.bind_some]
            by_cases hm : litI litM b.toNat = true
            · rw [if_pos hm, if_pos hm, if_pos (by omega), e1.out, if_pos (by omega), if_pos (by omega), if_pos (by omega), Int.toNat_natCast, Int.toNat_natCast, take_extract', ht]
              rw [ih r (i + 1) K _ hd (by omega) (by omega) (by simp; omega) (by omega)]
              cases htk : tk k r (i + 1) with
              | mk ts o => cases o <;> simp [rkR, to32]
            · rw [if_neg hm, if_neg hm, if_neg hc, if_neg hsp]
              simp [rkR]
theorem rtokens_f (s : ByteArray) (hs : s.size ≤ 1000000) (k K : Nat) (hk : s.size < k) (hK : 4 * s.size + 10 < K) : slotcoderef08_Tokens.f K s = some (rkR [] (tk k s.data.toList 0)) := by
  have h := rtokens_l0 s hs k s.data.toList 0 K [] rfl (by rw [data_length]; exact hk) (Nat.zero_le _) (Nat.le_refl _) (by rw [data_length]; omega)
  exact h
end Go.Proofs.YtdjljggdbflohaaDoor.PAll
