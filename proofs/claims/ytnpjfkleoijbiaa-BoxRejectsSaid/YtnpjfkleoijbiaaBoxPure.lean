/- Plain facts about the container of the chapter 15: what the printed functions of the program say, without memory. -/
import Derived.Test.YtnpjfkleoijbiaaPAllx1
namespace Go.Proofs.Ytnpjfkleoijbiaa.PAll
open Go.RowKit Go.Proofs.YtnpjfkleoijbiaaW.PrintWords Go.Proofs.YtnpjfkleoijbiaaW.PrintLast Go.Proofs.YtnpjfkleoijbiaaW.PrintMore

theorem w64 (x : Int) (h0 : -9223372036854775808 ≤ x) (h1 : x < 9223372036854775808) : wrap64 x = x := by unfold wrap64; omega
theorem and_not7 (x : Nat) (hx : x < 2 ^ 64) : x &&& 18446744073709551608 = x / 8 * 8 := by
  apply Nat.eq_of_testBit_eq
  intro i
  rw [Nat.testBit_and]
  have e1 : (18446744073709551608 : Nat) = (2 ^ 61 - 1) * 2 ^ 3 := by decide
  rw [e1, Nat.testBit_mul_two_pow, Nat.testBit_two_pow_sub_one, show (8 : Nat) = 2 ^ 3 from rfl, Nat.testBit_mul_two_pow, Nat.testBit_div_two_pow]
  by_cases h : 3 ≤ i
  · have e : i - 3 + 3 = i := by omega
    simp only [h, decide_true, Bool.true_and, e]
    by_cases h2 : i - 3 < 61
    · simp [h2]
    · rw [Nat.testBit_lt_two_pow (Nat.lt_of_lt_of_le hx (Nat.pow_le_pow_right (by omega) (by omega)))]; simp
  · simp [h]
theorem i64_andNot7 (x : Nat) (hx : x < 9223372036854775808) : Go.bits .andNot .i64 (x : Int) 7 = ((x / 8 * 8 : Nat) : Int) := by
  show IntKind.i64.wrap ((BitVec.ofInt 64 (x : Int) &&& ~~~BitVec.ofInt 64 7).toNat : Int) = _
  have h1 : (BitVec.ofInt 64 7).toNat = 7 := by decide
  have h2 : (BitVec.ofInt 64 (x : Int)).toNat = x := by simp [BitVec.ofInt_natCast]; omega
  rw [BitVec.toNat_and, BitVec.toNat_not, h2, h1, show 2 ^ 64 - 1 - 7 = 18446744073709551608 by decide, and_not7 x (by omega), IntKind.wrap_i64]
  omega

/-- The least multiple of 8 that is not less. -/
def upN (n : Nat) : Nat := (n + 7) / 8 * 8
theorem upN_ge (n : Nat) : n ≤ upN n ∧ upN n < n + 8 ∧ upN n % 8 = 0 := by unfold upN; omega
theorem up_f (n : Nat) (h : n < 4611686018427387904) : box_up.f (n : Int) = some ((upN n : Nat) : Int) := by
  unfold box_up.f upN
  rw [w64 ((n : Int) + 8) (by omega) (by omega), w64 _ (by omega) (by omega), show (n : Int) + 8 - 1 = ((n + 7 : Nat) : Int) by omega, i64_andNot7 _ (by omega)]

/-- The sizes of the data, each on a multiple of 8. -/
def datas : List S50 → Nat
  | [] => 0
  | s :: r => upN s.f1.length + datas r
def headN (n : Nat) : Nat := upN (16 + 12 * n)
def wsize (l : List S50) : Nat := headN l.length + datas l
def Sane (l : List S50) : Prop := l.length ≤ 1048576 ∧ ∀ s ∈ l, s.f1.length ≤ 1099511627776
instance (l : List S50) : Decidable (Sane l) := by unfold Sane; infer_instance
theorem datas_le (l : List S50) (h : ∀ s ∈ l, s.f1.length ≤ 1099511627776) : datas l ≤ l.length * 1099511627784 := by
  induction l with
  | nil => simp [datas]
  | cons s r ih =>
    have h1 := h s (by simp)
    have h2 := ih (fun x hx => h x (by simp [hx]))
    have := upN_ge s.f1.length
    simp only [datas, List.length_cons]; omega
theorem rdT_at (l : List S50) (i : Nat) (s : S50) (r : List S50) (h : l.drop i = s :: r) : rd_T50 l (i : Int) = s := by
  have : l[i]? = some s := by rw [← List.head?_drop, h]; rfl
  simp [rd_T50, List.getD_eq_getElem?_getD, this]
theorem drop_next {α : Type} {l : List α} {i : Nat} {s : α} {r : List α} (h : l.drop i = s :: r) : l.drop (i + 1) = r ∧ i < l.length ∧ l.length = i + 1 + r.length := by
  have hl : (l.drop i).length = r.length + 1 := by rw [h]; rfl
  rw [List.length_drop] at hl
  refine ⟨?_, by omega, by omega⟩
  rw [show i + 1 = i + 1 from rfl, ← List.drop_drop, h]; rfl

theorem size_l0 (l : List S50) (hs : Sane l) (t : List S50) : ∀ (i k acc : Nat), l.drop i = t → t.length < k → acc + datas t ≤ 2305843009213693952 → i ≤ l.length →
    box_Size.l0 k (acc : Int) l (l.length : Int) (i : Int) = some ((acc + datas t : Nat) : Int) := by
  induction t with
  | nil =>
    intro i k acc ht hk _ hi
    obtain ⟨k, rfl⟩ : ∃ m, k = m + 1 := ⟨k - 1, by omega⟩
    have : l.length ≤ i := List.drop_eq_nil_iff.mp ht
    simp only [box_Size.l0]; rw [if_neg (by omega)]; simp [datas]
  | cons s r ih =>
    intro i k acc ht hk ha hi
    obtain ⟨k, rfl⟩ : ∃ m, k = m + 1 := ⟨k - 1, by omega⟩
    obtain ⟨hd, hlt, hl⟩ := drop_next ht
    have hb : s.f1.length ≤ 1099511627776 := hs.2 s (List.mem_of_mem_drop (i := i) (by rw [ht]; simp))
    have h1 := hs.1
    have hu := upN_ge s.f1.length
    simp only [box_Size.l0]; rw [if_pos (by omega), if_pos (by omega), if_pos (by omega), rdT_at l i s r ht, up_f _ (by omega)]
    simp only [Option.bind_some]
    simp only [datas] at ha ⊢
    simp only [List.length_cons] at hk
    rw [w64 _ (by omega) (by omega), w64 _ (by omega) (by omega)]
    have := ih (i + 1) k (acc + upN s.f1.length) hd (by omega) (by omega) (by omega)
    rw [Nat.add_assoc] at this
    rw [← this]; congr 1
theorem wsize_bound (l : List S50) (hs : Sane l) : wsize l ≤ 2305843009213693952 := by
  have h := datas_le l hs.2
  have h1 := hs.1
  have := upN_ge (16 + 12 * l.length)
  unfold wsize headN
  have : l.length * 1099511627784 ≤ 1048576 * 1099511627784 := Nat.mul_le_mul_right _ h1
  omega
theorem size_f (l : List S50) (hs : Sane l) (k : Nat) (hk : l.length < k) : box_Size.f k l = some ((wsize l : Nat) : Int) := by
  have h1 := hs.1
  have hw := wsize_bound l hs
  have hu := upN_ge (16 + 12 * l.length)
  unfold box_Size.f
  rw [w64 (12 * (l.length : Int)) (by omega) (by omega), w64 _ (by omega) (by omega), show (16 : Int) + 12 * (l.length : Int) = ((16 + 12 * l.length : Nat) : Int) by omega, up_f _ (by omega)]
  simp only [Option.bind_some]
  exact size_l0 l hs l 0 k _ rfl hk hw (Nat.zero_le _)

def kindsOk : Int → List S50 → Bool
  | _, [] => true
  | last, s :: r => decide (last < s.f0) && decide (s.f0 ≤ 65535) && kindsOk s.f0 r
def wcheck (l : List S50) : Int := if 16 < l.length ∨ 1073741824 < wsize l then 16 else if kindsOk 0 l then 0 else 4
theorem check_l0 (l : List S50) (hs : Sane l) (t : List S50) : ∀ (i k : Nat) (last : Int), l.drop i = t → t.length < k → i ≤ l.length →
    box_check.l0 k last l (l.length : Int) (i : Int) = some (if kindsOk last t then 0 else 4) := by
  induction t with
  | nil =>
    intro i k last ht hk hi
    obtain ⟨k, rfl⟩ : ∃ m, k = m + 1 := ⟨k - 1, by omega⟩
    have : l.length ≤ i := List.drop_eq_nil_iff.mp ht
    simp only [box_check.l0]; rw [if_neg (by omega)]; simp [kindsOk]
  | cons s r ih =>
    intro i k last ht hk hi
    obtain ⟨k, rfl⟩ : ∃ m, k = m + 1 := ⟨k - 1, by omega⟩
    obtain ⟨hd, hlt, hl⟩ := drop_next ht
    have h1 := hs.1
    simp only [List.length_cons] at hk
    simp only [box_check.l0]; rw [if_pos (by omega), if_pos (by omega), if_pos (by omega), rdT_at l i s r ht]
    by_cases c1 : s.f0 ≤ last
    · rw [if_pos c1]; simp [kindsOk, show ¬ last < s.f0 by omega]
    · rw [if_neg c1]
      by_cases c2 : s.f0 > 65535
      · rw [if_pos c2]; simp [kindsOk, show ¬ s.f0 ≤ 65535 by omega]
      · rw [if_neg c2, w64 _ (by omega) (by omega), show (i : Int) + 1 = ((i + 1 : Nat) : Int) by omega, ih (i + 1) k s.f0 hd (by omega) (by omega)]
        simp [kindsOk, show last < s.f0 by omega, show s.f0 ≤ 65535 by omega]
theorem check_f (l : List S50) (hs : Sane l) (k : Nat) (hk : l.length + 1 < k) : box_check.f k l = some (wcheck l) := by
  have h1 := hs.1
  have hj : ∀ b : Bool, box_check.j0 k l b = if b = true then some 16 else some (if kindsOk 0 l then 0 else 4) := by
    intro b
    obtain ⟨k, rfl⟩ : ∃ m, k = m + 1 := ⟨k - 1, by omega⟩
    simp only [box_check.j0]
    split
    · rfl
    · exact check_l0 l hs l 0 k 0 rfl (by omega) (Nat.zero_le _)
  unfold box_check.f wcheck
  by_cases c : (l.length : Int) > 16
  · rw [if_pos c, hj, if_pos rfl, if_pos (.inl (by omega))]
  · rw [if_neg c, size_f l hs k (by omega)]
    simp only [Option.bind_some]
    rw [hj]
    by_cases c2 : 1073741824 < wsize l
    · rw [if_pos (by simp; omega), if_pos (.inr c2)]
    · rw [if_neg (by simp; omega), if_neg (show ¬ (16 < l.length ∨ 1073741824 < wsize l) by omega)]

/-! the bytes -/
def byteAt (x : Int) (i : Nat) : Int := x / 2 ^ (8 * i) % 256
def le (n : Nat) (x : Int) : List Int := (List.range n).map (byteAt x)
theorem le_length (n : Nat) (x : Int) : (le n x).length = n := by simp [le]
theorem le_succ (n : Nat) (x : Int) : le (n + 1) x = le n x ++ [byteAt x n] := by simp [le, List.range_succ]
def rowsB : Nat → List S50 → List Int
  | _, [] => []
  | at_, s :: r => le 4 s.f0 ++ le 4 at_ ++ le 4 s.f1.length ++ rowsB (at_ + upN s.f1.length) r
def bodyB : List S50 → List Int
  | [] => []
  | s :: r => s.f1 ++ List.replicate (upN s.f1.length - s.f1.length) 0 ++ bodyB r
def hdrB (n sz : Nat) : List Int := [83, 76, 67, 49] ++ le 2 1 ++ le 2 n ++ le 4 sz ++ List.replicate 4 0
def wbytes (l : List S50) : List Int := hdrB l.length (wsize l) ++ rowsB (headN l.length) l ++ List.replicate (headN l.length - (16 + 12 * l.length)) 0 ++ bodyB l
theorem hdrB_length (n sz : Nat) : (hdrB n sz).length = 16 := by simp [hdrB, le_length]
theorem rowsB_length (l : List S50) : ∀ a, (rowsB a l).length = 12 * l.length := by
  induction l with
  | nil => intro a; rfl
  | cons s r ih => intro a; simp [rowsB, le_length, ih]; omega
theorem bodyB_length (l : List S50) : (bodyB l).length = datas l := by
  induction l with
  | nil => rfl
  | cons s r ih => have := upN_ge s.f1.length; simp [bodyB, datas, ih]; omega
theorem rowsB_append (l m : List S50) : ∀ a, rowsB a (l ++ m) = rowsB a l ++ rowsB (a + datas l) m := by
  induction l with
  | nil => intro a; simp [rowsB, datas]
  | cons s r ih => intro a; simp [rowsB, datas, ih, Nat.add_assoc]
theorem bodyB_append (l m : List S50) : bodyB (l ++ m) = bodyB l ++ bodyB m := by
  induction l with
  | nil => simp [bodyB]
  | cons s r ih => simp [bodyB, ih]
theorem datas_append (l m : List S50) : datas (l ++ m) = datas l + datas m := by
  induction l with
  | nil => simp [datas]
  | cons s r ih => simp [datas, ih, Nat.add_assoc]
theorem wbytes_length (l : List S50) : (wbytes l).length = wsize l := by
  have := upN_ge (16 + 12 * l.length)
  simp [wbytes, hdrB_length, rowsB_length, bodyB_length, wsize, headN]; omega
end Go.Proofs.Ytnpjfkleoijbiaa.PAll
