/- Plain facts: the widths, powers of two, the extension of the sign; the examples of the chapter. -/
import Derived.Test.YthahmmmkojeddaaDoorPAllx11
import Derived.Test.YthahmmmkojeddaaDoorPAllx12
set_option linter.unusedVariables false
set_option linter.unusedSimpArgs false
namespace Go.Proofs.YthahmmmkojeddaaDoor.PAll
open Go.RowKit Go.Proofs.YthahmmmkojeddaaDoorW.PrintWords Go.Proofs.YthahmmmkojeddaaDoorW.PrintLast Go.Proofs.YthahmmmkojeddaaDoorW.PrintMore
theorem alive_true : slotcodelaw01_alive.f = some true := by kernel_rfl
theorem nw64 (x : Int) (h0 : -9223372036854775808 ≤ x) (h1 : x < 9223372036854775808) : wrap64 x = x := by unfold wrap64; omega
theorem width_f (b : Int) : slotcoderef01_Width.f b = some (knownB b) := by
  unfold slotcoderef01_Width.f
  by_cases h8 : b = 8
  · subst h8; rfl
  · rw [if_neg h8]
    by_cases h16 : b = 16
    · subst h16; rfl
    · rw [if_neg h16]
      by_cases h32 : b = 32
      · subst h32; rfl
      · rw [if_neg h32]
        congr 1
        by_cases h64 : b = 64
        · subst h64; rfl
        · simp [knownB, widthsTab, h8, h16, h32, h64]
theorem power_l0 (a : Nat) (ha : a ≤ 63) : ∀ (n i k : Nat), a = i + n → n < k → slotcoderef01_Power.l0 k (a : Int) (((2 ^ i : Nat)) : Int) (i : Int) = some (((2 ^ a : Nat)) : Int) := by
  intro n
  induction n with
  | zero =>
    intro i k hi hk
    obtain ⟨k, rfl⟩ : ∃ m, k = m + 1 := ⟨k - 1, by omega⟩
    simp only [slotcoderef01_Power.l0]
    rw [if_neg (by omega), hi]; rfl
  | succ n ih =>
    intro i k hi hk
    obtain ⟨k, rfl⟩ : ∃ m, k = m + 1 := ⟨k - 1, by omega⟩
    simp only [slotcoderef01_Power.l0]
    have hb : 2 ^ (i + 1) ≤ 2 ^ 63 := Nat.pow_le_pow_right (by decide) (by omega)
    have e : IntKind.u64.wrap (((2 ^ i : Nat)) * 2 : Int) = ((2 ^ (i + 1) : Nat) : Int) := by
      rw [u64_mod, Nat.pow_succ]
      rw [Nat.pow_succ] at hb
      omega
    rw [if_pos (by omega), e, nw64 _ (by omega) (by omega), show (i : Int) + 1 = ((i + 1 : Nat) : Int) by omega]
    exact ih (i + 1) k (by omega) (by omega)
theorem power_f (a : Nat) (ha : a ≤ 63) (k : Nat) (hk : a < k) : slotcoderef01_Power.f k (a : Int) = some (((2 ^ a : Nat)) : Int) := power_l0 a ha a 0 k (by omega) hk
/-- The sign extended, as the reference says it. -/
def extI (x bits : Int) : Int :=
  if bits = 8 then (if x % 256 ≥ 128 then x % 256 - 256 else x % 256)
  else if bits = 16 then (if x % 65536 ≥ 32768 then x % 65536 - 65536 else x % 65536)
  else if bits = 32 then (if x % 4294967296 ≥ 2147483648 then x % 4294967296 - 4294967296 else x % 4294967296)
  else if bits = 64 then (if x ≥ 9223372036854775808 then x - 18446744073709551616 else x) else 0
theorem extI8 (x : Int) : extI x 8 = if x % 256 ≥ 128 then x % 256 - 256 else x % 256 := rfl
theorem extI16 (x : Int) : extI x 16 = if x % 65536 ≥ 32768 then x % 65536 - 65536 else x % 65536 := rfl
theorem extI32 (x : Int) : extI x 32 = if x % 4294967296 ≥ 2147483648 then x % 4294967296 - 4294967296 else x % 4294967296 := rfl
theorem extI64 (x : Int) : extI x 64 = if x ≥ 9223372036854775808 then x - 18446744073709551616 else x := rfl
theorem extend_n (x bits : Int) (h0 : 0 ≤ x) (h1 : x < 18446744073709551616) : num_Extend.f x bits = some (extI x bits) := by
  by_cases hk : knownB bits = true
  · rw [num_Extend_at x bits hk]
    congr 1
    rcases known_cases hk with rfl | rfl | rfl | rfl
    · have e : wrap64 (64 - 8) = 56 := by unfold wrap64; omega
      unfold extI
      rw [e, if_pos rfl]
      unfold shr shl
      rw [show min (56 : Int).toNat IntKind.u64.bits = 56 by decide, show min (56 : Int).toNat IntKind.i64.bits = 56 by decide, u64_mod, show (2 : Int) ^ 56 = 72057594037927936 by decide]
      unfold wrap64
      omega
    · have e : wrap64 (64 - 16) = 48 := by unfold wrap64; omega
      unfold extI
      rw [e, if_neg (by decide), if_pos rfl]
      unfold shr shl
      rw [show min (48 : Int).toNat IntKind.u64.bits = 48 by decide, show min (48 : Int).toNat IntKind.i64.bits = 48 by decide, u64_mod, show (2 : Int) ^ 48 = 281474976710656 by decide]
      unfold wrap64
      omega
    · have e : wrap64 (64 - 32) = 32 := by unfold wrap64; omega
      unfold extI
      rw [e, if_neg (by decide), if_neg (by decide), if_pos rfl]
      unfold shr shl
      rw [show min (32 : Int).toNat IntKind.u64.bits = 32 by decide, show min (32 : Int).toNat IntKind.i64.bits = 32 by decide, u64_mod, show (2 : Int) ^ 32 = 4294967296 by decide]
      unfold wrap64
      omega
    · have e : wrap64 (64 - 64) = 0 := by unfold wrap64; omega
      unfold extI
      rw [e, if_neg (by decide), if_neg (by decide), if_neg (by decide), if_pos rfl]
      unfold shr shl
      rw [show min (0 : Int).toNat IntKind.u64.bits = 0 by decide, show min (0 : Int).toNat IntKind.i64.bits = 0 by decide, u64_mod, show (2 : Int) ^ 0 = 1 by decide]
      unfold wrap64
      omega
  · have hk2 : knownB bits = false := by simpa using hk
    unfold num_Extend.f num_known.f
    simp only [Option.bind_some]
    rw [hk2, if_neg (by decide)]
    congr 1
    unfold extI
    rw [if_neg (by rintro rfl; exact hk rfl), if_neg (by rintro rfl; exact hk rfl), if_neg (by rintro rfl; exact hk rfl), if_neg (by rintro rfl; exact hk rfl)]
theorem extend_r (x bits : Int) (h0 : 0 ≤ x) (h1 : x < 18446744073709551616) (k : Nat) (hk : 100 < k) : slotcoderef01_Extend.f k x bits = some (extI x bits) := by
  unfold slotcoderef01_Extend.f
  rw [width_f]
  simp only [Option.bind_some]
  by_cases hb : knownB bits = true
  · rw [hb, if_pos rfl]
    rcases known_cases hb with rfl | rfl | rfl | rfl
    · have p1 := power_f 8 (by omega) k (by omega)
      have p2 := power_f 7 (by omega) k (by omega)
      rw [show ((8 : Nat) : Int) = 8 by rfl, show (((2 ^ 8 : Nat)) : Int) = 256 by decide] at p1
      rw [show ((7 : Nat) : Int) = 7 by rfl, show (((2 ^ 7 : Nat)) : Int) = 128 by decide] at p2
      have e : wrap64 (8 - 1) = 7 := by unfold wrap64; omega
      rw [if_neg (by decide), p1, e, p2]
      simp only [Option.bind_some]
      rw [if_neg (by decide), Int.tmod_eq_emod_of_nonneg h0]
      rw [extI8]
      unfold wrap64
      by_cases c : x % 256 ≥ 128
      · rw [if_pos c, if_pos c]; congr 1; omega
      · rw [if_neg c, if_neg c]; congr 1; omega
    · have p1 := power_f 16 (by omega) k (by omega)
      have p2 := power_f 15 (by omega) k (by omega)
      rw [show ((16 : Nat) : Int) = 16 by rfl, show (((2 ^ 16 : Nat)) : Int) = 65536 by decide] at p1
      rw [show ((15 : Nat) : Int) = 15 by rfl, show (((2 ^ 15 : Nat)) : Int) = 32768 by decide] at p2
      have e : wrap64 (16 - 1) = 15 := by unfold wrap64; omega
      rw [if_neg (by decide), p1, e, p2]
      simp only [Option.bind_some]
      rw [if_neg (by decide), Int.tmod_eq_emod_of_nonneg h0]
      rw [extI16]
      unfold wrap64
      by_cases c : x % 65536 ≥ 32768
      · rw [if_pos c, if_pos c]; congr 1; omega
      · rw [if_neg c, if_neg c]; congr 1; omega
    · have p1 := power_f 32 (by omega) k (by omega)
      have p2 := power_f 31 (by omega) k (by omega)
      rw [show ((32 : Nat) : Int) = 32 by rfl, show (((2 ^ 32 : Nat)) : Int) = 4294967296 by decide] at p1
      rw [show ((31 : Nat) : Int) = 31 by rfl, show (((2 ^ 31 : Nat)) : Int) = 2147483648 by decide] at p2
      have e : wrap64 (32 - 1) = 31 := by unfold wrap64; omega
      rw [if_neg (by decide), p1, e, p2]
      simp only [Option.bind_some]
      rw [if_neg (by decide), Int.tmod_eq_emod_of_nonneg h0]
      rw [extI32]
      unfold wrap64
      by_cases c : x % 4294967296 ≥ 2147483648
      · rw [if_pos c, if_pos c]; congr 1; omega
      · rw [if_neg c, if_neg c]; congr 1; omega
    · rw [if_pos rfl]
      congr 1
      rw [extI64]
      unfold wrap64
      by_cases c : x ≥ 9223372036854775808
      · rw [if_pos c]; omega
      · rw [if_neg c]; omega
  · have hk2 : knownB bits = false := by simpa using hb
    rw [hk2, if_neg (by decide)]
    congr 1
    unfold extI
    rw [if_neg (by rintro rfl; exact hb rfl), if_neg (by rintro rfl; exact hb rfl), if_neg (by rintro rfl; exact hb rfl), if_neg (by rintro rfl; exact hb rfl)]
theorem i64_wf {x : Int} (h : (Lit.int .i64 x).wf = true) : -9223372036854775808 ≤ x ∧ x < 9223372036854775808 := by
  have h' : (decide ((IntKind.i64).min ≤ x) && decide (x ≤ (IntKind.i64).max)) = true := h
  rw [show (IntKind.i64).min = -9223372036854775808 by decide, show (IntKind.i64).max = 9223372036854775807 by decide, Bool.and_eq_true, decide_eq_true_eq, decide_eq_true_eq] at h'
  omega
theorem u64_wf {x : Int} (h : (Lit.int .u64 x).wf = true) : 0 ≤ x ∧ x < 18446744073709551616 := by
  have h' : (decide ((IntKind.u64).min ≤ x) && decide (x ≤ (IntKind.u64).max)) = true := h
  rw [show (IntKind.u64).min = 0 by decide, show (IntKind.u64).max = 18446744073709551615 by decide, Bool.and_eq_true, decide_eq_true_eq, decide_eq_true_eq] at h'
  omega
theorem fits_f (x bits : Int) : num_Fits.f x bits = some (knownB bits && (extI (x % 18446744073709551616) bits == x)) := by
  unfold num_Fits.f num_known.f
  simp only [Option.bind_some]
  by_cases hb : knownB bits = true
  · rw [hb, if_pos rfl, u64_mod, extend_n _ _ (by omega) (by omega)]
    rfl
  · have hk2 : knownB bits = false := by simpa using hb
    rw [hk2, if_neg (by decide)]
    rfl
theorem ext_again (x bits : Int) (h : knownB bits = true) (h0 : 0 ≤ x) (h1 : x < 18446744073709551616) : extI (extI x bits % 18446744073709551616) bits = extI x bits := by
  rcases known_cases h with rfl | rfl | rfl | rfl
  · rw [extI8, extI8]; split <;> split <;> omega
  · rw [extI16, extI16]; split <;> split <;> omega
  · rw [extI32, extI32]; split <;> split <;> omega
  · rw [extI64, extI64]; split <;> split <;> omega
end Go.Proofs.YthahmmmkojeddaaDoor.PAll
