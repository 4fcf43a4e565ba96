-- By a program of this session (xp.py) over the kit's print, with texts of this session.
import Derived.Test.YtomngapjfkmjkaaDoorPAllx0
namespace Go.Proofs.YtomngapjfkmjkaaDoor.PAll
open Go.RowKit Go.Proofs.YtomngapjfkmjkaaDoorW.PrintWords Go.Proofs.YtomngapjfkmjkaaDoorW.PrintLast Go.Proofs.YtomngapjfkmjkaaDoorW.PrintMore
attribute [local go_sem] max2_int min2_int max_two min_two max_three min_three max_four min_four   -- for this text's walks alone
set_option linter.unusedVariables false
set_option linter.unusedSimpArgs false

-- EXTERN
-- XIMPORT 
/-! ### slotcoderef01_Format: function 25 -/
mutual
def slotcoderef01_Format.j0 : Nat → Int → ByteArray → Int → Option (ByteArray)
  | 0, _, _, _ => none
  | k + 1, x0, x3, x4 => slotcoderef01_Format.l0 k x0 x3 x4 (⟨#[]⟩ : ByteArray)
def slotcoderef01_Format.l0 : Nat → Int → ByteArray → Int → ByteArray → Option (ByteArray)
  | 0, _, _, _, _ => none
  | k + 1, x0, x3, x4, x5 => if x4 > 0 then (if 0 ≤ (Int.tmod x4 10) then (if (Int.tmod x4 10) ≤ (IntKind.u64.wrap ((Int.tmod x4 10) + 1)) then (if (IntKind.u64.wrap ((Int.tmod x4 10) + 1)) ≤ (x3.size : Int) then (if (x3.extract ((Int.tmod x4 10) : Int).toNat ((IntKind.u64.wrap ((Int.tmod x4 10) + 1)) : Int).toNat).size + x5.size ≤ 9223372036854775807 then (slotcoderef01_Format.l0 k x0 x3 (IntKind.u64.wrap (Int.tdiv x4 10)) ((x3.extract ((Int.tmod x4 10) : Int).toNat ((IntKind.u64.wrap ((Int.tmod x4 10) + 1)) : Int).toNat) ++ x5)) else (none)) else (none)) else (none)) else (none)) else (if x5.toList = ([] : List UInt8) then (if 0 ≤ (Int.tmod x4 10) then (if (Int.tmod x4 10) ≤ (IntKind.u64.wrap ((Int.tmod x4 10) + 1)) then (if (IntKind.u64.wrap ((Int.tmod x4 10) + 1)) ≤ (x3.size : Int) then (if (x3.extract ((Int.tmod x4 10) : Int).toNat ((IntKind.u64.wrap ((Int.tmod x4 10) + 1)) : Int).toNat).size + x5.size ≤ 9223372036854775807 then (slotcoderef01_Format.l0 k x0 x3 (IntKind.u64.wrap (Int.tdiv x4 10)) ((x3.extract ((Int.tmod x4 10) : Int).toNat ((IntKind.u64.wrap ((Int.tmod x4 10) + 1)) : Int).toNat) ++ x5)) else (none)) else (none)) else (none)) else (none)) else (if x0 < 0 then (if 1 + x5.size ≤ 9223372036854775807 then (some ((⟨#[45]⟩ : ByteArray) ++ x5)) else (none)) else (some x5)))
end
def slotcoderef01_Format.f (k : Nat) (a0 : Int) : Option (ByteArray) := if a0 < 0 then (slotcoderef01_Format.j0 k a0 (⟨#[48, 49, 50, 51, 52, 53, 54, 55, 56, 57]⟩ : ByteArray) (IntKind.u64.wrap (-(IntKind.u64.wrap (a0))))) else (slotcoderef01_Format.j0 k a0 (⟨#[48, 49, 50, 51, 52, 53, 54, 55, 56, 57]⟩ : ByteArray) (IntKind.u64.wrap (a0)))
theorem slotcoderef01_Format.mono_l : ∀ k, (∀ y0 y1 y2, LeO (slotcoderef01_Format.j0 k y0 y1 y2) (slotcoderef01_Format.j0 (k + 1) y0 y1 y2)) ∧ (∀ y0 y1 y2 y3, LeO (slotcoderef01_Format.l0 k y0 y1 y2 y3) (slotcoderef01_Format.l0 (k + 1) y0 y1 y2 y3))
  | 0 => ⟨fun _ _ _ r h => by simp [slotcoderef01_Format.j0] at h, fun _ _ _ _ r h => by simp [slotcoderef01_Format.l0] at h⟩
  | k + 1 => by
    obtain ⟨ih0, ih1⟩ := slotcoderef01_Format.mono_l k
    refine ⟨?_, ?_⟩
    · intro y0 y1 y2
      unfold slotcoderef01_Format.j0
      repeat' first
      | (with_reducible exact ih0 _ _ _)
      | (with_reducible exact ih1 _ _ _ _)
      | (with_reducible exact LeO.refl _)
      | (with_reducible exact LeO.none _)
      | (with_reducible refine LeO.ite ?_ ?_)
      | (with_reducible refine LeO.bind ?_ (fun _ => ?_))
      | exact ih0 _ _ _
      | exact ih1 _ _ _ _
      | exact LeO.none _
      | refine LeO.ite ?_ ?_
      | refine LeO.bind ?_ (fun _ => ?_)
    · intro y0 y1 y2 y3
      unfold slotcoderef01_Format.l0
      repeat' first
      | (with_reducible exact ih0 _ _ _)
      | (with_reducible exact ih1 _ _ _ _)
      | (with_reducible exact LeO.refl _)
      | (with_reducible exact LeO.none _)
      | (with_reducible refine LeO.ite ?_ ?_)
      | (with_reducible refine LeO.bind ?_ (fun _ => ?_))
      | exact ih0 _ _ _
      | exact ih1 _ _ _ _
      | exact LeO.none _
      | refine LeO.ite ?_ ?_
      | refine LeO.bind ?_ (fun _ => ?_)
theorem slotcoderef01_Format.mono : ∀ a0 k, LeO (slotcoderef01_Format.f k a0) (slotcoderef01_Format.f (k + 1) a0) := by
  intro a0 k
  obtain ⟨ih0, ih1⟩ := slotcoderef01_Format.mono_l k
  unfold slotcoderef01_Format.f
  repeat' first
      | (with_reducible exact ih0 _ _ _)
      | (with_reducible exact ih1 _ _ _ _)
      | (with_reducible exact LeO.refl _)
      | (with_reducible exact LeO.none _)
      | (with_reducible refine LeO.ite ?_ ?_)
      | (with_reducible refine LeO.bind ?_ (fun _ => ?_))
      | exact ih0 _ _ _
      | exact ih1 _ _ _ _
      | exact LeO.none _
      | refine LeO.ite ?_ ?_
      | refine LeO.bind ?_ (fun _ => ?_)
set_option maxHeartbeats 8000000 in
set_option maxRecDepth 100000 in
theorem slotcoderef01_Format.calls (k : Nat) (a0 : Int) (r : ByteArray) (w : World) (h : slotcoderef01_Format.f k a0 = some r) :
    Calls Tryd.prog 25 #[.int .i64 a0] w fun e w' => e = .returned (.string r) ∧ Drawn0 w w' := by
  have H : (if a0 < 0 then (slotcoderef01_Format.j0 k a0 (⟨#[48, 49, 50, 51, 52, 53, 54, 55, 56, 57]⟩ : ByteArray) (IntKind.u64.wrap (-(IntKind.u64.wrap (a0))))) else (slotcoderef01_Format.j0 k a0 (⟨#[48, 49, 50, 51, 52, 53, 54, 55, 56, 57]⟩ : ByteArray) (IntKind.u64.wrap (a0)))) = some r := h
  clear h
  have HC2 := Aside0.mk H
  clear H
  go_enter Tryd.func25, Tryd.ntmps25
  go_upto_if 9 with (fail)
  go_cut [4] (fun v4 wc => ∃ (kq : Nat) (x4_1 : Int), v4 = .int .u64 x4_1 ∧ Aside0 (slotcoderef01_Format.j0 kq a0 (⟨#[48, 49, 50, 51, 52, 53, 54, 55, 56, 57]⟩ : ByteArray) x4_1 = some r) ∧ Aside0 (kq ≤ k) ∧ Drawn0 w wc)
  case first =>
    have H := HC2.out
    clear HC2
    by_cases c3 : a0 < 0
    · rw [if_pos c3] at H
      have c3b0 : decide (a0 < 0) = true := decide_eq_true c3
      clear c3
      (first | rw [c3b0] | (simp only [i64_w, i32_w]; rw [c3b0]) | skip)
      have H' := Aside0.mk H
      clear H
      go_wp2
      go_meet
      case rel => exact ⟨_, (IntKind.u64.wrap (-(IntKind.u64.wrap (a0)))), (by first | rfl | (simp; done) | (simp [*]; done)), H', ⟨by first | omega | exact Nat.le_refl _⟩, by repeat (first | exact Drawn0.refl _ | apply Drawn0.step)⟩
    · rw [if_neg c3] at H
      have c3b0 : decide (a0 < 0) = false := decide_eq_false c3
      clear c3
      (first | rw [c3b0] | (simp only [i64_w, i32_w]; rw [c3b0]) | skip)
      have H' := Aside0.mk H
      clear H
      go_wp2
      go_meet
      case rel => exact ⟨_, (IntKind.u64.wrap (a0)), (by first | rfl | (simp; done) | (simp [*]; done)), H', ⟨by first | omega | exact Nat.le_refl _⟩, by repeat (first | exact Drawn0.refl _ | apply Drawn0.step)⟩
  case rest =>
    clear HC2
    try clear c2
    try clear p2
    try clear c3
    try clear c3b0
    obtain ⟨kq, x4_1, rfl, HA, HJ1, ⟨mc1, rfl⟩⟩ := hcut
    cases kq with
    | zero => exact absurd HA.out (by simp [slotcoderef01_Format.j0])
    | succ kj1 =>
      have H := HA.out
      clear HA
      simp only [slotcoderef01_Format.j0] at H
      have H' := Aside0.mk H
      clear H
      go_wp2
      go_loopg [4, 5] kj1 (fun kq v4 v5 w' => ∃ (x4_2 : Int) (x5_2 : ByteArray), v4 = .int .u64 x4_2 ∧ v5 = .string x5_2 ∧ Aside0 (slotcoderef01_Format.l0 kq a0 (⟨#[48, 49, 50, 51, 52, 53, 54, 55, 56, 57]⟩ : ByteArray) x4_2 x5_2 = some r) ∧ Aside0 (kq ≤ kj1) ∧ Drawn0 w w')
      case atStart => exact ⟨(x4_1), ((⟨#[]⟩ : ByteArray)), (by first | rfl | (simp; done) | (simp [*]; done)), (by first | rfl | (simp; done) | (simp [*]; done)), H', ⟨Nat.le_refl _⟩, by repeat (first | exact Drawn0.refl _ | apply Drawn0.step)⟩
      case round =>
        clear H'
        try clear c1
        try clear c2
        try clear p2
        try clear c3
        try clear c3b0
        try clear p2
        obtain ⟨x4_2, x5_2, rfl, rfl, HA, HK2, ⟨m2, rfl⟩⟩ := hrel
        cases gk with
        | zero => exact absurd HA.out (by simp [slotcoderef01_Format.l0])
        | succ k2 =>
          have H := HA.out
          clear HA
          simp only [slotcoderef01_Format.l0] at H
          by_cases c4 : x4_2 > 0
          · rw [if_pos c4] at H
            have c4b0 : decide (0 < x4_2) = true := decide_eq_true c4
            clear c4
            obtain ⟨ji5, hji5⟩ : ∃ j_ : Int, (Int.tmod x4_2 10) = j_ := ⟨_, rfl⟩
            replace H : (if 0 ≤ (ji5) then (if (ji5) ≤ (IntKind.u64.wrap ((ji5) + 1)) then (if (IntKind.u64.wrap ((ji5) + 1)) ≤ ((⟨#[48, 49, 50, 51, 52, 53, 54, 55, 56, 57]⟩ : ByteArray).size : Int) then (if ((⟨#[48, 49, 50, 51, 52, 53, 54, 55, 56, 57]⟩ : ByteArray).extract ((ji5) : Int).toNat ((IntKind.u64.wrap ((ji5) + 1)) : Int).toNat).size + x5_2.size ≤ 9223372036854775807 then (slotcoderef01_Format.l0 k2 a0 (⟨#[48, 49, 50, 51, 52, 53, 54, 55, 56, 57]⟩ : ByteArray) (IntKind.u64.wrap (Int.tdiv x4_2 10)) (((⟨#[48, 49, 50, 51, 52, 53, 54, 55, 56, 57]⟩ : ByteArray).extract ((ji5) : Int).toNat ((IntKind.u64.wrap ((ji5) + 1)) : Int).toNat) ++ x5_2)) else (none)) else (none)) else (none)) else (none)) = some r := by first | (rw [hji5] at H; exact H) | (simp only [hji5] at H ⊢; exact H)
            by_cases c6 : 0 ≤ (ji5)
            · rw [if_pos c6] at H
              have c6b0 := eq_true c6
              have c6b1 : decide (0 ≤ (ji5)) = true := decide_eq_true c6
              clear c6
              by_cases c7 : (ji5) ≤ (IntKind.u64.wrap ((ji5) + 1))
              · rw [if_pos c7] at H
                have c7b0 := eq_true c7
                have c7b1 : decide ((ji5) ≤ (IntKind.u64.wrap ((ji5) + 1))) = true := decide_eq_true c7
                by_cases c8 : (IntKind.u64.wrap ((ji5) + 1)) ≤ ((⟨#[48, 49, 50, 51, 52, 53, 54, 55, 56, 57]⟩ : ByteArray).size : Int)
                · rw [if_pos c8] at H
                  have c8b0 := eq_true c8
                  have c8b1 : decide ((IntKind.u64.wrap ((ji5) + 1)) ≤ ((⟨#[48, 49, 50, 51, 52, 53, 54, 55, 56, 57]⟩ : ByteArray).size : Int)) = true := decide_eq_true c8
                  have c8n0 : (IntKind.u64.wrap ((ji5) + 1)) ≤ 10 := c8
                  have c8n1 : decide ((IntKind.u64.wrap ((ji5) + 1)) ≤ 10) = true := decide_eq_true c8n0
                  have c8n2 : (10 < (IntKind.u64.wrap ((ji5) + 1))) = False := eq_false (Int.not_lt.2 c8n0)
                  by_cases c9 : ((⟨#[48, 49, 50, 51, 52, 53, 54, 55, 56, 57]⟩ : ByteArray).extract ((ji5) : Int).toNat ((IntKind.u64.wrap ((ji5) + 1)) : Int).toNat).size + x5_2.size ≤ 9223372036854775807
                  · rw [if_pos c9] at H
                    have c9b0 := eq_true c9
                    have c9b1 : decide (((⟨#[48, 49, 50, 51, 52, 53, 54, 55, 56, 57]⟩ : ByteArray).extract ((ji5) : Int).toNat ((IntKind.u64.wrap ((ji5) + 1)) : Int).toNat).size + x5_2.size ≤ 9223372036854775807) = true := decide_eq_true c9
                    try have c9b2 : (9223372036854775807 < ((⟨#[48, 49, 50, 51, 52, 53, 54, 55, 56, 57]⟩ : ByteArray).extract ((ji5) : Int).toNat ((IntKind.u64.wrap ((ji5) + 1)) : Int).toNat).size + x5_2.size) = False := eq_false (Nat.not_lt.2 c9)
                    have H' := Aside0.mk H
                    clear H
                    go_wp2
                    go_roundg k2
                    case measure => have := HJ1.out; have := HK2.out; omega
                    case rel => exact ⟨(IntKind.u64.wrap (Int.tdiv x4_2 10)), (((⟨#[48, 49, 50, 51, 52, 53, 54, 55, 56, 57]⟩ : ByteArray).extract ((ji5) : Int).toNat ((IntKind.u64.wrap ((ji5) + 1)) : Int).toNat) ++ x5_2), (by first | rfl | (simp; done) | (simp [*]; done)), (by first | rfl | (simp; done) | (simp only [← hji5] <;> (first | rfl | simp)) | (simp [*]; done)), H', ⟨by have := HJ1.out; have := HK2.out; omega⟩, by repeat (first | exact Drawn0.refl _ | apply Drawn0.step)⟩
                  · rw [if_neg c9] at H
                    exact absurd H (by simp)
                · rw [if_neg c8] at H
                  exact absurd H (by simp)
              · rw [if_neg c7] at H
                exact absurd H (by simp)
            · rw [if_neg c6] at H
              exact absurd H (by simp)
          · rw [if_neg c4] at H
            have c4b0 : decide (0 < x4_2) = false := decide_eq_false c4
            clear c4
            by_cases c10 : x5_2.toList = ([] : List UInt8)
            · rw [if_pos c10] at H
              have c10b0 : (x5_2.toList == ([] : List UInt8)) = true := beq_iff_eq.mpr c10
              have c10b1 : (x5_2.toList != ([] : List UInt8)) = false := bne_eq_false_iff_eq.mpr c10
              clear c10
              obtain ⟨ji11, hji11⟩ : ∃ j_ : Int, (Int.tmod x4_2 10) = j_ := ⟨_, rfl⟩
              replace H : (if 0 ≤ (ji11) then (if (ji11) ≤ (IntKind.u64.wrap ((ji11) + 1)) then (if (IntKind.u64.wrap ((ji11) + 1)) ≤ ((⟨#[48, 49, 50, 51, 52, 53, 54, 55, 56, 57]⟩ : ByteArray).size : Int) then (if ((⟨#[48, 49, 50, 51, 52, 53, 54, 55, 56, 57]⟩ : ByteArray).extract ((ji11) : Int).toNat ((IntKind.u64.wrap ((ji11) + 1)) : Int).toNat).size + x5_2.size ≤ 9223372036854775807 then (slotcoderef01_Format.l0 k2 a0 (⟨#[48, 49, 50, 51, 52, 53, 54, 55, 56, 57]⟩ : ByteArray) (IntKind.u64.wrap (Int.tdiv x4_2 10)) (((⟨#[48, 49, 50, 51, 52, 53, 54, 55, 56, 57]⟩ : ByteArray).extract ((ji11) : Int).toNat ((IntKind.u64.wrap ((ji11) + 1)) : Int).toNat) ++ x5_2)) else (none)) else (none)) else (none)) else (none)) = some r := by first | (rw [hji11] at H; exact H) | (simp only [hji11] at H ⊢; exact H)
              by_cases c12 : 0 ≤ (ji11)
              · rw [if_pos c12] at H
                have c12b0 := eq_true c12
                have c12b1 : decide (0 ≤ (ji11)) = true := decide_eq_true c12
                clear c12
                by_cases c13 : (ji11) ≤ (IntKind.u64.wrap ((ji11) + 1))
                · rw [if_pos c13] at H
                  have c13b0 := eq_true c13
                  have c13b1 : decide ((ji11) ≤ (IntKind.u64.wrap ((ji11) + 1))) = true := decide_eq_true c13
                  by_cases c14 : (IntKind.u64.wrap ((ji11) + 1)) ≤ ((⟨#[48, 49, 50, 51, 52, 53, 54, 55, 56, 57]⟩ : ByteArray).size : Int)
                  · rw [if_pos c14] at H
                    have c14b0 := eq_true c14
                    have c14b1 : decide ((IntKind.u64.wrap ((ji11) + 1)) ≤ ((⟨#[48, 49, 50, 51, 52, 53, 54, 55, 56, 57]⟩ : ByteArray).size : Int)) = true := decide_eq_true c14
                    have c14n0 : (IntKind.u64.wrap ((ji11) + 1)) ≤ 10 := c14
                    have c14n1 : decide ((IntKind.u64.wrap ((ji11) + 1)) ≤ 10) = true := decide_eq_true c14n0
                    have c14n2 : (10 < (IntKind.u64.wrap ((ji11) + 1))) = False := eq_false (Int.not_lt.2 c14n0)
                    by_cases c15 : ((⟨#[48, 49, 50, 51, 52, 53, 54, 55, 56, 57]⟩ : ByteArray).extract ((ji11) : Int).toNat ((IntKind.u64.wrap ((ji11) + 1)) : Int).toNat).size + x5_2.size ≤ 9223372036854775807
                    · rw [if_pos c15] at H
                      have c15b0 := eq_true c15
                      have c15b1 : decide (((⟨#[48, 49, 50, 51, 52, 53, 54, 55, 56, 57]⟩ : ByteArray).extract ((ji11) : Int).toNat ((IntKind.u64.wrap ((ji11) + 1)) : Int).toNat).size + x5_2.size ≤ 9223372036854775807) = true := decide_eq_true c15
                      try have c15b2 : (9223372036854775807 < ((⟨#[48, 49, 50, 51, 52, 53, 54, 55, 56, 57]⟩ : ByteArray).extract ((ji11) : Int).toNat ((IntKind.u64.wrap ((ji11) + 1)) : Int).toNat).size + x5_2.size) = False := eq_false (Nat.not_lt.2 c15)
                      have H' := Aside0.mk H
                      clear H
                      go_wp2
                      go_roundg k2
                      case measure => have := HJ1.out; have := HK2.out; omega
                      case rel => exact ⟨(IntKind.u64.wrap (Int.tdiv x4_2 10)), (((⟨#[48, 49, 50, 51, 52, 53, 54, 55, 56, 57]⟩ : ByteArray).extract ((ji11) : Int).toNat ((IntKind.u64.wrap ((ji11) + 1)) : Int).toNat) ++ x5_2), (by first | rfl | (simp; done) | (simp [*]; done)), (by first | rfl | (simp; done) | (simp only [← hji11] <;> (first | rfl | simp)) | (simp [*]; done)), H', ⟨by have := HJ1.out; have := HK2.out; omega⟩, by repeat (first | exact Drawn0.refl _ | apply Drawn0.step)⟩
                    · rw [if_neg c15] at H
                      exact absurd H (by simp)
                  · rw [if_neg c14] at H
                    exact absurd H (by simp)
                · rw [if_neg c13] at H
                  exact absurd H (by simp)
              · rw [if_neg c12] at H
                exact absurd H (by simp)
            · rw [if_neg c10] at H
              have c10b0 : (x5_2.toList == ([] : List UInt8)) = false := beq_eq_false_iff_ne.mpr c10
              have c10b1 : (x5_2.toList != ([] : List UInt8)) = true := bne_iff_ne.mpr c10
              by_cases c16 : a0 < 0
              · rw [if_pos c16] at H
                have c16b0 : decide (a0 < 0) = true := decide_eq_true c16
                clear c16
                by_cases c17 : 1 + x5_2.size ≤ 9223372036854775807
                · rw [if_pos c17] at H
                  have c17b0 := eq_true c17
                  have c17b1 : decide (1 + x5_2.size ≤ 9223372036854775807) = true := decide_eq_true c17
                  try have c17b2 : (9223372036854775807 < 1 + x5_2.size) = False := eq_false (Nat.not_lt.2 c17)
                  obtain rfl := Option.some.inj H
                  go_wp2
                  go_ret
                  exact ⟨by first | rfl | (simp; done) | (simp [*]; done), by repeat (first | exact Drawn0.refl _ | apply Drawn0.step)⟩
                · rw [if_neg c17] at H
                  exact absurd H (by simp)
              · rw [if_neg c16] at H
                have c16b0 : decide (a0 < 0) = false := decide_eq_false c16
                clear c16
                obtain rfl := Option.some.inj H
                go_wp2
                go_ret
                exact ⟨by first | rfl | (simp; done) | (simp [*]; done), by repeat (first | exact Drawn0.refl _ | apply Drawn0.step)⟩

end Go.Proofs.YtomngapjfkmjkaaDoor.PAll
