-- By a program of this session (xp.py) over the kit's print, with texts of this session.
import Derived.Test.YthahmmmkojeddaaDoorPAllx0
import Derived.Test.YthahmmmkojeddaaDoorPAllx12
namespace Go.Proofs.YthahmmmkojeddaaDoor.PAll
open Go.RowKit Go.Proofs.YthahmmmkojeddaaDoorW.PrintWords Go.Proofs.YthahmmmkojeddaaDoorW.PrintLast Go.Proofs.YthahmmmkojeddaaDoorW.PrintMore
attribute [local go_sem] max2_int min2_int max_two min_two max_three min_three max_four min_four   -- for this text's walks alone
set_option linter.unusedVariables false
set_option linter.unusedSimpArgs false

/-! ### slotcoderef01_Read: function 26 -/
mutual
def slotcoderef01_Read.j0 : Nat → ByteArray → Bool → Option (Bool × Int × Bool × Bool)
  | 0, _, _ => none
  | k + 1, x0, x6 => if x6 = true then (if 1 ≤ (x0.size : Int) then (slotcoderef01_Read.j1 k (x0.extract 1 x0.size) x6) else (none)) else (slotcoderef01_Read.j1 k x0 x6)
def slotcoderef01_Read.j1 : Nat → ByteArray → Bool → Option (Bool × Int × Bool × Bool)
  | 0, _, _ => none
  | k + 1, x0, x6 => if (x0.size : Int) ≥ 2 then (if 0 < (x0.size : Int) then (if (bt x0 0) = 48 then (if 1 < (x0.size : Int) then (slotcoderef01_Read.j2 k x0 x6 10 ((bt x0 1) == 120)) else (none)) else (slotcoderef01_Read.j2 k x0 x6 10 false)) else (none)) else (slotcoderef01_Read.j2 k x0 x6 10 false)
def slotcoderef01_Read.j2 : Nat → ByteArray → Bool → Int → Bool → Option (Bool × Int × Bool × Bool)
  | 0, _, _, _, _ => none
  | k + 1, x0, x6, x7, x35 => if x35 = true then (if 2 ≤ (x0.size : Int) then (slotcoderef01_Read.j3 k (x0.extract 2 x0.size) x6 16) else (none)) else (slotcoderef01_Read.j3 k x0 x6 x7)
def slotcoderef01_Read.j3 : Nat → ByteArray → Bool → Int → Option (Bool × Int × Bool × Bool)
  | 0, _, _, _ => none
  | k + 1, x0, x6, x7 => if (x0.size : Int) = 0 then (some (false, 0, false, false)) else (slotcoderef01_Read.l0 k x0 x6 x7 0 false 0)
def slotcoderef01_Read.l0 : Nat → ByteArray → Bool → Int → Int → Bool → Int → Option (Bool × Int × Bool × Bool)
  | 0, _, _, _, _, _, _ => none
  | k + 1, x0, x6, x7, x8, x9, x10 => if x10 < (x0.size : Int) then (if 0 ≤ x10 then ((slotcoderef01_Digit.f k (bt x0 x10) x7).bind fun t150 => (if t150 < 0 then (some (false, 0, false, false)) else (if (IntKind.u64.wrap (x7)) = 0 then (none) else (if x8 > (IntKind.u64.wrap (Int.tdiv (IntKind.u64.wrap (18446744073709551615 - (IntKind.u64.wrap (t150)))) (IntKind.u64.wrap (x7)))) then (slotcoderef01_Read.l0 k x0 x6 x7 (IntKind.u64.wrap ((IntKind.u64.wrap (x8 * (IntKind.u64.wrap (x7)))) + (IntKind.u64.wrap (t150)))) true (wrap64 (x10 + 1))) else (slotcoderef01_Read.l0 k x0 x6 x7 (IntKind.u64.wrap ((IntKind.u64.wrap (x8 * (IntKind.u64.wrap (x7)))) + (IntKind.u64.wrap (t150)))) x9 (wrap64 (x10 + 1))))))) else (none)) else (some (x6, x8, x9, true))
end
def slotcoderef01_Read.f (k : Nat) (a0 : ByteArray) : Option (Bool × Int × Bool × Bool) := if (a0.size : Int) > 0 then (if 0 < (a0.size : Int) then (slotcoderef01_Read.j0 k a0 ((bt a0 0) == 45)) else (none)) else (slotcoderef01_Read.j0 k a0 false)
theorem slotcoderef01_Read.mono_l : ∀ k, (∀ y0 y1, LeO (slotcoderef01_Read.j0 k y0 y1) (slotcoderef01_Read.j0 (k + 1) y0 y1)) ∧ (∀ y0 y1, LeO (slotcoderef01_Read.j1 k y0 y1) (slotcoderef01_Read.j1 (k + 1) y0 y1)) ∧ (∀ y0 y1 y2 y3, LeO (slotcoderef01_Read.j2 k y0 y1 y2 y3) (slotcoderef01_Read.j2 (k + 1) y0 y1 y2 y3)) ∧ (∀ y0 y1 y2, LeO (slotcoderef01_Read.j3 k y0 y1 y2) (slotcoderef01_Read.j3 (k + 1) y0 y1 y2)) ∧ (∀ y0 y1 y2 y3 y4 y5, LeO (slotcoderef01_Read.l0 k y0 y1 y2 y3 y4 y5) (slotcoderef01_Read.l0 (k + 1) y0 y1 y2 y3 y4 y5))
  | 0 => ⟨fun _ _ r h => by simp [slotcoderef01_Read.j0] at h, fun _ _ r h => by simp [slotcoderef01_Read.j1] at h, fun _ _ _ _ r h => by simp [slotcoderef01_Read.j2] at h, fun _ _ _ r h => by simp [slotcoderef01_Read.j3] at h, fun _ _ _ _ _ _ r h => by simp [slotcoderef01_Read.l0] at h⟩
  | k + 1 => by
    obtain ⟨ih0, ih1, ih2, ih3, ih4⟩ := slotcoderef01_Read.mono_l k
    refine ⟨?_, ?_, ?_, ?_, ?_⟩
    · intro y0 y1
      unfold slotcoderef01_Read.j0
      repeat' first
      | (with_reducible exact ih0 _ _)
      | (with_reducible exact ih1 _ _)
      | (with_reducible exact ih2 _ _ _ _)
      | (with_reducible exact ih3 _ _ _)
      | (with_reducible exact ih4 _ _ _ _ _ _)
      | (with_reducible exact slotcoderef01_Digit.mono _ _ _)
      | (with_reducible exact LeO.refl _)
      | (with_reducible exact LeO.none _)
      | (with_reducible refine LeO.ite ?_ ?_)
      | (with_reducible refine LeO.bind ?_ (fun _ => ?_))
      | exact ih0 _ _
      | exact ih1 _ _
      | exact ih2 _ _ _ _
      | exact ih3 _ _ _
      | exact ih4 _ _ _ _ _ _
      | exact slotcoderef01_Digit.mono _ _ _
      | exact LeO.none _
      | refine LeO.ite ?_ ?_
      | refine LeO.bind ?_ (fun _ => ?_)
    · intro y0 y1
      unfold slotcoderef01_Read.j1
      repeat' first
      | (with_reducible exact ih0 _ _)
      | (with_reducible exact ih1 _ _)
      | (with_reducible exact ih2 _ _ _ _)
      | (with_reducible exact ih3 _ _ _)
      | (with_reducible exact ih4 _ _ _ _ _ _)
      | (with_reducible exact slotcoderef01_Digit.mono _ _ _)
      | (with_reducible exact LeO.refl _)
      | (with_reducible exact LeO.none _)
      | (with_reducible refine LeO.ite ?_ ?_)
      | (with_reducible refine LeO.bind ?_ (fun _ => ?_))
      | exact ih0 _ _
      | exact ih1 _ _
      | exact ih2 _ _ _ _
      | exact ih3 _ _ _
      | exact ih4 _ _ _ _ _ _
      | exact slotcoderef01_Digit.mono _ _ _
      | exact LeO.none _
      | refine LeO.ite ?_ ?_
      | refine LeO.bind ?_ (fun _ => ?_)
    · intro y0 y1 y2 y3
      unfold slotcoderef01_Read.j2
      repeat' first
      | (with_reducible exact ih0 _ _)
      | (with_reducible exact ih1 _ _)
      | (with_reducible exact ih2 _ _ _ _)
      | (with_reducible exact ih3 _ _ _)
      | (with_reducible exact ih4 _ _ _ _ _ _)
      | (with_reducible exact slotcoderef01_Digit.mono _ _ _)
      | (with_reducible exact LeO.refl _)
      | (with_reducible exact LeO.none _)
      | (with_reducible refine LeO.ite ?_ ?_)
      | (with_reducible refine LeO.bind ?_ (fun _ => ?_))
      | exact ih0 _ _
      | exact ih1 _ _
      | exact ih2 _ _ _ _
      | exact ih3 _ _ _
      | exact ih4 _ _ _ _ _ _
      | exact slotcoderef01_Digit.mono _ _ _
      | exact LeO.none _
      | refine LeO.ite ?_ ?_
      | refine LeO.bind ?_ (fun _ => ?_)
    · intro y0 y1 y2
      unfold slotcoderef01_Read.j3
      repeat' first
      | (with_reducible exact ih0 _ _)
      | (with_reducible exact ih1 _ _)
      | (with_reducible exact ih2 _ _ _ _)
      | (with_reducible exact ih3 _ _ _)
      | (with_reducible exact ih4 _ _ _ _ _ _)
      | (with_reducible exact slotcoderef01_Digit.mono _ _ _)
      | (with_reducible exact LeO.refl _)
      | (with_reducible exact LeO.none _)
      | (with_reducible refine LeO.ite ?_ ?_)
      | (with_reducible refine LeO.bind ?_ (fun _ => ?_))
      | exact ih0 _ _
      | exact ih1 _ _
      | exact ih2 _ _ _ _
      | exact ih3 _ _ _
      | exact ih4 _ _ _ _ _ _
      | exact slotcoderef01_Digit.mono _ _ _
      | exact LeO.none _
      | refine LeO.ite ?_ ?_
      | refine LeO.bind ?_ (fun _ => ?_)
    · intro y0 y1 y2 y3 y4 y5
      unfold slotcoderef01_Read.l0
      repeat' first
      | (with_reducible exact ih0 _ _)
      | (with_reducible exact ih1 _ _)
      | (with_reducible exact ih2 _ _ _ _)
      | (with_reducible exact ih3 _ _ _)
      | (with_reducible exact ih4 _ _ _ _ _ _)
      | (with_reducible exact slotcoderef01_Digit.mono _ _ _)
      | (with_reducible exact LeO.refl _)
      | (with_reducible exact LeO.none _)
      | (with_reducible refine LeO.ite ?_ ?_)
      | (with_reducible refine LeO.bind ?_ (fun _ => ?_))
      | exact ih0 _ _
      | exact ih1 _ _
      | exact ih2 _ _ _ _
      | exact ih3 _ _ _
      | exact ih4 _ _ _ _ _ _
      | exact slotcoderef01_Digit.mono _ _ _
      | exact LeO.none _
      | refine LeO.ite ?_ ?_
      | refine LeO.bind ?_ (fun _ => ?_)
theorem slotcoderef01_Read.mono : ∀ a0 k, LeO (slotcoderef01_Read.f k a0) (slotcoderef01_Read.f (k + 1) a0) := by
  intro a0 k
  obtain ⟨ih0, ih1, ih2, ih3, ih4⟩ := slotcoderef01_Read.mono_l k
  unfold slotcoderef01_Read.f
  repeat' first
      | (with_reducible exact ih0 _ _)
      | (with_reducible exact ih1 _ _)
      | (with_reducible exact ih2 _ _ _ _)
      | (with_reducible exact ih3 _ _ _)
      | (with_reducible exact ih4 _ _ _ _ _ _)
      | (with_reducible exact slotcoderef01_Digit.mono _ _ _)
      | (with_reducible exact LeO.refl _)
      | (with_reducible exact LeO.none _)
      | (with_reducible refine LeO.ite ?_ ?_)
      | (with_reducible refine LeO.bind ?_ (fun _ => ?_))
      | exact ih0 _ _
      | exact ih1 _ _
      | exact ih2 _ _ _ _
      | exact ih3 _ _ _
      | exact ih4 _ _ _ _ _ _
      | exact slotcoderef01_Digit.mono _ _ _
      | exact LeO.none _
      | refine LeO.ite ?_ ?_
      | refine LeO.bind ?_ (fun _ => ?_)
set_option maxHeartbeats 8000000 in
set_option maxRecDepth 100000 in
theorem slotcoderef01_Read.calls (k : Nat) (a0 : ByteArray) (r1 : Bool) (r2 : Int) (r3 : Bool) (r4 : Bool) (w : World) (h : slotcoderef01_Read.f k a0 = some (r1, r2, r3, r4)) :
    Calls Tryd.prog 26 #[.string a0] w fun e w' => e = .returned (.tuple #[.bool r1, .int .u64 r2, .bool r3, .bool r4]) ∧ Drawn0 w w' := by
  have H : (if (a0.size : Int) > 0 then (if 0 < (a0.size : Int) then (slotcoderef01_Read.j0 k a0 ((bt a0 0) == 45)) else (none)) else (slotcoderef01_Read.j0 k a0 false)) = some (r1, r2, r3, r4) := h
  clear h
  have HC2 := Aside0.mk H
  clear H
  go_enter Tryd.func26, Tryd.ntmps26
  go_upto_region 1 with (fail)
  go_cut [6] (fun v6 wc => ∃ (kq : Nat) (x6_1 : Bool), v6 = .bool x6_1 ∧ Aside0 (slotcoderef01_Read.j0 kq a0 x6_1 = some (r1, r2, r3, r4)) ∧ Aside0 (kq ≤ k) ∧ Drawn0 w wc)
  case first =>
    have H := HC2.out
    clear HC2
    by_cases c3 : (a0.size : Int) > 0
    · rw [if_pos c3] at H
      have c3b0 : decide (0 < (a0.size : Int)) = true := decide_eq_true c3
      have c3b1 : decide (0 < a0.size) = true := decide_eq_true (by omega)
      clear c3
      (first | rw [c3b0] | (simp only [i64_w, i32_w]; rw [c3b0]) | skip)
      by_cases c4 : 0 < (a0.size : Int)
      · rw [if_pos c4] at H
        have c4b0 : decide (0 < (a0.size : Int)) = true := decide_eq_true c4
        have c4b1 : decide (0 < a0.size) = true := decide_eq_true (by omega)
        clear c4
        have H' := Aside0.mk H
        clear H
        have p5 : 0 ≤ (0 : Int) := (by omega)
        have q5 : 0 < a0.size := (by have : (0 : Int) < (a0.size : Int) := of_decide_eq_true (by first | (with_reducible assumption) | assumption); omega)
        have hx5 : ∀ h : 0 < a0.size, ((a0[0]'h).toNat : Int) = bt a0 0 := bt_at a0 0
        clear p5
        have qi5 : (0 < (a0.size : Int)) = True := eq_true (of_decide_eq_true (by first | (with_reducible assumption) | assumption))
        replace q5 := eq_true q5
        go_wp2
        go_meet
        case rel => exact ⟨_, (((bt a0 0) == 45)), (by first | rfl | (simp; done) | (simp [*]; done)), H', ⟨by first | omega | exact Nat.le_refl _⟩, by repeat (first | exact Drawn0.refl _ | apply Drawn0.step)⟩
      · rw [if_neg c4] at H
        exact absurd H (by simp)
    · rw [if_neg c3] at H
      have c3b0 : decide (0 < (a0.size : Int)) = false := decide_eq_false c3
      have c3b1 : decide (0 < a0.size) = false := decide_eq_false (by omega)
      clear c3
      (first | rw [c3b0] | (simp only [i64_w, i32_w]; rw [c3b0]) | skip)
      have H' := Aside0.mk H
      clear H
      go_wp2
      go_meet
      case rel => exact ⟨_, (false), (by first | rfl | (simp; done) | (simp [*]; done)), H', ⟨by first | omega | exact Nat.le_refl _⟩, by repeat (first | exact Drawn0.refl _ | apply Drawn0.step)⟩
  case rest =>
    clear HC2
    try clear c2
    try clear p2
    try clear c3
    try clear c3b0
    try clear c3b1
    try clear c4
    try clear c4b0
    try clear c4b1
    try clear p5
    try clear q5
    try clear hx5
    try clear qi5
    try clear p5
    try clear q5
    obtain ⟨kq, x6_1, rfl, HA, HJ1, ⟨mc1, rfl⟩⟩ := hcut
    cases kq with
    | zero => exact absurd HA.out (by simp [slotcoderef01_Read.j0])
    | succ kj1 =>
      have H := HA.out
      clear HA
      simp only [slotcoderef01_Read.j0] at H
      have HC6 := Aside0.mk H
      clear H
      go_upto_if 20 with (fail)
      go_cut [0] (fun v0 wc => ∃ (kq : Nat) (x0_5 : ByteArray), v0 = .string x0_5 ∧ Aside0 (slotcoderef01_Read.j1 kq x0_5 x6_1 = some (r1, r2, r3, r4)) ∧ Aside0 (kq ≤ kj1) ∧ Drawn0 w wc)
      case first =>
        have H := HC6.out
        clear HC6
        by_cases c7 : x6_1 = true
        · subst c7
          have H1 : (if 1 ≤ (a0.size : Int) then (slotcoderef01_Read.j1 kj1 (a0.extract 1 a0.size) true) else (none)) = some (r1, r2, r3, r4) := by rw [if_pos rfl] at H; exact H
          clear H
          have H := H1
          clear H1
          by_cases c8 : 1 ≤ (a0.size : Int)
          · rw [if_pos c8] at H
            have c8b0 := eq_true c8
            have c8b1 : decide (1 ≤ (a0.size : Int)) = true := decide_eq_true c8
            clear c8
            have H' := Aside0.mk H
            clear H
            go_wp2
            go_meet
            case rel => exact ⟨_, (a0.extract 1 a0.size), (by first | rfl | (simp; done) | (simp [*]; done)), H', ⟨by have := HJ1.out; first | omega | exact Nat.le_refl _⟩, by repeat (first | exact Drawn0.refl _ | apply Drawn0.step)⟩
          · rw [if_neg c8] at H
            exact absurd H (by simp)
        · replace c7 := Bool.eq_false_iff.mpr c7
          subst c7
          have H1 : (slotcoderef01_Read.j1 kj1 a0 false) = some (r1, r2, r3, r4) := by rw [if_neg (show ¬ (false = true) by decide)] at H; exact H
          clear H
          have H := H1
          clear H1
          have H' := Aside0.mk H
          clear H
          go_wp2
          go_meet
          case rel => exact ⟨_, (a0), (by first | rfl | (simp; done) | (simp [*]; done)), H', ⟨by have := HJ1.out; first | omega | exact Nat.le_refl _⟩, by repeat (first | exact Drawn0.refl _ | apply Drawn0.step)⟩
      case rest =>
        clear HC6
        try clear c1
        try clear c2
        try clear p2
        try clear c3
        try clear c3b0
        try clear c3b1
        try clear c4
        try clear c4b0
        try clear c4b1
        try clear p5
        try clear q5
        try clear hx5
        try clear qi5
        try clear c7
        try clear c8
        try clear c8b0
        try clear c8b1
        try clear p2
        try clear p5
        try clear q5
        obtain ⟨kq, x0_5, rfl, HA, HJ5, ⟨mc5, rfl⟩⟩ := hcut
        cases kq with
        | zero => exact absurd HA.out (by simp [slotcoderef01_Read.j1])
        | succ kj5 =>
          have H := HA.out
          clear HA
          simp only [slotcoderef01_Read.j1] at H
          have HC9 := Aside0.mk H
          clear H
          go_upto_region 5 with (fail)
          go_cut [35] (fun v35 wc => ∃ (kq : Nat) (x35_8 : Bool), v35 = .bool x35_8 ∧ Aside0 (slotcoderef01_Read.j2 kq x0_5 x6_1 10 x35_8 = some (r1, r2, r3, r4)) ∧ Aside0 (kq ≤ kj5) ∧ Drawn0 w wc)
          case first =>
            have H := HC9.out
            clear HC9
            by_cases c10 : (x0_5.size : Int) ≥ 2
            · rw [if_pos c10] at H
              have c10b0 : decide (2 ≤ (x0_5.size : Int)) = true := decide_eq_true c10
              have c10b1 : decide (2 ≤ x0_5.size) = true := decide_eq_true (by omega)
              clear c10
              (first | rw [c10b0] | (simp only [i64_w, i32_w]; rw [c10b0]) | skip)
              by_cases c11 : 0 < (x0_5.size : Int)
              · rw [if_pos c11] at H
                have c11b0 : decide (0 < (x0_5.size : Int)) = true := decide_eq_true c11
                have c11b1 : decide (0 < x0_5.size) = true := decide_eq_true (by omega)
                clear c11
                by_cases c13 : (bt x0_5 0) = 48
                · rw [if_pos c13] at H
                  have c13b0 : ((bt x0_5 0) == 48) = true := beq_iff_eq.mpr c13
                  have c13b1 : ((bt x0_5 0) != 48) = false := bne_eq_false_iff_eq.mpr c13
                  clear c13
                  by_cases c14 : 1 < (x0_5.size : Int)
                  · rw [if_pos c14] at H
                    have c14b0 : decide (1 < (x0_5.size : Int)) = true := decide_eq_true c14
                    have c14b1 : decide (1 < x0_5.size) = true := decide_eq_true (by omega)
                    clear c14
                    have H' := Aside0.mk H
                    clear H
                    have p12 : 0 ≤ (0 : Int) := (by omega)
                    have q12 : 0 < x0_5.size := (by have : (0 : Int) < (x0_5.size : Int) := of_decide_eq_true (by first | (with_reducible assumption) | assumption); omega)
                    have hx12 : ∀ h : 0 < x0_5.size, ((x0_5[0]'h).toNat : Int) = bt x0_5 0 := bt_at x0_5 0
                    clear p12
                    have qi12 : (0 < (x0_5.size : Int)) = True := eq_true (of_decide_eq_true (by first | (with_reducible assumption) | assumption))
                    replace q12 := eq_true q12
                    have p15 : 0 ≤ (1 : Int) := (by omega)
                    have q15 : 1 < x0_5.size := (by have : (1 : Int) < (x0_5.size : Int) := of_decide_eq_true (by first | (with_reducible assumption) | assumption); omega)
                    have hx15 : ∀ h : 1 < x0_5.size, ((x0_5[1]'h).toNat : Int) = bt x0_5 1 := bt_at x0_5 1
                    clear p15
                    have qi15 : (1 < (x0_5.size : Int)) = True := eq_true (of_decide_eq_true (by first | (with_reducible assumption) | assumption))
                    replace q15 := eq_true q15
                    go_wp2
                    go_meet
                    case rel => exact ⟨_, (((bt x0_5 1) == 120)), (by first | rfl | (simp; done) | (simp [*]; done)), H', ⟨by have := HJ1.out; have := HJ5.out; first | omega | exact Nat.le_refl _⟩, by repeat (first | exact Drawn0.refl _ | apply Drawn0.step)⟩
                  · rw [if_neg c14] at H
                    exact absurd H (by simp)
                · rw [if_neg c13] at H
                  have c13b0 : ((bt x0_5 0) == 48) = false := beq_eq_false_iff_ne.mpr c13
                  have c13b1 : ((bt x0_5 0) != 48) = true := bne_iff_ne.mpr c13
                  have H' := Aside0.mk H
                  clear H
                  have p12 : 0 ≤ (0 : Int) := (by omega)
                  have q12 : 0 < x0_5.size := (by have : (0 : Int) < (x0_5.size : Int) := of_decide_eq_true (by first | (with_reducible assumption) | assumption); omega)
                  have hx12 : ∀ h : 0 < x0_5.size, ((x0_5[0]'h).toNat : Int) = bt x0_5 0 := bt_at x0_5 0
                  clear p12
                  have qi12 : (0 < (x0_5.size : Int)) = True := eq_true (of_decide_eq_true (by first | (with_reducible assumption) | assumption))
                  replace q12 := eq_true q12
                  go_wp2
                  go_meet
                  case rel => exact ⟨_, (false), (by first | rfl | (simp; done) | (simp [*]; done)), H', ⟨by have := HJ1.out; have := HJ5.out; first | omega | exact Nat.le_refl _⟩, by repeat (first | exact Drawn0.refl _ | apply Drawn0.step)⟩
              · rw [if_neg c11] at H
                exact absurd H (by simp)
            · rw [if_neg c10] at H
              have c10b0 : decide (2 ≤ (x0_5.size : Int)) = false := decide_eq_false c10
              have c10b1 : decide (2 ≤ x0_5.size) = false := decide_eq_false (by omega)
              clear c10
              (first | rw [c10b0] | (simp only [i64_w, i32_w]; rw [c10b0]) | skip)
              have H' := Aside0.mk H
              clear H
              go_wp2
              go_meet
              case rel => exact ⟨_, (false), (by first | rfl | (simp; done) | (simp [*]; done)), H', ⟨by have := HJ1.out; have := HJ5.out; first | omega | exact Nat.le_refl _⟩, by repeat (first | exact Drawn0.refl _ | apply Drawn0.step)⟩
          case rest =>
            clear HC9
            try clear c1
            try clear p1
            try clear q1
            try clear hx1
            try clear qi1
            try clear c2
            try clear p2
            try clear c3
            try clear c3b0
            try clear c3b1
            try clear c4
            try clear c4b0
            try clear c4b1
            try clear c5
            try clear p5
            try clear q5
            try clear hx5
            try clear qi5
            try clear c7
            try clear c8
            try clear c8b0
            try clear c8b1
            try clear c10
            try clear c10b0
            try clear c10b1
            try clear c11
            try clear c11b0
            try clear c11b1
            try clear p12
            try clear q12
            try clear hx12
            try clear qi12
            try clear c13
            try clear c13b0
            try clear c13b1
            try clear c14
            try clear c14b0
            try clear c14b1
            try clear p15
            try clear q15
            try clear hx15
            try clear qi15
            try clear p12
            try clear p15
            try clear p2
            try clear p5
            try clear q12
            try clear q15
            try clear q5
            obtain ⟨kq, x35_8, rfl, HA, HJ8, ⟨mc8, rfl⟩⟩ := hcut
            cases kq with
            | zero => exact absurd HA.out (by simp [slotcoderef01_Read.j2])
            | succ kj8 =>
              have H := HA.out
              clear HA
              simp only [slotcoderef01_Read.j2] at H
              have HC16 := Aside0.mk H
              clear H
              go_upto_if 35 with (fail)
              go_cut [0, 7] (fun v0 v7 wc => ∃ (kq : Nat) (x0_15 : ByteArray) (x7_15 : Int), v0 = .string x0_15 ∧ v7 = .int .i64 x7_15 ∧ Aside0 (slotcoderef01_Read.j3 kq x0_15 x6_1 x7_15 = some (r1, r2, r3, r4)) ∧ Aside0 (kq ≤ kj8) ∧ Drawn0 w wc)
              case first =>
                have H := HC16.out
                clear HC16
                by_cases c17 : x35_8 = true
                · subst c17
                  have H1 : (if 2 ≤ (x0_5.size : Int) then (slotcoderef01_Read.j3 kj8 (x0_5.extract 2 x0_5.size) x6_1 16) else (none)) = some (r1, r2, r3, r4) := by rw [if_pos rfl] at H; exact H
                  clear H
                  have H := H1
                  clear H1
                  by_cases c18 : 2 ≤ (x0_5.size : Int)
                  · rw [if_pos c18] at H
                    have c18b0 := eq_true c18
                    have c18b1 : decide (2 ≤ (x0_5.size : Int)) = true := decide_eq_true c18
                    clear c18
                    have H' := Aside0.mk H
                    clear H
                    go_wp2
                    go_meet
                    case rel => exact ⟨_, (x0_5.extract 2 x0_5.size), (16), (by first | rfl | (simp; done) | (simp [*]; done)), (by first | rfl | (simp; done) | (simp [*]; done)), H', ⟨by have := HJ1.out; have := HJ5.out; have := HJ8.out; first | omega | exact Nat.le_refl _⟩, by repeat (first | exact Drawn0.refl _ | apply Drawn0.step)⟩
                  · rw [if_neg c18] at H
                    exact absurd H (by simp)
                · replace c17 := Bool.eq_false_iff.mpr c17
                  subst c17
                  have H1 : (slotcoderef01_Read.j3 kj8 x0_5 x6_1 10) = some (r1, r2, r3, r4) := by rw [if_neg (show ¬ (false = true) by decide)] at H; exact H
                  clear H
                  have H := H1
                  clear H1
                  have H' := Aside0.mk H
                  clear H
                  go_wp2
                  go_meet
                  case rel => exact ⟨_, (x0_5), (10), (by first | rfl | (simp; done) | (simp [*]; done)), (by first | rfl | (simp; done) | (simp [*]; done)), H', ⟨by have := HJ1.out; have := HJ5.out; have := HJ8.out; first | omega | exact Nat.le_refl _⟩, by repeat (first | exact Drawn0.refl _ | apply Drawn0.step)⟩
              case rest =>
                clear HC16
                try clear c1
                try clear p1
                try clear q1
                try clear hx1
                try clear qi1
                try clear c2
                try clear p2
                try clear c3
                try clear c3b0
                try clear c3b1
                try clear c4
                try clear c4b0
                try clear c4b1
                try clear c5
                try clear p5
                try clear q5
                try clear hx5
                try clear qi5
                try clear c7
                try clear c8
                try clear c8b0
                try clear c8b1
                try clear c10
                try clear c10b0
                try clear c10b1
                try clear c11
                try clear c11b0
                try clear c11b1
                try clear p12
                try clear q12
                try clear hx12
                try clear qi12
                try clear c13
                try clear c13b0
                try clear c13b1
                try clear c14
                try clear c14b0
                try clear c14b1
                try clear p15
                try clear q15
                try clear hx15
                try clear qi15
                try clear c17
                try clear c18
                try clear c18b0
                try clear c18b1
                try clear p1
                try clear p12
                try clear p15
                try clear p2
                try clear p5
                try clear q1
                try clear q12
                try clear q15
                try clear q5
                obtain ⟨kq, x0_15, x7_15, rfl, rfl, HA, HJ15, ⟨mc15, rfl⟩⟩ := hcut
                cases kq with
                | zero => exact absurd HA.out (by simp [slotcoderef01_Read.j3])
                | succ kj15 =>
                  have H := HA.out
                  clear HA
                  simp only [slotcoderef01_Read.j3] at H
                  by_cases c19 : (x0_15.size : Int) = 0
                  · rw [if_pos c19] at H
                    have c19b0 : ((x0_15.size : Int) == 0) = true := beq_iff_eq.mpr c19
                    have c19b1 : ((x0_15.size : Int) != 0) = false := bne_eq_false_iff_eq.mpr c19
                    clear c19
                    simp only [Option.some.injEq, Prod.mk.injEq] at H
                    obtain ⟨rfl, rfl, rfl, rfl⟩ := H
                    go_wp2
                    refine bodyPost_ret (results_list (rs := [.tmp 2, .tmp 3, .tmp 4, .tmp 5]) rfl (by simp) (.tmp (.tmp (.tmp (.tmp .nil))))) rfl ?_
                    exact ⟨by first | rfl | (simp; done) | (simp [*]; done), by repeat (first | exact Drawn0.refl _ | apply Drawn0.step)⟩
                  · rw [if_neg c19] at H
                    have c19b0 : ((x0_15.size : Int) == 0) = false := beq_eq_false_iff_ne.mpr c19
                    have c19b1 : ((x0_15.size : Int) != 0) = true := bne_iff_ne.mpr c19
                    have H' := Aside0.mk H
                    clear H
                    go_wp2
                    go_loopg [8, 9, 10] kj15 (fun kq v8 v9 v10 w' => ∃ (x8_5 : Int) (x9_5 : Bool) (x10_5 : Int), v8 = .int .u64 x8_5 ∧ v9 = .bool x9_5 ∧ v10 = .int .i64 x10_5 ∧ Aside0 (slotcoderef01_Read.l0 kq x0_15 x6_1 x7_15 x8_5 x9_5 x10_5 = some (r1, r2, r3, r4)) ∧ Aside0 (kq ≤ kj15) ∧ Drawn0 w w')
                    case atStart => exact ⟨(0), (false), (0), (by first | rfl | (simp; done) | (simp [*]; done)), (by first | rfl | (simp; done) | (simp [*]; done)), (by first | rfl | (simp; done) | (simp [*]; done)), H', ⟨Nat.le_refl _⟩, by repeat (first | exact Drawn0.refl _ | apply Drawn0.step)⟩
                    case round =>
                      clear H'
                      try clear c1
                      try clear p1
                      try clear q1
                      try clear hx1
                      try clear qi1
                      try clear c2
                      try clear p2
                      try clear c3
                      try clear c3b0
                      try clear c3b1
                      try clear c4
                      try clear c4b0
                      try clear c4b1
                      try clear c5
                      try clear p5
                      try clear q5
                      try clear hx5
                      try clear qi5
                      try clear c7
                      try clear c8
                      try clear c8b0
                      try clear c8b1
                      try clear c10
                      try clear c10b0
                      try clear c10b1
                      try clear c11
                      try clear c11b0
                      try clear c11b1
                      try clear p12
                      try clear q12
                      try clear hx12
                      try clear qi12
                      try clear c13
                      try clear c13b0
                      try clear c13b1
                      try clear c14
                      try clear c14b0
                      try clear c14b1
                      try clear c15
                      try clear p15
                      try clear q15
                      try clear hx15
                      try clear qi15
                      try clear c17
                      try clear c18
                      try clear c18b0
                      try clear c18b1
                      try clear c19
                      try clear c19b0
                      try clear c19b1
                      try clear p1
                      try clear p12
                      try clear p15
                      try clear p2
                      try clear p5
                      try clear q1
                      try clear q12
                      try clear q15
                      try clear q5
                      obtain ⟨x8_5, x9_5, x10_5, rfl, rfl, rfl, HA, HK5, ⟨m5, rfl⟩⟩ := hrel
                      cases gk with
                      | zero => exact absurd HA.out (by simp [slotcoderef01_Read.l0])
                      | succ k5 =>
                        have H := HA.out
                        clear HA
                        simp only [slotcoderef01_Read.l0] at H
                        by_cases c20 : x10_5 < (x0_15.size : Int)
                        · rw [if_pos c20] at H
                          have c20b0 : decide (x10_5 < (x0_15.size : Int)) = true := decide_eq_true c20
                          clear c20
                          by_cases c21 : 0 ≤ x10_5
                          · rw [if_pos c21] at H
                            have c21b0 : decide (0 ≤ x10_5) = true := decide_eq_true c21
                            clear c21
                            replace H := Option.bind_eq_some_iff.mp H
                            obtain ⟨t150, A230, H⟩ := H
                            replace H : (if t150 < 0 then (some (false, 0, false, false)) else (if (IntKind.u64.wrap (x7_15)) = 0 then (none) else (if x8_5 > (IntKind.u64.wrap (Int.tdiv (IntKind.u64.wrap (18446744073709551615 - (IntKind.u64.wrap (t150)))) (IntKind.u64.wrap (x7_15)))) then (slotcoderef01_Read.l0 k5 x0_15 x6_1 x7_15 (IntKind.u64.wrap ((IntKind.u64.wrap (x8_5 * (IntKind.u64.wrap (x7_15)))) + (IntKind.u64.wrap (t150)))) true (wrap64 (x10_5 + 1))) else (slotcoderef01_Read.l0 k5 x0_15 x6_1 x7_15 (IntKind.u64.wrap ((IntKind.u64.wrap (x8_5 * (IntKind.u64.wrap (x7_15)))) + (IntKind.u64.wrap (t150)))) x9_5 (wrap64 (x10_5 + 1)))))) = some (r1, r2, r3, r4) := H
                            have A23 := Aside0.mk A230
                            clear A230
                            by_cases c24 : t150 < 0
                            · rw [if_pos c24] at H
                              have c24b0 : decide (t150 < 0) = true := decide_eq_true c24
                              clear c24
                              simp only [Option.some.injEq, Prod.mk.injEq] at H
                              obtain ⟨rfl, rfl, rfl, rfl⟩ := H
                              have p22 : 0 ≤ (x10_5 : Int) := of_decide_eq_true (by first | (with_reducible assumption) | assumption)
                              have q22 : x10_5 < (x0_15.size : Int) := of_decide_eq_true (by first | (with_reducible assumption) | assumption)
                              have hx22 := bt_at x0_15 x10_5
                              replace p22 := eq_true p22
                              replace q22 := eq_true q22
                              go_wp2_with (first | ((with_reducible refine gate_callee (f := 32) rfl ?_); refine goesL_ (some 51) rfl rfl Tryd.func32 (by kernel_rfl) rfl #[.int .u8 (bt x0_15 x10_5), .int .i64 x7_15] rfl (by (try simp only [List.map_toArray, List.map_cons, List.map_nil]); first | done | rfl | (simp only [List.length_drop, List.length_take]; rfl)) ?_; (with_reducible refine (slotcoderef01_Digit.calls k5 (bt x0_15 x10_5) x7_15 t150 _ A23.out).mono ?_); rintro e w' ⟨rfl, ⟨nd, rfl⟩⟩; refine ⟨_, rfl, ?_⟩))
                              refine bodyPost_ret (results_list (rs := [.tmp 2, .tmp 3, .tmp 4, .tmp 5]) rfl (by simp) (.tmp (.tmp (.tmp (.tmp .nil))))) rfl ?_
                              exact ⟨by first | rfl | (simp; done) | (simp [*]; done), by repeat (first | exact Drawn0.refl _ | apply Drawn0.step)⟩
                            · rw [if_neg c24] at H
                              have c24b0 : decide (t150 < 0) = false := decide_eq_false c24
                              clear c24
                              by_cases c25 : (IntKind.u64.wrap (x7_15)) = 0
                              · rw [if_pos c25] at H
                                exact absurd H (by simp)
                              · rw [if_neg c25] at H
                                have c25b0 : ((IntKind.u64.wrap (x7_15)) == 0) = false := beq_eq_false_iff_ne.mpr c25
                                have c25b1 : ((IntKind.u64.wrap (x7_15)) != 0) = true := bne_iff_ne.mpr c25
                                by_cases c26 : x8_5 > (IntKind.u64.wrap (Int.tdiv (IntKind.u64.wrap (18446744073709551615 - (IntKind.u64.wrap (t150)))) (IntKind.u64.wrap (x7_15))))
                                · rw [if_pos c26] at H
                                  have c26b0 : decide ((IntKind.u64.wrap (Int.tdiv (IntKind.u64.wrap (18446744073709551615 - (IntKind.u64.wrap (t150)))) (IntKind.u64.wrap (x7_15)))) < x8_5) = true := decide_eq_true c26
                                  clear c26
                                  have H' := Aside0.mk H
                                  clear H
                                  have p22 : 0 ≤ (x10_5 : Int) := of_decide_eq_true (by first | (with_reducible assumption) | assumption)
                                  have q22 : x10_5 < (x0_15.size : Int) := of_decide_eq_true (by first | (with_reducible assumption) | assumption)
                                  have hx22 := bt_at x0_15 x10_5
                                  replace p22 := eq_true p22
                                  replace q22 := eq_true q22
                                  go_wp2_with (first | ((with_reducible refine gate_callee (f := 32) rfl ?_); refine goesL_ (some 51) rfl rfl Tryd.func32 (by kernel_rfl) rfl #[.int .u8 (bt x0_15 x10_5), .int .i64 x7_15] rfl (by (try simp only [List.map_toArray, List.map_cons, List.map_nil]); first | done | rfl | (simp only [List.length_drop, List.length_take]; rfl)) ?_; (with_reducible refine (slotcoderef01_Digit.calls k5 (bt x0_15 x10_5) x7_15 t150 _ A23.out).mono ?_); rintro e w' ⟨rfl, ⟨nd, rfl⟩⟩; refine ⟨_, rfl, ?_⟩))
                                  go_roundg k5
                                  case measure => have := HJ1.out; have := HJ5.out; have := HJ8.out; have := HJ15.out; have := HK5.out; omega
                                  case rel => exact ⟨(IntKind.u64.wrap ((IntKind.u64.wrap (x8_5 * (IntKind.u64.wrap (x7_15)))) + (IntKind.u64.wrap (t150)))), (true), (wrap64 (x10_5 + 1)), (by first | rfl | (simp; done) | (simp [*]; done)), (by first | rfl | (simp; done) | (simp [*]; done)), (by first | rfl | (simp; done) | (simp [*]; done)), H', ⟨by have := HJ1.out; have := HJ5.out; have := HJ8.out; have := HJ15.out; have := HK5.out; omega⟩, by repeat (first | exact Drawn0.refl _ | apply Drawn0.step)⟩
                                · rw [if_neg c26] at H
                                  have c26b0 : decide ((IntKind.u64.wrap (Int.tdiv (IntKind.u64.wrap (18446744073709551615 - (IntKind.u64.wrap (t150)))) (IntKind.u64.wrap (x7_15)))) < x8_5) = false := decide_eq_false c26
                                  clear c26
                                  have H' := Aside0.mk H
                                  clear H
                                  have p22 : 0 ≤ (x10_5 : Int) := of_decide_eq_true (by first | (with_reducible assumption) | assumption)
                                  have q22 : x10_5 < (x0_15.size : Int) := of_decide_eq_true (by first | (with_reducible assumption) | assumption)
                                  have hx22 := bt_at x0_15 x10_5
                                  replace p22 := eq_true p22
                                  replace q22 := eq_true q22
                                  go_wp2_with (first | ((with_reducible refine gate_callee (f := 32) rfl ?_); refine goesL_ (some 51) rfl rfl Tryd.func32 (by kernel_rfl) rfl #[.int .u8 (bt x0_15 x10_5), .int .i64 x7_15] rfl (by (try simp only [List.map_toArray, List.map_cons, List.map_nil]); first | done | rfl | (simp only [List.length_drop, List.length_take]; rfl)) ?_; (with_reducible refine (slotcoderef01_Digit.calls k5 (bt x0_15 x10_5) x7_15 t150 _ A23.out).mono ?_); rintro e w' ⟨rfl, ⟨nd, rfl⟩⟩; refine ⟨_, rfl, ?_⟩))
                                  go_roundg k5
                                  case measure => have := HJ1.out; have := HJ5.out; have := HJ8.out; have := HJ15.out; have := HK5.out; omega
                                  case rel => exact ⟨(IntKind.u64.wrap ((IntKind.u64.wrap (x8_5 * (IntKind.u64.wrap (x7_15)))) + (IntKind.u64.wrap (t150)))), (x9_5), (wrap64 (x10_5 + 1)), (by first | rfl | (simp; done) | (simp [*]; done)), (by first | rfl | (simp; done) | (simp [*]; done)), (by first | rfl | (simp; done) | (simp [*]; done)), H', ⟨by have := HJ1.out; have := HJ5.out; have := HJ8.out; have := HJ15.out; have := HK5.out; omega⟩, by repeat (first | exact Drawn0.refl _ | apply Drawn0.step)⟩
                          · rw [if_neg c21] at H
                            exact absurd H (by simp)
                        · rw [if_neg c20] at H
                          have c20b0 : decide (x10_5 < (x0_15.size : Int)) = false := decide_eq_false c20
                          clear c20
                          simp only [Option.some.injEq, Prod.mk.injEq] at H
                          obtain ⟨rfl, rfl, rfl, rfl⟩ := H
                          go_wp2
                          refine bodyPost_ret (results_list (rs := [.tmp 2, .tmp 3, .tmp 4, .tmp 5]) rfl (by simp) (.tmp (.tmp (.tmp (.tmp .nil))))) rfl ?_
                          exact ⟨by first | rfl | (simp; done) | (simp [*]; done), by repeat (first | exact Drawn0.refl _ | apply Drawn0.step)⟩

end Go.Proofs.YthahmmmkojeddaaDoor.PAll
