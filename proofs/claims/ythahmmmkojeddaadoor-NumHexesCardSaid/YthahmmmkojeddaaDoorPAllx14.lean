-- By a program of this session (xp.py) over the kit's print, with texts of this session.
import Derived.Test.YthahmmmkojeddaaDoorPAllx0
import Derived.Test.YthahmmmkojeddaaDoorPAllx12
import Derived.Test.YthahmmmkojeddaaDoorPAllx13
namespace Go.Proofs.YthahmmmkojeddaaDoor.PAll
open Go.RowKit Go.Proofs.YthahmmmkojeddaaDoorW.PrintWords Go.Proofs.YthahmmmkojeddaaDoorW.PrintLast Go.Proofs.YthahmmmkojeddaaDoorW.PrintMore
attribute [local go_sem] max2_int min2_int max_two min_two max_three min_three max_four min_four   -- for this text's walks alone
set_option linter.unusedVariables false
set_option linter.unusedSimpArgs false

/-! ### slotcoderef01_Parse: function 11 -/
def slotcoderef01_Parse.j0 : Nat → Int → Bool → Int → Bool → Option (Int × Int)
  | 0, _, _, _, _ => none
  | k + 1, x1, x6, x7, x48 => if x48 = true then (some (0, 4)) else (if x6 = true then ((slotcoderef01_Extend.f k (IntKind.u64.wrap (-x7)) x1).bind fun t158 => (some (t158, 0))) else ((slotcoderef01_Extend.f k x7 x1).bind fun t159 => (some (t159, 0))))
def slotcoderef01_Parse.f (k : Nat) (a0 : ByteArray) (a1 : Int) : Option (Int × Int) := (slotcoderef01_Read.f k a0).bind fun bt151 => (if bt151.2.2.2 = true then ((slotcoderef01_Width.f a1).bind fun t155 => (if t155 = true then (if bt151.2.2.1 = true then (slotcoderef01_Parse.j0 k a1 bt151.1 bt151.2.1 true) else (if bt151.1 = true then ((slotcoderef01_Power.f k (wrap64 (a1 - 1))).bind fun t156 => (if bt151.2.1 > t156 then (slotcoderef01_Parse.j0 k a1 bt151.1 bt151.2.1 true) else (slotcoderef01_Parse.j0 k a1 bt151.1 bt151.2.1 false))) else (if a1 < 64 then ((slotcoderef01_Power.f k a1).bind fun t157 => (slotcoderef01_Parse.j0 k a1 bt151.1 bt151.2.1 (decide (bt151.2.1 ≥ t157)))) else (slotcoderef01_Parse.j0 k a1 bt151.1 bt151.2.1 false)))) else (slotcoderef01_Parse.j0 k a1 bt151.1 bt151.2.1 true))) else (some (0, 3)))
theorem slotcoderef01_Parse.mono_l : ∀ k, (∀ y0 y1 y2 y3, LeO (slotcoderef01_Parse.j0 k y0 y1 y2 y3) (slotcoderef01_Parse.j0 (k + 1) y0 y1 y2 y3))
  | 0 => fun _ _ _ _ r h => by simp [slotcoderef01_Parse.j0] at h
  | k + 1 => by
    have ih0 := slotcoderef01_Parse.mono_l k
    · intro y0 y1 y2 y3
      unfold slotcoderef01_Parse.j0
      repeat' first
      | (with_reducible exact ih0 _ _ _ _)
      | (with_reducible exact slotcoderef01_Extend.mono _ _ _)
      | (with_reducible exact slotcoderef01_Power.mono _ _)
      | (with_reducible exact slotcoderef01_Read.mono _ _)
      | (with_reducible exact LeO.refl _)
      | (with_reducible exact LeO.none _)
      | (with_reducible refine LeO.ite ?_ ?_)
      | (with_reducible refine LeO.bind ?_ (fun _ => ?_))
      | exact ih0 _ _ _ _
      | exact slotcoderef01_Extend.mono _ _ _
      | exact slotcoderef01_Power.mono _ _
      | exact slotcoderef01_Read.mono _ _
      | exact LeO.none _
      | refine LeO.ite ?_ ?_
      | refine LeO.bind ?_ (fun _ => ?_)
theorem slotcoderef01_Parse.mono : ∀ a0 a1 k, LeO (slotcoderef01_Parse.f k a0 a1) (slotcoderef01_Parse.f (k + 1) a0 a1) := by
  intro a0 a1 k
  have ih0 := slotcoderef01_Parse.mono_l k
  unfold slotcoderef01_Parse.f
  repeat' first
      | (with_reducible exact ih0 _ _ _ _)
      | (with_reducible exact slotcoderef01_Extend.mono _ _ _)
      | (with_reducible exact slotcoderef01_Power.mono _ _)
      | (with_reducible exact slotcoderef01_Read.mono _ _)
      | (with_reducible exact LeO.refl _)
      | (with_reducible exact LeO.none _)
      | (with_reducible refine LeO.ite ?_ ?_)
      | (with_reducible refine LeO.bind ?_ (fun _ => ?_))
      | exact ih0 _ _ _ _
      | exact slotcoderef01_Extend.mono _ _ _
      | exact slotcoderef01_Power.mono _ _
      | exact slotcoderef01_Read.mono _ _
      | exact LeO.none _
      | refine LeO.ite ?_ ?_
      | refine LeO.bind ?_ (fun _ => ?_)
set_option maxHeartbeats 8000000 in
set_option maxRecDepth 100000 in
theorem slotcoderef01_Parse.calls (k : Nat) (a0 : ByteArray) (a1 : Int) (r1 : Int) (r2 : Int) (w : World) (h : slotcoderef01_Parse.f k a0 a1 = some (r1, r2)) :
    Calls Tryd.prog 11 #[.string a0, .int .i64 a1] w fun e w' => e = .returned (.tuple #[.int .i64 r1, .int .i64 r2]) ∧ Drawn0 w w' := by
  have H : ((slotcoderef01_Read.f k a0).bind fun bt151 => (if bt151.2.2.2 = true then ((slotcoderef01_Width.f a1).bind fun t155 => (if t155 = true then (if bt151.2.2.1 = true then (slotcoderef01_Parse.j0 k a1 bt151.1 bt151.2.1 true) else (if bt151.1 = true then ((slotcoderef01_Power.f k (wrap64 (a1 - 1))).bind fun t156 => (if bt151.2.1 > t156 then (slotcoderef01_Parse.j0 k a1 bt151.1 bt151.2.1 true) else (slotcoderef01_Parse.j0 k a1 bt151.1 bt151.2.1 false))) else (if a1 < 64 then ((slotcoderef01_Power.f k a1).bind fun t157 => (slotcoderef01_Parse.j0 k a1 bt151.1 bt151.2.1 (decide (bt151.2.1 ≥ t157)))) else (slotcoderef01_Parse.j0 k a1 bt151.1 bt151.2.1 false)))) else (slotcoderef01_Parse.j0 k a1 bt151.1 bt151.2.1 true))) else (some (0, 3)))) = some (r1, r2) := h
  clear h
  replace H := Option.bind_eq_some_iff.mp H
  obtain ⟨⟨t151, t152, t153, t154⟩, A30, H⟩ := H
  replace H : (if t154 = true then ((slotcoderef01_Width.f a1).bind fun t155 => (if t155 = true then (if t153 = true then (slotcoderef01_Parse.j0 k a1 t151 t152 true) else (if t151 = true then ((slotcoderef01_Power.f k (wrap64 (a1 - 1))).bind fun t156 => (if t152 > t156 then (slotcoderef01_Parse.j0 k a1 t151 t152 true) else (slotcoderef01_Parse.j0 k a1 t151 t152 false))) else (if a1 < 64 then ((slotcoderef01_Power.f k a1).bind fun t157 => (slotcoderef01_Parse.j0 k a1 t151 t152 (decide (t152 ≥ t157)))) else (slotcoderef01_Parse.j0 k a1 t151 t152 false)))) else (slotcoderef01_Parse.j0 k a1 t151 t152 true))) else (some (0, 3))) = some (r1, r2) := H
  have A3 := Aside0.mk A30
  clear A30
  by_cases c4 : t154 = true
  · subst c4
    have H1 : ((slotcoderef01_Width.f a1).bind fun t155 => (if t155 = true then (if t153 = true then (slotcoderef01_Parse.j0 k a1 t151 t152 true) else (if t151 = true then ((slotcoderef01_Power.f k (wrap64 (a1 - 1))).bind fun t156 => (if t152 > t156 then (slotcoderef01_Parse.j0 k a1 t151 t152 true) else (slotcoderef01_Parse.j0 k a1 t151 t152 false))) else (if a1 < 64 then ((slotcoderef01_Power.f k a1).bind fun t157 => (slotcoderef01_Parse.j0 k a1 t151 t152 (decide (t152 ≥ t157)))) else (slotcoderef01_Parse.j0 k a1 t151 t152 false)))) else (slotcoderef01_Parse.j0 k a1 t151 t152 true))) = some (r1, r2) := by rw [if_pos rfl] at H; exact H
    clear H
    have H := H1
    clear H1
    have HC5 := Aside0.mk H
    clear H
    go_enter Tryd.func11, Tryd.ntmps11
    go_upto_region 4 with (first | ((with_reducible refine gate_callee (f := 26) rfl ?_); refine goesL_ (some 12) rfl rfl Tryd.func26 (by kernel_rfl) rfl #[.string a0] rfl (by (try simp only [List.map_toArray, List.map_cons, List.map_nil]); first | done | rfl | (simp only [List.length_drop, List.length_take]; rfl)) ?_; (with_reducible refine (slotcoderef01_Read.calls k a0 t151 t152 t153 true _ A3.out).mono ?_); rintro e w' ⟨rfl, ⟨nd, rfl⟩⟩; refine ⟨_, rfl, ?_⟩))
    (try simp only [Act.put, List.setIfInBounds_toArray, List.set_cons_zero, List.set_cons_succ])
    go_cut [48] (fun v48 wc => ∃ (kq : Nat) (x48_4 : Bool), v48 = .bool x48_4 ∧ Aside0 (slotcoderef01_Parse.j0 kq a1 t151 t152 x48_4 = some (r1, r2)) ∧ Aside0 (kq ≤ k) ∧ Drawn0 w wc)
    case first =>
      have H := HC5.out
      clear HC5
      replace H := Option.bind_eq_some_iff.mp H
      obtain ⟨t155, A60, H⟩ := H
      replace H : (if t155 = true then (if t153 = true then (slotcoderef01_Parse.j0 k a1 t151 t152 true) else (if t151 = true then ((slotcoderef01_Power.f k (wrap64 (a1 - 1))).bind fun t156 => (if t152 > t156 then (slotcoderef01_Parse.j0 k a1 t151 t152 true) else (slotcoderef01_Parse.j0 k a1 t151 t152 false))) else (if a1 < 64 then ((slotcoderef01_Power.f k a1).bind fun t157 => (slotcoderef01_Parse.j0 k a1 t151 t152 (decide (t152 ≥ t157)))) else (slotcoderef01_Parse.j0 k a1 t151 t152 false)))) else (slotcoderef01_Parse.j0 k a1 t151 t152 true)) = some (r1, r2) := H
      have A6 := Aside0.mk A60
      clear A60
      by_cases c7 : t155 = true
      · subst c7
        have H1 : (if t153 = true then (slotcoderef01_Parse.j0 k a1 t151 t152 true) else (if t151 = true then ((slotcoderef01_Power.f k (wrap64 (a1 - 1))).bind fun t156 => (if t152 > t156 then (slotcoderef01_Parse.j0 k a1 t151 t152 true) else (slotcoderef01_Parse.j0 k a1 t151 t152 false))) else (if a1 < 64 then ((slotcoderef01_Power.f k a1).bind fun t157 => (slotcoderef01_Parse.j0 k a1 t151 t152 (decide (t152 ≥ t157)))) else (slotcoderef01_Parse.j0 k a1 t151 t152 false)))) = some (r1, r2) := by rw [if_pos rfl] at H; exact H
        clear H
        have H := H1
        clear H1
        by_cases c8 : t153 = true
        · subst c8
          have H1 : (slotcoderef01_Parse.j0 k a1 t151 t152 true) = some (r1, r2) := by rw [if_pos rfl] at H; exact H
          clear H
          have H := H1
          clear H1
          have H' := Aside0.mk H
          clear H
          go_wp2_with (first | ((with_reducible refine gate_callee (f := 17) rfl ?_); refine goesL_ (some 20) rfl rfl Tryd.func17 (by kernel_rfl) rfl #[.int .i64 a1] rfl (by (try simp only [List.map_toArray, List.map_cons, List.map_nil]); first | done | rfl | (simp only [List.length_drop, List.length_take]; rfl)) ?_; (with_reducible refine (slotcoderef01_Width.calls a1 true _ A6.out).mono ?_); rintro e w' ⟨rfl, ⟨nd, rfl⟩⟩; refine ⟨_, rfl, ?_⟩))
          go_meet
          case rel => exact ⟨_, (true), (by first | rfl | (simp; done) | (simp [*]; done)), H', ⟨by first | omega | exact Nat.le_refl _⟩, by repeat (first | exact Drawn0.refl _ | apply Drawn0.step)⟩
        · replace c8 := Bool.eq_false_iff.mpr c8
          subst c8
          have H1 : (if t151 = true then ((slotcoderef01_Power.f k (wrap64 (a1 - 1))).bind fun t156 => (if t152 > t156 then (slotcoderef01_Parse.j0 k a1 t151 t152 true) else (slotcoderef01_Parse.j0 k a1 t151 t152 false))) else (if a1 < 64 then ((slotcoderef01_Power.f k a1).bind fun t157 => (slotcoderef01_Parse.j0 k a1 t151 t152 (decide (t152 ≥ t157)))) else (slotcoderef01_Parse.j0 k a1 t151 t152 false))) = some (r1, r2) := by rw [if_neg (show ¬ (false = true) by decide)] at H; exact H
          clear H
          have H := H1
          clear H1
          by_cases c9 : t151 = true
          · subst c9
            have H1 : ((slotcoderef01_Power.f k (wrap64 (a1 - 1))).bind fun t156 => (if t152 > t156 then (slotcoderef01_Parse.j0 k a1 true t152 true) else (slotcoderef01_Parse.j0 k a1 true t152 false))) = some (r1, r2) := by rw [if_pos rfl] at H; exact H
            clear H
            have H := H1
            clear H1
            replace H := Option.bind_eq_some_iff.mp H
            obtain ⟨t156, A100, H⟩ := H
            replace H : (if t152 > t156 then (slotcoderef01_Parse.j0 k a1 true t152 true) else (slotcoderef01_Parse.j0 k a1 true t152 false)) = some (r1, r2) := H
            have A10 := Aside0.mk A100
            clear A100
            by_cases c11 : t152 > t156
            · rw [if_pos c11] at H
              have c11b0 : decide (t156 < t152) = true := decide_eq_true c11
              clear c11
              (first | rw [c11b0] | (simp only [i64_w, i32_w]; rw [c11b0]) | skip)
              have H' := Aside0.mk H
              clear H
              go_wp2_with (first | ((with_reducible refine gate_callee (f := 17) rfl ?_); refine goesL_ (some 20) rfl rfl Tryd.func17 (by kernel_rfl) rfl #[.int .i64 a1] rfl (by (try simp only [List.map_toArray, List.map_cons, List.map_nil]); first | done | rfl | (simp only [List.length_drop, List.length_take]; rfl)) ?_; (with_reducible refine (slotcoderef01_Width.calls a1 true _ A6.out).mono ?_); rintro e w' ⟨rfl, ⟨nd, rfl⟩⟩; refine ⟨_, rfl, ?_⟩) | (go_at_call 27; (with_reducible refine (slotcoderef01_Power.calls k (wrap64 (a1 - 1)) t156 _ A10.out).mono ?_); rintro e w' ⟨rfl, ⟨nd, rfl⟩⟩))
              go_meet
              case rel => exact ⟨_, (true), (by first | rfl | (simp; done) | (simp [*]; done)), H', ⟨by first | omega | exact Nat.le_refl _⟩, by repeat (first | exact Drawn0.refl _ | apply Drawn0.step)⟩
            · rw [if_neg c11] at H
              have c11b0 : decide (t156 < t152) = false := decide_eq_false c11
              clear c11
              (first | rw [c11b0] | (simp only [i64_w, i32_w]; rw [c11b0]) | skip)
              have H' := Aside0.mk H
              clear H
              go_wp2_with (first | ((with_reducible refine gate_callee (f := 17) rfl ?_); refine goesL_ (some 20) rfl rfl Tryd.func17 (by kernel_rfl) rfl #[.int .i64 a1] rfl (by (try simp only [List.map_toArray, List.map_cons, List.map_nil]); first | done | rfl | (simp only [List.length_drop, List.length_take]; rfl)) ?_; (with_reducible refine (slotcoderef01_Width.calls a1 true _ A6.out).mono ?_); rintro e w' ⟨rfl, ⟨nd, rfl⟩⟩; refine ⟨_, rfl, ?_⟩) | (go_at_call 27; (with_reducible refine (slotcoderef01_Power.calls k (wrap64 (a1 - 1)) t156 _ A10.out).mono ?_); rintro e w' ⟨rfl, ⟨nd, rfl⟩⟩))
              go_meet
              case rel => exact ⟨_, (false), (by first | rfl | (simp; done) | (simp [*]; done)), H', ⟨by first | omega | exact Nat.le_refl _⟩, by repeat (first | exact Drawn0.refl _ | apply Drawn0.step)⟩
          · replace c9 := Bool.eq_false_iff.mpr c9
            subst c9
            have H1 : (if a1 < 64 then ((slotcoderef01_Power.f k a1).bind fun t157 => (slotcoderef01_Parse.j0 k a1 false t152 (decide (t152 ≥ t157)))) else (slotcoderef01_Parse.j0 k a1 false t152 false)) = some (r1, r2) := by rw [if_neg (show ¬ (false = true) by decide)] at H; exact H
            clear H
            have H := H1
            clear H1
            by_cases c12 : a1 < 64
            · rw [if_pos c12] at H
              have c12b0 : decide (a1 < 64) = true := decide_eq_true c12
              clear c12
              replace H := Option.bind_eq_some_iff.mp H
              obtain ⟨t157, A130, H⟩ := H
              replace H : (slotcoderef01_Parse.j0 k a1 false t152 (decide (t152 ≥ t157))) = some (r1, r2) := H
              have A13 := Aside0.mk A130
              clear A130
              have H' := Aside0.mk H
              clear H
              go_wp2_with (first | ((with_reducible refine gate_callee (f := 17) rfl ?_); refine goesL_ (some 20) rfl rfl Tryd.func17 (by kernel_rfl) rfl #[.int .i64 a1] rfl (by (try simp only [List.map_toArray, List.map_cons, List.map_nil]); first | done | rfl | (simp only [List.length_drop, List.length_take]; rfl)) ?_; (with_reducible refine (slotcoderef01_Width.calls a1 true _ A6.out).mono ?_); rintro e w' ⟨rfl, ⟨nd, rfl⟩⟩; refine ⟨_, rfl, ?_⟩) | (go_at_call 27; (with_reducible refine (slotcoderef01_Power.calls k a1 t157 _ A13.out).mono ?_); rintro e w' ⟨rfl, ⟨nd, rfl⟩⟩))
              go_meet
              case rel => exact ⟨_, (decide (t152 ≥ t157)), (by first | rfl | (simp; done) | (simp [*]; done)), H', ⟨by first | omega | exact Nat.le_refl _⟩, by repeat (first | exact Drawn0.refl _ | apply Drawn0.step)⟩
            · rw [if_neg c12] at H
              have c12b0 : decide (a1 < 64) = false := decide_eq_false c12
              clear c12
              have H' := Aside0.mk H
              clear H
              go_wp2_with (first | ((with_reducible refine gate_callee (f := 17) rfl ?_); refine goesL_ (some 20) rfl rfl Tryd.func17 (by kernel_rfl) rfl #[.int .i64 a1] rfl (by (try simp only [List.map_toArray, List.map_cons, List.map_nil]); first | done | rfl | (simp only [List.length_drop, List.length_take]; rfl)) ?_; (with_reducible refine (slotcoderef01_Width.calls a1 true _ A6.out).mono ?_); rintro e w' ⟨rfl, ⟨nd, rfl⟩⟩; refine ⟨_, rfl, ?_⟩))
              go_meet
              case rel => exact ⟨_, (false), (by first | rfl | (simp; done) | (simp [*]; done)), H', ⟨by first | omega | exact Nat.le_refl _⟩, by repeat (first | exact Drawn0.refl _ | apply Drawn0.step)⟩
      · replace c7 := Bool.eq_false_iff.mpr c7
        subst c7
        have H1 : (slotcoderef01_Parse.j0 k a1 t151 t152 true) = some (r1, r2) := by rw [if_neg (show ¬ (false = true) by decide)] at H; exact H
        clear H
        have H := H1
        clear H1
        have H' := Aside0.mk H
        clear H
        go_wp2_with (first | ((with_reducible refine gate_callee (f := 17) rfl ?_); refine goesL_ (some 20) rfl rfl Tryd.func17 (by kernel_rfl) rfl #[.int .i64 a1] rfl (by (try simp only [List.map_toArray, List.map_cons, List.map_nil]); first | done | rfl | (simp only [List.length_drop, List.length_take]; rfl)) ?_; (with_reducible refine (slotcoderef01_Width.calls a1 false _ A6.out).mono ?_); rintro e w' ⟨rfl, ⟨nd, rfl⟩⟩; refine ⟨_, rfl, ?_⟩))
        go_meet
        case rel => exact ⟨_, (true), (by first | rfl | (simp; done) | (simp [*]; done)), H', ⟨by first | omega | exact Nat.le_refl _⟩, by repeat (first | exact Drawn0.refl _ | apply Drawn0.step)⟩
    case rest =>
      clear HC5
      try clear c1
      try clear c2
      try clear p2
      try clear c4
      try clear p6
      try clear c7
      try clear c8
      try clear c9
      try clear c11
      try clear c11b0
      try clear c12
      try clear c12b0
      obtain ⟨kq, x48_4, rfl, HA, HJ4, ⟨mc4, rfl⟩⟩ := hcut
      cases kq with
      | zero => exact absurd HA.out (by simp [slotcoderef01_Parse.j0])
      | succ kj4 =>
        have H := HA.out
        clear HA
        simp only [slotcoderef01_Parse.j0] at H
        by_cases c14 : x48_4 = true
        · subst c14
          have H1 : (some (0, 4)) = some (r1, r2) := by rw [if_pos rfl] at H; exact H
          clear H
          have H := H1
          clear H1
          simp only [Option.some.injEq, Prod.mk.injEq] at H
          obtain ⟨rfl, rfl⟩ := H
          go_wp2
          go_ret2
          exact ⟨by first | rfl | (simp; done) | (simp [*]; done), by repeat (first | exact Drawn0.refl _ | apply Drawn0.step)⟩
        · replace c14 := Bool.eq_false_iff.mpr c14
          subst c14
          have H1 : (if t151 = true then ((slotcoderef01_Extend.f kj4 (IntKind.u64.wrap (-t152)) a1).bind fun t158 => (some (t158, 0))) else ((slotcoderef01_Extend.f kj4 t152 a1).bind fun t159 => (some (t159, 0)))) = some (r1, r2) := by rw [if_neg (show ¬ (false = true) by decide)] at H; exact H
          clear H
          have H := H1
          clear H1
          by_cases c15 : t151 = true
          · subst c15
            have H1 : ((slotcoderef01_Extend.f kj4 (IntKind.u64.wrap (-t152)) a1).bind fun t158 => (some (t158, 0))) = some (r1, r2) := by rw [if_pos rfl] at H; exact H
            clear H
            have H := H1
            clear H1
            replace H := Option.bind_eq_some_iff.mp H
            obtain ⟨t158, A160, H⟩ := H
            replace H : (some (t158, 0)) = some (r1, r2) := H
            have A16 := Aside0.mk A160
            clear A160
            simp only [Option.some.injEq, Prod.mk.injEq] at H
            obtain ⟨rfl, rfl⟩ := H
            go_wp2_with (first | ((with_reducible refine gate_callee (f := 15) rfl ?_); refine goesL_ (some 53) rfl rfl Tryd.func15 (by kernel_rfl) rfl #[.int .u64 (IntKind.u64.wrap (-t152)), .int .i64 a1] rfl (by (try simp only [List.map_toArray, List.map_cons, List.map_nil]); first | done | rfl | (simp only [List.length_drop, List.length_take]; rfl)) ?_; (with_reducible refine (slotcoderef01_Extend.calls kj4 (IntKind.u64.wrap (-t152)) a1 t158 _ A16.out).mono ?_); rintro e w' ⟨rfl, ⟨nd, rfl⟩⟩; refine ⟨_, rfl, ?_⟩))
            go_ret2
            exact ⟨by first | rfl | (simp; done) | (simp [*]; done), by repeat (first | exact Drawn0.refl _ | apply Drawn0.step)⟩
          · replace c15 := Bool.eq_false_iff.mpr c15
            subst c15
            have H1 : ((slotcoderef01_Extend.f kj4 t152 a1).bind fun t159 => (some (t159, 0))) = some (r1, r2) := by rw [if_neg (show ¬ (false = true) by decide)] at H; exact H
            clear H
            have H := H1
            clear H1
            replace H := Option.bind_eq_some_iff.mp H
            obtain ⟨t159, A170, H⟩ := H
            replace H : (some (t159, 0)) = some (r1, r2) := H
            have A17 := Aside0.mk A170
            clear A170
            simp only [Option.some.injEq, Prod.mk.injEq] at H
            obtain ⟨rfl, rfl⟩ := H
            go_wp2_with (first | ((with_reducible refine gate_callee (f := 15) rfl ?_); refine goesL_ (some 56) rfl rfl Tryd.func15 (by kernel_rfl) rfl #[.int .u64 t152, .int .i64 a1] rfl (by (try simp only [List.map_toArray, List.map_cons, List.map_nil]); first | done | rfl | (simp only [List.length_drop, List.length_take]; rfl)) ?_; (with_reducible refine (slotcoderef01_Extend.calls kj4 t152 a1 t159 _ A17.out).mono ?_); rintro e w' ⟨rfl, ⟨nd, rfl⟩⟩; refine ⟨_, rfl, ?_⟩))
            go_ret2
            exact ⟨by first | rfl | (simp; done) | (simp [*]; done), by repeat (first | exact Drawn0.refl _ | apply Drawn0.step)⟩
  · replace c4 := Bool.eq_false_iff.mpr c4
    subst c4
    have H1 : (some (0, 3)) = some (r1, r2) := by rw [if_neg (show ¬ (false = true) by decide)] at H; exact H
    clear H
    have H := H1
    clear H1
    simp only [Option.some.injEq, Prod.mk.injEq] at H
    obtain ⟨rfl, rfl⟩ := H
    go_enter Tryd.func11, Tryd.ntmps11
    go_wp2_with (first | ((with_reducible refine gate_callee (f := 26) rfl ?_); refine goesL_ (some 12) rfl rfl Tryd.func26 (by kernel_rfl) rfl #[.string a0] rfl (by (try simp only [List.map_toArray, List.map_cons, List.map_nil]); first | done | rfl | (simp only [List.length_drop, List.length_take]; rfl)) ?_; (with_reducible refine (slotcoderef01_Read.calls k a0 t151 t152 t153 false _ A3.out).mono ?_); rintro e w' ⟨rfl, ⟨nd, rfl⟩⟩; refine ⟨_, rfl, ?_⟩))
    go_ret2
    exact ⟨by first | rfl | (simp; done) | (simp [*]; done), by repeat (first | exact Drawn0.refl _ | apply Drawn0.step)⟩

end Go.Proofs.YthahmmmkojeddaaDoor.PAll
