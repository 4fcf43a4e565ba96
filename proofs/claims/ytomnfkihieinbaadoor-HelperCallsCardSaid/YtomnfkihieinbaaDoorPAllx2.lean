-- By a program of this session (xp.py) over the kit's print, with texts of this session.
import Derived.Test.YtomnfkihieinbaaDoorPAllx0
import Derived.Test.YtomnfkihieinbaaDoorPAllx1
namespace Go.Proofs.YtomnfkihieinbaaDoor.PAll
open Go.RowKit Go.Proofs.YtomnfkihieinbaaDoorW.PrintWords Go.Proofs.YtomnfkihieinbaaDoorW.PrintLast Go.Proofs.YtomnfkihieinbaaDoorW.PrintMore
attribute [local go_sem] max2_int min2_int max_two min_two max_three min_three max_four min_four   -- for this text's walks alone
set_option linter.unusedVariables false
set_option linter.unusedSimpArgs false

/-! ### slotcoderef21_Same: function 15 -/
def slotcoderef21_Same.l0 : Nat → List (S42) → List (S42) → Int → Option (Bool)
  | 0, _, _, _ => none
  | k + 1, x0, x1, x5 => if x5 < (x0.length : Int) then (if 0 ≤ x5 then (if x5 < (x1.length : Int) then ((slotcoderef01_Same.f k ((rd_T42 x0 x5).f0) ((rd_T42 x1 x5).f0)).bind fun t114 => (if t114 = true then ((slotcoderef01_Same.f k ((rd_T42 x0 x5).f1) ((rd_T42 x1 x5).f1)).bind fun t117 => (if t117 = true then (slotcoderef21_Same.l0 k x0 x1 (wrap64 (x5 + 1))) else (some false))) else (some false))) else (none)) else (none)) else (some true)
def slotcoderef21_Same.f (k : Nat) (l0 : List (S42)) (l1 : List (S42)) : Option (Bool) := if (l0.length : Int) = (l1.length : Int) then (slotcoderef21_Same.l0 k l0 l1 0) else (some false)
theorem slotcoderef21_Same.mono_l : ∀ k, (∀ y0 y1 y2, LeO (slotcoderef21_Same.l0 k y0 y1 y2) (slotcoderef21_Same.l0 (k + 1) y0 y1 y2))
  | 0 => fun _ _ _ r h => by simp [slotcoderef21_Same.l0] at h
  | k + 1 => by
    have ih0 := slotcoderef21_Same.mono_l k
    · intro y0 y1 y2
      unfold slotcoderef21_Same.l0
      repeat' first
      | (with_reducible exact ih0 _ _ _)
      | (with_reducible exact slotcoderef01_Same.mono _ _ _)
      | (with_reducible exact LeO.refl _)
      | (with_reducible exact LeO.none _)
      | (with_reducible refine LeO.ite ?_ ?_)
      | (with_reducible refine LeO.bind ?_ (fun _ => ?_))
      | exact ih0 _ _ _
      | exact slotcoderef01_Same.mono _ _ _
      | exact LeO.none _
      | refine LeO.ite ?_ ?_
      | refine LeO.bind ?_ (fun _ => ?_)
theorem slotcoderef21_Same.mono : ∀ a0 a1 k, LeO (slotcoderef21_Same.f k a0 a1) (slotcoderef21_Same.f (k + 1) a0 a1) := by
  intro a0 a1 k
  have ih0 := slotcoderef21_Same.mono_l k
  unfold slotcoderef21_Same.f
  repeat' first
      | (with_reducible exact ih0 _ _ _)
      | (with_reducible exact slotcoderef01_Same.mono _ _ _)
      | (with_reducible exact LeO.refl _)
      | (with_reducible exact LeO.none _)
      | (with_reducible refine LeO.ite ?_ ?_)
      | (with_reducible refine LeO.bind ?_ (fun _ => ?_))
      | exact ih0 _ _ _
      | exact slotcoderef01_Same.mono _ _ _
      | exact LeO.none _
      | refine LeO.ite ?_ ?_
      | refine LeO.bind ?_ (fun _ => ?_)
set_option maxHeartbeats 8000000 in
set_option maxRecDepth 100000 in
theorem slotcoderef21_Same.calls (k : Nat) (A0 : Option Addr) (c0 : Nat) (l0 : List (S42)) (A1 : Option Addr) (c1 : Nat) (l1 : List (S42)) (r : Bool) (w : World) (hr0 : Kd.C k42 w A0 l0.length l0) (hc0 : l0.length ≤ c0) (hr1 : Kd.C k42 w A1 l1.length l1) (hc1 : l1.length ≤ c1) (h : slotcoderef21_Same.f k l0 l1 = some r) :
    Calls Tryd.prog 15 #[.slice A0 l0.length c0, .slice A1 l1.length c1] w fun e w' => e = .returned (.bool r) ∧ Drawn0 w w' := by
  have HR0 := Aside0.mk hr0
  have HC0 := Aside0.mk hc0
  clear hr0 hc0
  have HR1 := Aside0.mk hr1
  have HC1 := Aside0.mk hc1
  clear hr1 hc1
  have H : (if (l0.length : Int) = (l1.length : Int) then (slotcoderef21_Same.l0 k l0 l1 0) else (some false)) = some r := h
  clear h
  by_cases c3 : (l0.length : Int) = (l1.length : Int)
  · rw [if_pos c3] at H
    have c3b0 : ((l0.length : Int) == (l1.length : Int)) = true := beq_iff_eq.mpr c3
    have c3b1 : ((l0.length : Int) != (l1.length : Int)) = false := bne_eq_false_iff_eq.mpr c3
    have c3b2 : (l0.length == l1.length) = true := by first | simpa using c3 | (simp at c3 ⊢; omega)
    clear c3
    have H' := Aside0.mk H
    clear H
    go_enter Tryd.func15, Tryd.ntmps15
    go_wp2
    repeat (go_quiet (fail); try go_wp2)
    go_loopg [5] k (fun kq v5 w' => ∃ (x5_1 : Int), v5 = .int .i64 x5_1 ∧ Aside0 (slotcoderef21_Same.l0 kq l0 l1 x5_1 = some r) ∧ Aside0 (kq ≤ k) ∧ Drawn0 w w')
    case atStart => exact ⟨(0), (by first | rfl | (simp; done) | (simp [*]; done)), H', ⟨Nat.le_refl _⟩, by repeat (first | exact Drawn0.refl _ | apply Drawn0.step)⟩
    case round =>
      clear H'
      try clear c1
      try clear p2
      try clear c3
      try clear c3b0
      try clear c3b1
      try clear c3b2
      obtain ⟨x5_1, rfl, HA, HK1, ⟨m1, rfl⟩⟩ := hrel
      cases gk with
      | zero => exact absurd HA.out (by simp [slotcoderef21_Same.l0])
      | succ k1 =>
        have H := HA.out
        clear HA
        simp only [slotcoderef21_Same.l0] at H
        by_cases c4 : x5_1 < (l0.length : Int)
        · rw [if_pos c4] at H
          have c4b0 : decide (x5_1 < (l0.length : Int)) = true := decide_eq_true c4
          clear c4
          by_cases c5 : 0 ≤ x5_1
          · rw [if_pos c5] at H
            have c5b0 : decide (0 ≤ x5_1) = true := decide_eq_true c5
            clear c5
            by_cases c6 : x5_1 < (l1.length : Int)
            · rw [if_pos c6] at H
              have c6b0 : decide (x5_1 < (l1.length : Int)) = true := decide_eq_true c6
              clear c6
              replace H := Option.bind_eq_some_iff.mp H
              obtain ⟨t114, A70, H⟩ := H
              replace H : (if t114 = true then ((slotcoderef01_Same.f k1 ((rd_T42 l0 x5_1).f1) ((rd_T42 l1 x5_1).f1)).bind fun t117 => (if t117 = true then (slotcoderef21_Same.l0 k1 l0 l1 (wrap64 (x5_1 + 1))) else (some false))) else (some false)) = some r := H
              have A7 := Aside0.mk A70
              clear A70
              by_cases c8 : t114 = true
              · subst c8
                have H1 : ((slotcoderef01_Same.f k1 ((rd_T42 l0 x5_1).f1) ((rd_T42 l1 x5_1).f1)).bind fun t117 => (if t117 = true then (slotcoderef21_Same.l0 k1 l0 l1 (wrap64 (x5_1 + 1))) else (some false))) = some r := by rw [if_pos rfl] at H; exact H
                clear H
                have H := H1
                clear H1
                replace H := Option.bind_eq_some_iff.mp H
                obtain ⟨t117, A90, H⟩ := H
                replace H : (if t117 = true then (slotcoderef21_Same.l0 k1 l0 l1 (wrap64 (x5_1 + 1))) else (some false)) = some r := H
                have A9 := Aside0.mk A90
                clear A90
                by_cases c10 : t117 = true
                · subst c10
                  have H1 : (slotcoderef21_Same.l0 k1 l0 l1 (wrap64 (x5_1 + 1))) = some r := by rw [if_pos rfl] at H; exact H
                  clear H
                  have H := H1
                  clear H1
                  have H' := Aside0.mk H
                  clear H
                  have p112 : 0 ≤ (x5_1 : Int) := of_decide_eq_true (by first | (with_reducible assumption) | assumption)
                  have q112 : x5_1 < (l0.length : Int) := of_decide_eq_true (by first | (with_reducible assumption) | assumption)
                  obtain ⟨ad112, A112_0, c112_0, A112_1, c112_1, e112, hx112_0, hx112_1, hl112_0, hi112_0, hl112_1, hi112_1⟩ := at_T42 HR0.out x5_1 p112 q112
                  cases e112
                  have HR112_0 := Aside0.mk hi112_0
                  have HC112_0 := Aside0.mk hl112_0
                  clear hi112_0 hl112_0
                  have HR112_1 := Aside0.mk hi112_1
                  have HC112_1 := Aside0.mk hl112_1
                  clear hi112_1 hl112_1
                  replace p112 := eq_true p112
                  replace q112 := eq_true q112
                  have p113 : 0 ≤ (x5_1 : Int) := of_decide_eq_true (by first | (with_reducible assumption) | assumption)
                  have q113 : x5_1 < (l1.length : Int) := of_decide_eq_true (by first | (with_reducible assumption) | assumption)
                  obtain ⟨ad113, A113_0, c113_0, A113_1, c113_1, e113, hx113_0, hx113_1, hl113_0, hi113_0, hl113_1, hi113_1⟩ := at_T42 HR1.out x5_1 p113 q113
                  cases e113
                  have HR113_0 := Aside0.mk hi113_0
                  have HC113_0 := Aside0.mk hl113_0
                  clear hi113_0 hl113_0
                  have HR113_1 := Aside0.mk hi113_1
                  have HC113_1 := Aside0.mk hl113_1
                  clear hi113_1 hl113_1
                  replace p113 := eq_true p113
                  replace q113 := eq_true q113
                  go_wp2_with (first | (go_at_call 23; (with_reducible refine (slotcoderef01_Same.calls k1 _ _ ((rd_T42 l0 x5_1).f0) _ _ ((rd_T42 l1 x5_1).f0) true _ ?side1 ?side2 ?side3 ?side4 A7.out).mono ?_); (case side1 => repeat (first | exact HR112_0.out | (with_reducible refine Kd.C_alloc ?_ _) | (with_reducible refine Kd.C_drewN ?_ _) | (with_reducible refine Kd.C_drew ?_))); (case side2 => exact HC112_0.out); (case side3 => repeat (first | exact HR113_0.out | (with_reducible refine Kd.C_alloc ?_ _) | (with_reducible refine Kd.C_drewN ?_ _) | (with_reducible refine Kd.C_drew ?_))); (case side4 => exact HC113_0.out); rintro e w' ⟨rfl, ⟨nd, rfl⟩⟩; (try first | exact ⟨rfl, _, World.drewN_drewN _ _ _⟩ | exact ⟨rfl, _, Eq.trans (World.drewN_drewN _ _ _) (congrArg (World.drewN _) (Nat.add_assoc _ _ _))⟩); have p115 : 0 ≤ (x5_1 : Int) := of_decide_eq_true (by first | (with_reducible assumption) | assumption); have q115 : x5_1 < (l0.length : Int) := of_decide_eq_true (by first | (with_reducible assumption) | assumption); obtain ⟨ad115, A115_0, c115_0, A115_1, c115_1, e115, hx115_0, hx115_1, hl115_0, hi115_0, hl115_1, hi115_1⟩ := at_T42 HR0.out x5_1 p115 q115; obtain rfl : ad112 = ad115 := (by injection e115); have HR115_0 := Aside0.mk hi115_0; have HC115_0 := Aside0.mk hl115_0; clear hi115_0 hl115_0; have HR115_1 := Aside0.mk hi115_1; have HC115_1 := Aside0.mk hl115_1; clear hi115_1 hl115_1; replace p115 := eq_true p115; replace q115 := eq_true q115; have ea_ := Option.some.inj (hx112_0.symm.trans hx115_0); injection ea_ with ea_ en_ ec_; subst ea_; subst ec_; clear en_; have ea_ := Option.some.inj (hx112_1.symm.trans hx115_1); injection ea_ with ea_ en_ ec_; subst ea_; subst ec_; clear en_; have p116 : 0 ≤ (x5_1 : Int) := of_decide_eq_true (by first | (with_reducible assumption) | assumption); have q116 : x5_1 < (l1.length : Int) := of_decide_eq_true (by first | (with_reducible assumption) | assumption); obtain ⟨ad116, A116_0, c116_0, A116_1, c116_1, e116, hx116_0, hx116_1, hl116_0, hi116_0, hl116_1, hi116_1⟩ := at_T42 HR1.out x5_1 p116 q116; obtain rfl : ad113 = ad116 := (by injection e116); have HR116_0 := Aside0.mk hi116_0; have HC116_0 := Aside0.mk hl116_0; clear hi116_0 hl116_0; have HR116_1 := Aside0.mk hi116_1; have HC116_1 := Aside0.mk hl116_1; clear hi116_1 hl116_1; replace p116 := eq_true p116; replace q116 := eq_true q116; have ea_ := Option.some.inj (hx113_0.symm.trans hx116_0); injection ea_ with ea_ en_ ec_; subst ea_; subst ec_; clear en_; have ea_ := Option.some.inj (hx113_1.symm.trans hx116_1); injection ea_ with ea_ en_ ec_; subst ea_; subst ec_; clear en_) | (go_at_call 23; (with_reducible refine (slotcoderef01_Same.calls k1 _ _ ((rd_T42 l0 x5_1).f1) _ _ ((rd_T42 l1 x5_1).f1) true _ ?side1 ?side2 ?side3 ?side4 A9.out).mono ?_); (case side1 => repeat (first | exact HR115_1.out | (with_reducible refine Kd.C_alloc ?_ _) | (with_reducible refine Kd.C_drewN ?_ _) | (with_reducible refine Kd.C_drew ?_))); (case side2 => exact HC115_1.out); (case side3 => repeat (first | exact HR116_1.out | (with_reducible refine Kd.C_alloc ?_ _) | (with_reducible refine Kd.C_drewN ?_ _) | (with_reducible refine Kd.C_drew ?_))); (case side4 => exact HC116_1.out); rintro e w' ⟨rfl, ⟨nd, rfl⟩⟩; (try first | exact ⟨rfl, _, World.drewN_drewN _ _ _⟩ | exact ⟨rfl, _, Eq.trans (World.drewN_drewN _ _ _) (congrArg (World.drewN _) (Nat.add_assoc _ _ _))⟩)))
                  repeat (go_quiet (first | (go_at_call 23; (with_reducible refine (slotcoderef01_Same.calls k1 _ _ ((rd_T42 l0 x5_1).f0) _ _ ((rd_T42 l1 x5_1).f0) true _ ?side1 ?side2 ?side3 ?side4 A7.out).mono ?_); (case side1 => repeat (first | exact HR112_0.out | (with_reducible refine Kd.C_alloc ?_ _) | (with_reducible refine Kd.C_drewN ?_ _) | (with_reducible refine Kd.C_drew ?_))); (case side2 => exact HC112_0.out); (case side3 => repeat (first | exact HR113_0.out | (with_reducible refine Kd.C_alloc ?_ _) | (with_reducible refine Kd.C_drewN ?_ _) | (with_reducible refine Kd.C_drew ?_))); (case side4 => exact HC113_0.out); rintro e w' ⟨rfl, ⟨nd, rfl⟩⟩; (try first | exact ⟨rfl, _, World.drewN_drewN _ _ _⟩ | exact ⟨rfl, _, Eq.trans (World.drewN_drewN _ _ _) (congrArg (World.drewN _) (Nat.add_assoc _ _ _))⟩); have p115 : 0 ≤ (x5_1 : Int) := of_decide_eq_true (by first | (with_reducible assumption) | assumption); have q115 : x5_1 < (l0.length : Int) := of_decide_eq_true (by first | (with_reducible assumption) | assumption); obtain ⟨ad115, A115_0, c115_0, A115_1, c115_1, e115, hx115_0, hx115_1, hl115_0, hi115_0, hl115_1, hi115_1⟩ := at_T42 HR0.out x5_1 p115 q115; obtain rfl : ad112 = ad115 := (by injection e115); have HR115_0 := Aside0.mk hi115_0; have HC115_0 := Aside0.mk hl115_0; clear hi115_0 hl115_0; have HR115_1 := Aside0.mk hi115_1; have HC115_1 := Aside0.mk hl115_1; clear hi115_1 hl115_1; replace p115 := eq_true p115; replace q115 := eq_true q115; have ea_ := Option.some.inj (hx112_0.symm.trans hx115_0); injection ea_ with ea_ en_ ec_; subst ea_; subst ec_; clear en_; have ea_ := Option.some.inj (hx112_1.symm.trans hx115_1); injection ea_ with ea_ en_ ec_; subst ea_; subst ec_; clear en_; have p116 : 0 ≤ (x5_1 : Int) := of_decide_eq_true (by first | (with_reducible assumption) | assumption); have q116 : x5_1 < (l1.length : Int) := of_decide_eq_true (by first | (with_reducible assumption) | assumption); obtain ⟨ad116, A116_0, c116_0, A116_1, c116_1, e116, hx116_0, hx116_1, hl116_0, hi116_0, hl116_1, hi116_1⟩ := at_T42 HR1.out x5_1 p116 q116; obtain rfl : ad113 = ad116 := (by injection e116); have HR116_0 := Aside0.mk hi116_0; have HC116_0 := Aside0.mk hl116_0; clear hi116_0 hl116_0; have HR116_1 := Aside0.mk hi116_1; have HC116_1 := Aside0.mk hl116_1; clear hi116_1 hl116_1; replace p116 := eq_true p116; replace q116 := eq_true q116; have ea_ := Option.some.inj (hx113_0.symm.trans hx116_0); injection ea_ with ea_ en_ ec_; subst ea_; subst ec_; clear en_; have ea_ := Option.some.inj (hx113_1.symm.trans hx116_1); injection ea_ with ea_ en_ ec_; subst ea_; subst ec_; clear en_) | (go_at_call 23; (with_reducible refine (slotcoderef01_Same.calls k1 _ _ ((rd_T42 l0 x5_1).f1) _ _ ((rd_T42 l1 x5_1).f1) true _ ?side1 ?side2 ?side3 ?side4 A9.out).mono ?_); (case side1 => repeat (first | exact HR115_1.out | (with_reducible refine Kd.C_alloc ?_ _) | (with_reducible refine Kd.C_drewN ?_ _) | (with_reducible refine Kd.C_drew ?_))); (case side2 => exact HC115_1.out); (case side3 => repeat (first | exact HR116_1.out | (with_reducible refine Kd.C_alloc ?_ _) | (with_reducible refine Kd.C_drewN ?_ _) | (with_reducible refine Kd.C_drew ?_))); (case side4 => exact HC116_1.out); rintro e w' ⟨rfl, ⟨nd, rfl⟩⟩; (try first | exact ⟨rfl, _, World.drewN_drewN _ _ _⟩ | exact ⟨rfl, _, Eq.trans (World.drewN_drewN _ _ _) (congrArg (World.drewN _) (Nat.add_assoc _ _ _))⟩))); try go_wp2_with (first | (go_at_call 23; (with_reducible refine (slotcoderef01_Same.calls k1 _ _ ((rd_T42 l0 x5_1).f0) _ _ ((rd_T42 l1 x5_1).f0) true _ ?side1 ?side2 ?side3 ?side4 A7.out).mono ?_); (case side1 => repeat (first | exact HR112_0.out | (with_reducible refine Kd.C_alloc ?_ _) | (with_reducible refine Kd.C_drewN ?_ _) | (with_reducible refine Kd.C_drew ?_))); (case side2 => exact HC112_0.out); (case side3 => repeat (first | exact HR113_0.out | (with_reducible refine Kd.C_alloc ?_ _) | (with_reducible refine Kd.C_drewN ?_ _) | (with_reducible refine Kd.C_drew ?_))); (case side4 => exact HC113_0.out); rintro e w' ⟨rfl, ⟨nd, rfl⟩⟩; (try first | exact ⟨rfl, _, World.drewN_drewN _ _ _⟩ | exact ⟨rfl, _, Eq.trans (World.drewN_drewN _ _ _) (congrArg (World.drewN _) (Nat.add_assoc _ _ _))⟩); have p115 : 0 ≤ (x5_1 : Int) := of_decide_eq_true (by first | (with_reducible assumption) | assumption); have q115 : x5_1 < (l0.length : Int) := of_decide_eq_true (by first | (with_reducible assumption) | assumption); obtain ⟨ad115, A115_0, c115_0, A115_1, c115_1, e115, hx115_0, hx115_1, hl115_0, hi115_0, hl115_1, hi115_1⟩ := at_T42 HR0.out x5_1 p115 q115; obtain rfl : ad112 = ad115 := (by injection e115); have HR115_0 := Aside0.mk hi115_0; have HC115_0 := Aside0.mk hl115_0; clear hi115_0 hl115_0; have HR115_1 := Aside0.mk hi115_1; have HC115_1 := Aside0.mk hl115_1; clear hi115_1 hl115_1; replace p115 := eq_true p115; replace q115 := eq_true q115; have ea_ := Option.some.inj (hx112_0.symm.trans hx115_0); injection ea_ with ea_ en_ ec_; subst ea_; subst ec_; clear en_; have ea_ := Option.some.inj (hx112_1.symm.trans hx115_1); injection ea_ with ea_ en_ ec_; subst ea_; subst ec_; clear en_; have p116 : 0 ≤ (x5_1 : Int) := of_decide_eq_true (by first | (with_reducible assumption) | assumption); have q116 : x5_1 < (l1.length : Int) := of_decide_eq_true (by first | (with_reducible assumption) | assumption); obtain ⟨ad116, A116_0, c116_0, A116_1, c116_1, e116, hx116_0, hx116_1, hl116_0, hi116_0, hl116_1, hi116_1⟩ := at_T42 HR1.out x5_1 p116 q116; obtain rfl : ad113 = ad116 := (by injection e116); have HR116_0 := Aside0.mk hi116_0; have HC116_0 := Aside0.mk hl116_0; clear hi116_0 hl116_0; have HR116_1 := Aside0.mk hi116_1; have HC116_1 := Aside0.mk hl116_1; clear hi116_1 hl116_1; replace p116 := eq_true p116; replace q116 := eq_true q116; have ea_ := Option.some.inj (hx113_0.symm.trans hx116_0); injection ea_ with ea_ en_ ec_; subst ea_; subst ec_; clear en_; have ea_ := Option.some.inj (hx113_1.symm.trans hx116_1); injection ea_ with ea_ en_ ec_; subst ea_; subst ec_; clear en_) | (go_at_call 23; (with_reducible refine (slotcoderef01_Same.calls k1 _ _ ((rd_T42 l0 x5_1).f1) _ _ ((rd_T42 l1 x5_1).f1) true _ ?side1 ?side2 ?side3 ?side4 A9.out).mono ?_); (case side1 => repeat (first | exact HR115_1.out | (with_reducible refine Kd.C_alloc ?_ _) | (with_reducible refine Kd.C_drewN ?_ _) | (with_reducible refine Kd.C_drew ?_))); (case side2 => exact HC115_1.out); (case side3 => repeat (first | exact HR116_1.out | (with_reducible refine Kd.C_alloc ?_ _) | (with_reducible refine Kd.C_drewN ?_ _) | (with_reducible refine Kd.C_drew ?_))); (case side4 => exact HC116_1.out); rintro e w' ⟨rfl, ⟨nd, rfl⟩⟩; (try first | exact ⟨rfl, _, World.drewN_drewN _ _ _⟩ | exact ⟨rfl, _, Eq.trans (World.drewN_drewN _ _ _) (congrArg (World.drewN _) (Nat.add_assoc _ _ _))⟩))))
                  go_roundg k1
                  case measure => have := HK1.out; omega
                  case rel => exact ⟨(wrap64 (x5_1 + 1)), (by first | rfl | (simp; done) | (simp [*]; done)), H', ⟨by have := HK1.out; omega⟩, by repeat (first | exact Drawn0.refl _ | apply Drawn0.step)⟩
                · replace c10 := Bool.eq_false_iff.mpr c10
                  subst c10
                  have H1 : (some false) = some r := by rw [if_neg (show ¬ (false = true) by decide)] at H; exact H
                  clear H
                  have H := H1
                  clear H1
                  obtain rfl := Option.some.inj H
                  have p112 : 0 ≤ (x5_1 : Int) := of_decide_eq_true (by first | (with_reducible assumption) | assumption)
                  have q112 : x5_1 < (l0.length : Int) := of_decide_eq_true (by first | (with_reducible assumption) | assumption)
                  obtain ⟨ad112, A112_0, c112_0, A112_1, c112_1, e112, hx112_0, hx112_1, hl112_0, hi112_0, hl112_1, hi112_1⟩ := at_T42 HR0.out x5_1 p112 q112
                  cases e112
                  have HR112_0 := Aside0.mk hi112_0
                  have HC112_0 := Aside0.mk hl112_0
                  clear hi112_0 hl112_0
                  have HR112_1 := Aside0.mk hi112_1
                  have HC112_1 := Aside0.mk hl112_1
                  clear hi112_1 hl112_1
                  replace p112 := eq_true p112
                  replace q112 := eq_true q112
                  have p113 : 0 ≤ (x5_1 : Int) := of_decide_eq_true (by first | (with_reducible assumption) | assumption)
                  have q113 : x5_1 < (l1.length : Int) := of_decide_eq_true (by first | (with_reducible assumption) | assumption)
                  obtain ⟨ad113, A113_0, c113_0, A113_1, c113_1, e113, hx113_0, hx113_1, hl113_0, hi113_0, hl113_1, hi113_1⟩ := at_T42 HR1.out x5_1 p113 q113
                  cases e113
                  have HR113_0 := Aside0.mk hi113_0
                  have HC113_0 := Aside0.mk hl113_0
                  clear hi113_0 hl113_0
                  have HR113_1 := Aside0.mk hi113_1
                  have HC113_1 := Aside0.mk hl113_1
                  clear hi113_1 hl113_1
                  replace p113 := eq_true p113
                  replace q113 := eq_true q113
                  go_wp2_with (first | (go_at_call 23; (with_reducible refine (slotcoderef01_Same.calls k1 _ _ ((rd_T42 l0 x5_1).f0) _ _ ((rd_T42 l1 x5_1).f0) true _ ?side1 ?side2 ?side3 ?side4 A7.out).mono ?_); (case side1 => repeat (first | exact HR112_0.out | (with_reducible refine Kd.C_alloc ?_ _) | (with_reducible refine Kd.C_drewN ?_ _) | (with_reducible refine Kd.C_drew ?_))); (case side2 => exact HC112_0.out); (case side3 => repeat (first | exact HR113_0.out | (with_reducible refine Kd.C_alloc ?_ _) | (with_reducible refine Kd.C_drewN ?_ _) | (with_reducible refine Kd.C_drew ?_))); (case side4 => exact HC113_0.out); rintro e w' ⟨rfl, ⟨nd, rfl⟩⟩; (try first | exact ⟨rfl, _, World.drewN_drewN _ _ _⟩ | exact ⟨rfl, _, Eq.trans (World.drewN_drewN _ _ _) (congrArg (World.drewN _) (Nat.add_assoc _ _ _))⟩); have p115 : 0 ≤ (x5_1 : Int) := of_decide_eq_true (by first | (with_reducible assumption) | assumption); have q115 : x5_1 < (l0.length : Int) := of_decide_eq_true (by first | (with_reducible assumption) | assumption); obtain ⟨ad115, A115_0, c115_0, A115_1, c115_1, e115, hx115_0, hx115_1, hl115_0, hi115_0, hl115_1, hi115_1⟩ := at_T42 HR0.out x5_1 p115 q115; obtain rfl : ad112 = ad115 := (by injection e115); have HR115_0 := Aside0.mk hi115_0; have HC115_0 := Aside0.mk hl115_0; clear hi115_0 hl115_0; have HR115_1 := Aside0.mk hi115_1; have HC115_1 := Aside0.mk hl115_1; clear hi115_1 hl115_1; replace p115 := eq_true p115; replace q115 := eq_true q115; have ea_ := Option.some.inj (hx112_0.symm.trans hx115_0); injection ea_ with ea_ en_ ec_; subst ea_; subst ec_; clear en_; have ea_ := Option.some.inj (hx112_1.symm.trans hx115_1); injection ea_ with ea_ en_ ec_; subst ea_; subst ec_; clear en_; have p116 : 0 ≤ (x5_1 : Int) := of_decide_eq_true (by first | (with_reducible assumption) | assumption); have q116 : x5_1 < (l1.length : Int) := of_decide_eq_true (by first | (with_reducible assumption) | assumption); obtain ⟨ad116, A116_0, c116_0, A116_1, c116_1, e116, hx116_0, hx116_1, hl116_0, hi116_0, hl116_1, hi116_1⟩ := at_T42 HR1.out x5_1 p116 q116; obtain rfl : ad113 = ad116 := (by injection e116); have HR116_0 := Aside0.mk hi116_0; have HC116_0 := Aside0.mk hl116_0; clear hi116_0 hl116_0; have HR116_1 := Aside0.mk hi116_1; have HC116_1 := Aside0.mk hl116_1; clear hi116_1 hl116_1; replace p116 := eq_true p116; replace q116 := eq_true q116; have ea_ := Option.some.inj (hx113_0.symm.trans hx116_0); injection ea_ with ea_ en_ ec_; subst ea_; subst ec_; clear en_; have ea_ := Option.some.inj (hx113_1.symm.trans hx116_1); injection ea_ with ea_ en_ ec_; subst ea_; subst ec_; clear en_) | (go_at_call 23; (with_reducible refine (slotcoderef01_Same.calls k1 _ _ ((rd_T42 l0 x5_1).f1) _ _ ((rd_T42 l1 x5_1).f1) false _ ?side1 ?side2 ?side3 ?side4 A9.out).mono ?_); (case side1 => repeat (first | exact HR115_1.out | (with_reducible refine Kd.C_alloc ?_ _) | (with_reducible refine Kd.C_drewN ?_ _) | (with_reducible refine Kd.C_drew ?_))); (case side2 => exact HC115_1.out); (case side3 => repeat (first | exact HR116_1.out | (with_reducible refine Kd.C_alloc ?_ _) | (with_reducible refine Kd.C_drewN ?_ _) | (with_reducible refine Kd.C_drew ?_))); (case side4 => exact HC116_1.out); rintro e w' ⟨rfl, ⟨nd, rfl⟩⟩; (try first | exact ⟨rfl, _, World.drewN_drewN _ _ _⟩ | exact ⟨rfl, _, Eq.trans (World.drewN_drewN _ _ _) (congrArg (World.drewN _) (Nat.add_assoc _ _ _))⟩)))
                  repeat (go_quiet (first | (go_at_call 23; (with_reducible refine (slotcoderef01_Same.calls k1 _ _ ((rd_T42 l0 x5_1).f0) _ _ ((rd_T42 l1 x5_1).f0) true _ ?side1 ?side2 ?side3 ?side4 A7.out).mono ?_); (case side1 => repeat (first | exact HR112_0.out | (with_reducible refine Kd.C_alloc ?_ _) | (with_reducible refine Kd.C_drewN ?_ _) | (with_reducible refine Kd.C_drew ?_))); (case side2 => exact HC112_0.out); (case side3 => repeat (first | exact HR113_0.out | (with_reducible refine Kd.C_alloc ?_ _) | (with_reducible refine Kd.C_drewN ?_ _) | (with_reducible refine Kd.C_drew ?_))); (case side4 => exact HC113_0.out); rintro e w' ⟨rfl, ⟨nd, rfl⟩⟩; (try first | exact ⟨rfl, _, World.drewN_drewN _ _ _⟩ | exact ⟨rfl, _, Eq.trans (World.drewN_drewN _ _ _) (congrArg (World.drewN _) (Nat.add_assoc _ _ _))⟩); have p115 : 0 ≤ (x5_1 : Int) := of_decide_eq_true (by first | (with_reducible assumption) | assumption); have q115 : x5_1 < (l0.length : Int) := of_decide_eq_true (by first | (with_reducible assumption) | assumption); obtain ⟨ad115, A115_0, c115_0, A115_1, c115_1, e115, hx115_0, hx115_1, hl115_0, hi115_0, hl115_1, hi115_1⟩ := at_T42 HR0.out x5_1 p115 q115; obtain rfl : ad112 = ad115 := (by injection e115); have HR115_0 := Aside0.mk hi115_0; have HC115_0 := Aside0.mk hl115_0; clear hi115_0 hl115_0; have HR115_1 := Aside0.mk hi115_1; have HC115_1 := Aside0.mk hl115_1; clear hi115_1 hl115_1; replace p115 := eq_true p115; replace q115 := eq_true q115; have ea_ := Option.some.inj (hx112_0.symm.trans hx115_0); injection ea_ with ea_ en_ ec_; subst ea_; subst ec_; clear en_; have ea_ := Option.some.inj (hx112_1.symm.trans hx115_1); injection ea_ with ea_ en_ ec_; subst ea_; subst ec_; clear en_; have p116 : 0 ≤ (x5_1 : Int) := of_decide_eq_true (by first | (with_reducible assumption) | assumption); have q116 : x5_1 < (l1.length : Int) := of_decide_eq_true (by first | (with_reducible assumption) | assumption); obtain ⟨ad116, A116_0, c116_0, A116_1, c116_1, e116, hx116_0, hx116_1, hl116_0, hi116_0, hl116_1, hi116_1⟩ := at_T42 HR1.out x5_1 p116 q116; obtain rfl : ad113 = ad116 := (by injection e116); have HR116_0 := Aside0.mk hi116_0; have HC116_0 := Aside0.mk hl116_0; clear hi116_0 hl116_0; have HR116_1 := Aside0.mk hi116_1; have HC116_1 := Aside0.mk hl116_1; clear hi116_1 hl116_1; replace p116 := eq_true p116; replace q116 := eq_true q116; have ea_ := Option.some.inj (hx113_0.symm.trans hx116_0); injection ea_ with ea_ en_ ec_; subst ea_; subst ec_; clear en_; have ea_ := Option.some.inj (hx113_1.symm.trans hx116_1); injection ea_ with ea_ en_ ec_; subst ea_; subst ec_; clear en_) | (go_at_call 23; (with_reducible refine (slotcoderef01_Same.calls k1 _ _ ((rd_T42 l0 x5_1).f1) _ _ ((rd_T42 l1 x5_1).f1) false _ ?side1 ?side2 ?side3 ?side4 A9.out).mono ?_); (case side1 => repeat (first | exact HR115_1.out | (with_reducible refine Kd.C_alloc ?_ _) | (with_reducible refine Kd.C_drewN ?_ _) | (with_reducible refine Kd.C_drew ?_))); (case side2 => exact HC115_1.out); (case side3 => repeat (first | exact HR116_1.out | (with_reducible refine Kd.C_alloc ?_ _) | (with_reducible refine Kd.C_drewN ?_ _) | (with_reducible refine Kd.C_drew ?_))); (case side4 => exact HC116_1.out); rintro e w' ⟨rfl, ⟨nd, rfl⟩⟩; (try first | exact ⟨rfl, _, World.drewN_drewN _ _ _⟩ | exact ⟨rfl, _, Eq.trans (World.drewN_drewN _ _ _) (congrArg (World.drewN _) (Nat.add_assoc _ _ _))⟩))); try go_wp2_with (first | (go_at_call 23; (with_reducible refine (slotcoderef01_Same.calls k1 _ _ ((rd_T42 l0 x5_1).f0) _ _ ((rd_T42 l1 x5_1).f0) true _ ?side1 ?side2 ?side3 ?side4 A7.out).mono ?_); (case side1 => repeat (first | exact HR112_0.out | (with_reducible refine Kd.C_alloc ?_ _) | (with_reducible refine Kd.C_drewN ?_ _) | (with_reducible refine Kd.C_drew ?_))); (case side2 => exact HC112_0.out); (case side3 => repeat (first | exact HR113_0.out | (with_reducible refine Kd.C_alloc ?_ _) | (with_reducible refine Kd.C_drewN ?_ _) | (with_reducible refine Kd.C_drew ?_))); (case side4 => exact HC113_0.out); rintro e w' ⟨rfl, ⟨nd, rfl⟩⟩; (try first | exact ⟨rfl, _, World.drewN_drewN _ _ _⟩ | exact ⟨rfl, _, Eq.trans (World.drewN_drewN _ _ _) (congrArg (World.drewN _) (Nat.add_assoc _ _ _))⟩); have p115 : 0 ≤ (x5_1 : Int) := of_decide_eq_true (by first | (with_reducible assumption) | assumption); have q115 : x5_1 < (l0.length : Int) := of_decide_eq_true (by first | (with_reducible assumption) | assumption); obtain ⟨ad115, A115_0, c115_0, A115_1, c115_1, e115, hx115_0, hx115_1, hl115_0, hi115_0, hl115_1, hi115_1⟩ := at_T42 HR0.out x5_1 p115 q115; obtain rfl : ad112 = ad115 := (by injection e115); have HR115_0 := Aside0.mk hi115_0; have HC115_0 := Aside0.mk hl115_0; clear hi115_0 hl115_0; have HR115_1 := Aside0.mk hi115_1; have HC115_1 := Aside0.mk hl115_1; clear hi115_1 hl115_1; replace p115 := eq_true p115; replace q115 := eq_true q115; have ea_ := Option.some.inj (hx112_0.symm.trans hx115_0); injection ea_ with ea_ en_ ec_; subst ea_; subst ec_; clear en_; have ea_ := Option.some.inj (hx112_1.symm.trans hx115_1); injection ea_ with ea_ en_ ec_; subst ea_; subst ec_; clear en_; have p116 : 0 ≤ (x5_1 : Int) := of_decide_eq_true (by first | (with_reducible assumption) | assumption); have q116 : x5_1 < (l1.length : Int) := of_decide_eq_true (by first | (with_reducible assumption) | assumption); obtain ⟨ad116, A116_0, c116_0, A116_1, c116_1, e116, hx116_0, hx116_1, hl116_0, hi116_0, hl116_1, hi116_1⟩ := at_T42 HR1.out x5_1 p116 q116; obtain rfl : ad113 = ad116 := (by injection e116); have HR116_0 := Aside0.mk hi116_0; have HC116_0 := Aside0.mk hl116_0; clear hi116_0 hl116_0; have HR116_1 := Aside0.mk hi116_1; have HC116_1 := Aside0.mk hl116_1; clear hi116_1 hl116_1; replace p116 := eq_true p116; replace q116 := eq_true q116; have ea_ := Option.some.inj (hx113_0.symm.trans hx116_0); injection ea_ with ea_ en_ ec_; subst ea_; subst ec_; clear en_; have ea_ := Option.some.inj (hx113_1.symm.trans hx116_1); injection ea_ with ea_ en_ ec_; subst ea_; subst ec_; clear en_) | (go_at_call 23; (with_reducible refine (slotcoderef01_Same.calls k1 _ _ ((rd_T42 l0 x5_1).f1) _ _ ((rd_T42 l1 x5_1).f1) false _ ?side1 ?side2 ?side3 ?side4 A9.out).mono ?_); (case side1 => repeat (first | exact HR115_1.out | (with_reducible refine Kd.C_alloc ?_ _) | (with_reducible refine Kd.C_drewN ?_ _) | (with_reducible refine Kd.C_drew ?_))); (case side2 => exact HC115_1.out); (case side3 => repeat (first | exact HR116_1.out | (with_reducible refine Kd.C_alloc ?_ _) | (with_reducible refine Kd.C_drewN ?_ _) | (with_reducible refine Kd.C_drew ?_))); (case side4 => exact HC116_1.out); rintro e w' ⟨rfl, ⟨nd, rfl⟩⟩; (try first | exact ⟨rfl, _, World.drewN_drewN _ _ _⟩ | exact ⟨rfl, _, Eq.trans (World.drewN_drewN _ _ _) (congrArg (World.drewN _) (Nat.add_assoc _ _ _))⟩))))
                  go_ret
                  exact ⟨by first | rfl | (simp; done) | (simp [*]; done), by repeat (first | exact Drawn0.refl _ | apply Drawn0.step)⟩
              · replace c8 := Bool.eq_false_iff.mpr c8
                subst c8
                have H1 : (some false) = some r := by rw [if_neg (show ¬ (false = true) by decide)] at H; exact H
                clear H
                have H := H1
                clear H1
                obtain rfl := Option.some.inj H
                have p112 : 0 ≤ (x5_1 : Int) := of_decide_eq_true (by first | (with_reducible assumption) | assumption)
                have q112 : x5_1 < (l0.length : Int) := of_decide_eq_true (by first | (with_reducible assumption) | assumption)
                obtain ⟨ad112, A112_0, c112_0, A112_1, c112_1, e112, hx112_0, hx112_1, hl112_0, hi112_0, hl112_1, hi112_1⟩ := at_T42 HR0.out x5_1 p112 q112
                cases e112
                have HR112_0 := Aside0.mk hi112_0
                have HC112_0 := Aside0.mk hl112_0
                clear hi112_0 hl112_0
                have HR112_1 := Aside0.mk hi112_1
                have HC112_1 := Aside0.mk hl112_1
                clear hi112_1 hl112_1
                replace p112 := eq_true p112
                replace q112 := eq_true q112
                have p113 : 0 ≤ (x5_1 : Int) := of_decide_eq_true (by first | (with_reducible assumption) | assumption)
                have q113 : x5_1 < (l1.length : Int) := of_decide_eq_true (by first | (with_reducible assumption) | assumption)
                obtain ⟨ad113, A113_0, c113_0, A113_1, c113_1, e113, hx113_0, hx113_1, hl113_0, hi113_0, hl113_1, hi113_1⟩ := at_T42 HR1.out x5_1 p113 q113
                cases e113
                have HR113_0 := Aside0.mk hi113_0
                have HC113_0 := Aside0.mk hl113_0
                clear hi113_0 hl113_0
                have HR113_1 := Aside0.mk hi113_1
                have HC113_1 := Aside0.mk hl113_1
                clear hi113_1 hl113_1
                replace p113 := eq_true p113
                replace q113 := eq_true q113
                go_wp2_with (first | (go_at_call 23; (with_reducible refine (slotcoderef01_Same.calls k1 _ _ ((rd_T42 l0 x5_1).f0) _ _ ((rd_T42 l1 x5_1).f0) false _ ?side1 ?side2 ?side3 ?side4 A7.out).mono ?_); (case side1 => repeat (first | exact HR112_0.out | (with_reducible refine Kd.C_alloc ?_ _) | (with_reducible refine Kd.C_drewN ?_ _) | (with_reducible refine Kd.C_drew ?_))); (case side2 => exact HC112_0.out); (case side3 => repeat (first | exact HR113_0.out | (with_reducible refine Kd.C_alloc ?_ _) | (with_reducible refine Kd.C_drewN ?_ _) | (with_reducible refine Kd.C_drew ?_))); (case side4 => exact HC113_0.out); rintro e w' ⟨rfl, ⟨nd, rfl⟩⟩; (try first | exact ⟨rfl, _, World.drewN_drewN _ _ _⟩ | exact ⟨rfl, _, Eq.trans (World.drewN_drewN _ _ _) (congrArg (World.drewN _) (Nat.add_assoc _ _ _))⟩)))
                repeat (go_quiet (first | (go_at_call 23; (with_reducible refine (slotcoderef01_Same.calls k1 _ _ ((rd_T42 l0 x5_1).f0) _ _ ((rd_T42 l1 x5_1).f0) false _ ?side1 ?side2 ?side3 ?side4 A7.out).mono ?_); (case side1 => repeat (first | exact HR112_0.out | (with_reducible refine Kd.C_alloc ?_ _) | (with_reducible refine Kd.C_drewN ?_ _) | (with_reducible refine Kd.C_drew ?_))); (case side2 => exact HC112_0.out); (case side3 => repeat (first | exact HR113_0.out | (with_reducible refine Kd.C_alloc ?_ _) | (with_reducible refine Kd.C_drewN ?_ _) | (with_reducible refine Kd.C_drew ?_))); (case side4 => exact HC113_0.out); rintro e w' ⟨rfl, ⟨nd, rfl⟩⟩; (try first | exact ⟨rfl, _, World.drewN_drewN _ _ _⟩ | exact ⟨rfl, _, Eq.trans (World.drewN_drewN _ _ _) (congrArg (World.drewN _) (Nat.add_assoc _ _ _))⟩))); try go_wp2_with (first | (go_at_call 23; (with_reducible refine (slotcoderef01_Same.calls k1 _ _ ((rd_T42 l0 x5_1).f0) _ _ ((rd_T42 l1 x5_1).f0) false _ ?side1 ?side2 ?side3 ?side4 A7.out).mono ?_); (case side1 => repeat (first | exact HR112_0.out | (with_reducible refine Kd.C_alloc ?_ _) | (with_reducible refine Kd.C_drewN ?_ _) | (with_reducible refine Kd.C_drew ?_))); (case side2 => exact HC112_0.out); (case side3 => repeat (first | exact HR113_0.out | (with_reducible refine Kd.C_alloc ?_ _) | (with_reducible refine Kd.C_drewN ?_ _) | (with_reducible refine Kd.C_drew ?_))); (case side4 => exact HC113_0.out); rintro e w' ⟨rfl, ⟨nd, rfl⟩⟩; (try first | exact ⟨rfl, _, World.drewN_drewN _ _ _⟩ | exact ⟨rfl, _, Eq.trans (World.drewN_drewN _ _ _) (congrArg (World.drewN _) (Nat.add_assoc _ _ _))⟩))))
                go_ret
                exact ⟨by first | rfl | (simp; done) | (simp [*]; done), by repeat (first | exact Drawn0.refl _ | apply Drawn0.step)⟩
            · rw [if_neg c6] at H
              exact absurd H (by simp)
          · rw [if_neg c5] at H
            exact absurd H (by simp)
        · rw [if_neg c4] at H
          have c4b0 : decide (x5_1 < (l0.length : Int)) = false := decide_eq_false c4
          clear c4
          obtain rfl := Option.some.inj H
          go_wp2
          repeat (go_quiet (fail); try go_wp2)
          go_ret
          exact ⟨by first | rfl | (simp; done) | (simp [*]; done), by repeat (first | exact Drawn0.refl _ | apply Drawn0.step)⟩
  · rw [if_neg c3] at H
    have c3b0 : ((l0.length : Int) == (l1.length : Int)) = false := beq_eq_false_iff_ne.mpr c3
    have c3b1 : ((l0.length : Int) != (l1.length : Int)) = true := bne_iff_ne.mpr c3
    have c3b2 : (l0.length == l1.length) = false := by first | simpa using c3 | (simp at c3 ⊢; omega)
    obtain rfl := Option.some.inj H
    go_enter Tryd.func15, Tryd.ntmps15
    go_wp2
    repeat (go_quiet (fail); try go_wp2)
    go_ret
    exact ⟨by first | rfl | (simp; done) | (simp [*]; done), by repeat (first | exact Drawn0.refl _ | apply Drawn0.step)⟩

/-! ### slotcoderef09_Sizes: function 46 -/
def slotcoderef09_Sizes.f (a0_0 : ByteArray) (a0_1 : Int) (a0_2 : Int) (a0_3 : Int) : Option (Bool) := if a0_1 ≥ 1 then (if a0_1 ≤ 64 then (if a0_2 ≥ 1 then (if a0_2 ≤ 256 then (if a0_3 ≥ 1 then (some (decide (a0_3 ≤ 1024))) else (some false)) else (some false)) else (some false)) else (some false)) else (some false)
set_option maxHeartbeats 8000000 in
set_option maxRecDepth 100000 in
theorem slotcoderef09_Sizes.calls (a0_0 : ByteArray) (a0_1 : Int) (a0_2 : Int) (a0_3 : Int) (r : Bool) (w : World) (h : slotcoderef09_Sizes.f a0_0 a0_1 a0_2 a0_3 = some r) :
    Calls Tryd.prog 46 #[.agg #[.string a0_0, .int .i64 a0_1, .int .i64 a0_2, .int .i64 a0_3]] w fun e w' => e = .returned (.bool r) ∧ Below w.heap.size w w' := by
  have hu28 := Tryd.underlying28
  have HB := Aside0.mk (Below.refl w.heap.size w)
  have H : (if a0_1 ≥ 1 then (if a0_1 ≤ 64 then (if a0_2 ≥ 1 then (if a0_2 ≤ 256 then (if a0_3 ≥ 1 then (some (decide (a0_3 ≤ 1024))) else (some false)) else (some false)) else (some false)) else (some false)) else (some false)) = some r := h
  clear h
  by_cases c2 : a0_1 ≥ 1
  · rw [if_pos c2] at H
    have c2b0 : decide (1 ≤ a0_1) = true := decide_eq_true c2
    clear c2
    by_cases c3 : a0_1 ≤ 64
    · rw [if_pos c3] at H
      have c3b0 : decide (a0_1 ≤ 64) = true := decide_eq_true c3
      clear c3
      by_cases c4 : a0_2 ≥ 1
      · rw [if_pos c4] at H
        have c4b0 : decide (1 ≤ a0_2) = true := decide_eq_true c4
        clear c4
        by_cases c5 : a0_2 ≤ 256
        · rw [if_pos c5] at H
          have c5b0 : decide (a0_2 ≤ 256) = true := decide_eq_true c5
          clear c5
          by_cases c6 : a0_3 ≥ 1
          · rw [if_pos c6] at H
            have c6b0 : decide (1 ≤ a0_3) = true := decide_eq_true c6
            clear c6
            obtain rfl := Option.some.inj H
            go_enter Tryd.func46, Tryd.ntmps46
            go_wp2_with (first | ((with_reducible refine gate_dst (N := 1) rfl ?_); refine box_event ?hg (N := 1) ?hd (cs := #[.string a0_0, .int .i64 a0_1, .int .i64 a0_2, .int .i64 a0_3]) (t := 28) ?hr ?_; (case hd => rfl); (case hg => rfl); (case hr => first | (go_simp; done) | (go_simp; rfl)); intro gb124 hg w7 hbox hb; have n0_ := Aside0.mk (below_step (by repeat (first | (with_reducible first | exact HB.out | apply below_alloc | apply pw_below_drewN | apply below_drew1) | exact HB.out)) hb); have n1_ := Aside0.mk (hbox); have n2_ := Aside0.mk ((by rw [hg]; exact (below_size (by repeat (first | (with_reducible first | exact HB.out | apply below_alloc | apply pw_below_drewN | apply below_drew1) | exact HB.out))) : w.heap.size ≤ gb124)); have n3_ := Aside0.mk ((by rw [hg]; exact (below_size (by repeat (first | (with_reducible first | exact HB.out | apply below_alloc | apply pw_below_drewN | apply below_drew1) | exact HB.out))) : w.heap.size ≤ gb124)); clear HB; have HB := n0_; have BK124 := n1_; have GW124 := n2_; have GE124 := n3_; clear n0_ n1_ n2_ n3_; clear hb hbox hg; have hcz8_0 : w7.cell? ⟨gb124, 0, none⟩ = some (.string a0_0) := (blk_cell BK124.out 0).trans rfl; have hcz8_1 : w7.cell? ⟨gb124, 1, none⟩ = some (.int .i64 a0_1) := (blk_cell BK124.out 1).trans rfl; have hcz8_2 : w7.cell? ⟨gb124, 2, none⟩ = some (.int .i64 a0_2) := (blk_cell BK124.out 2).trans rfl; have hcz8_3 : w7.cell? ⟨gb124, 3, none⟩ = some (.int .i64 a0_3) := (blk_cell BK124.out 3).trans rfl; have hfz8_0 := blk_frozen BK124.out 0; have hfz8_1 := blk_frozen BK124.out 1; have hfz8_2 := blk_frozen BK124.out 2; have hfz8_3 := blk_frozen BK124.out 3))
            go_ret
            exact ⟨by first | rfl | (simp [errW_none, errW_some] <;> rfl) | (simp [*, errW_none, errW_some] <;> rfl), by repeat (first | (with_reducible first | exact HB.out | apply below_alloc | apply pw_below_drewN | apply below_drew1 | refine below_set ?_ GE124.out) | exact HB.out)⟩
          · rw [if_neg c6] at H
            have c6b0 : decide (1 ≤ a0_3) = false := decide_eq_false c6
            clear c6
            obtain rfl := Option.some.inj H
            go_enter Tryd.func46, Tryd.ntmps46
            go_wp2_with (first | ((with_reducible refine gate_dst (N := 1) rfl ?_); refine box_event ?hg (N := 1) ?hd (cs := #[.string a0_0, .int .i64 a0_1, .int .i64 a0_2, .int .i64 a0_3]) (t := 28) ?hr ?_; (case hd => rfl); (case hg => rfl); (case hr => first | (go_simp; done) | (go_simp; rfl)); intro gb124 hg w9 hbox hb; have n0_ := Aside0.mk (below_step (by repeat (first | (with_reducible first | exact HB.out | apply below_alloc | apply pw_below_drewN | apply below_drew1) | exact HB.out)) hb); have n1_ := Aside0.mk (hbox); have n2_ := Aside0.mk ((by rw [hg]; exact (below_size (by repeat (first | (with_reducible first | exact HB.out | apply below_alloc | apply pw_below_drewN | apply below_drew1) | exact HB.out))) : w.heap.size ≤ gb124)); have n3_ := Aside0.mk ((by rw [hg]; exact (below_size (by repeat (first | (with_reducible first | exact HB.out | apply below_alloc | apply pw_below_drewN | apply below_drew1) | exact HB.out))) : w.heap.size ≤ gb124)); clear HB; have HB := n0_; have BK124 := n1_; have GW124 := n2_; have GE124 := n3_; clear n0_ n1_ n2_ n3_; clear hb hbox hg; have hcz10_0 : w9.cell? ⟨gb124, 0, none⟩ = some (.string a0_0) := (blk_cell BK124.out 0).trans rfl; have hcz10_1 : w9.cell? ⟨gb124, 1, none⟩ = some (.int .i64 a0_1) := (blk_cell BK124.out 1).trans rfl; have hcz10_2 : w9.cell? ⟨gb124, 2, none⟩ = some (.int .i64 a0_2) := (blk_cell BK124.out 2).trans rfl; have hcz10_3 : w9.cell? ⟨gb124, 3, none⟩ = some (.int .i64 a0_3) := (blk_cell BK124.out 3).trans rfl; have hfz10_0 := blk_frozen BK124.out 0; have hfz10_1 := blk_frozen BK124.out 1; have hfz10_2 := blk_frozen BK124.out 2; have hfz10_3 := blk_frozen BK124.out 3))
            go_ret
            exact ⟨by first | rfl | (simp [errW_none, errW_some] <;> rfl) | (simp [*, errW_none, errW_some] <;> rfl), by repeat (first | (with_reducible first | exact HB.out | apply below_alloc | apply pw_below_drewN | apply below_drew1 | refine below_set ?_ GE124.out) | exact HB.out)⟩
        · rw [if_neg c5] at H
          have c5b0 : decide (a0_2 ≤ 256) = false := decide_eq_false c5
          clear c5
          obtain rfl := Option.some.inj H
          go_enter Tryd.func46, Tryd.ntmps46
          go_wp2_with (first | ((with_reducible refine gate_dst (N := 1) rfl ?_); refine box_event ?hg (N := 1) ?hd (cs := #[.string a0_0, .int .i64 a0_1, .int .i64 a0_2, .int .i64 a0_3]) (t := 28) ?hr ?_; (case hd => rfl); (case hg => rfl); (case hr => first | (go_simp; done) | (go_simp; rfl)); intro gb124 hg w11 hbox hb; have n0_ := Aside0.mk (below_step (by repeat (first | (with_reducible first | exact HB.out | apply below_alloc | apply pw_below_drewN | apply below_drew1) | exact HB.out)) hb); have n1_ := Aside0.mk (hbox); have n2_ := Aside0.mk ((by rw [hg]; exact (below_size (by repeat (first | (with_reducible first | exact HB.out | apply below_alloc | apply pw_below_drewN | apply below_drew1) | exact HB.out))) : w.heap.size ≤ gb124)); have n3_ := Aside0.mk ((by rw [hg]; exact (below_size (by repeat (first | (with_reducible first | exact HB.out | apply below_alloc | apply pw_below_drewN | apply below_drew1) | exact HB.out))) : w.heap.size ≤ gb124)); clear HB; have HB := n0_; have BK124 := n1_; have GW124 := n2_; have GE124 := n3_; clear n0_ n1_ n2_ n3_; clear hb hbox hg; have hcz12_0 : w11.cell? ⟨gb124, 0, none⟩ = some (.string a0_0) := (blk_cell BK124.out 0).trans rfl; have hcz12_1 : w11.cell? ⟨gb124, 1, none⟩ = some (.int .i64 a0_1) := (blk_cell BK124.out 1).trans rfl; have hcz12_2 : w11.cell? ⟨gb124, 2, none⟩ = some (.int .i64 a0_2) := (blk_cell BK124.out 2).trans rfl; have hcz12_3 : w11.cell? ⟨gb124, 3, none⟩ = some (.int .i64 a0_3) := (blk_cell BK124.out 3).trans rfl; have hfz12_0 := blk_frozen BK124.out 0; have hfz12_1 := blk_frozen BK124.out 1; have hfz12_2 := blk_frozen BK124.out 2; have hfz12_3 := blk_frozen BK124.out 3))
          go_ret
          exact ⟨by first | rfl | (simp [errW_none, errW_some] <;> rfl) | (simp [*, errW_none, errW_some] <;> rfl), by repeat (first | (with_reducible first | exact HB.out | apply below_alloc | apply pw_below_drewN | apply below_drew1 | refine below_set ?_ GE124.out) | exact HB.out)⟩
      · rw [if_neg c4] at H
        have c4b0 : decide (1 ≤ a0_2) = false := decide_eq_false c4
        clear c4
        obtain rfl := Option.some.inj H
        go_enter Tryd.func46, Tryd.ntmps46
        go_wp2_with (first | ((with_reducible refine gate_dst (N := 1) rfl ?_); refine box_event ?hg (N := 1) ?hd (cs := #[.string a0_0, .int .i64 a0_1, .int .i64 a0_2, .int .i64 a0_3]) (t := 28) ?hr ?_; (case hd => rfl); (case hg => rfl); (case hr => first | (go_simp; done) | (go_simp; rfl)); intro gb124 hg w13 hbox hb; have n0_ := Aside0.mk (below_step (by repeat (first | (with_reducible first | exact HB.out | apply below_alloc | apply pw_below_drewN | apply below_drew1) | exact HB.out)) hb); have n1_ := Aside0.mk (hbox); have n2_ := Aside0.mk ((by rw [hg]; exact (below_size (by repeat (first | (with_reducible first | exact HB.out | apply below_alloc | apply pw_below_drewN | apply below_drew1) | exact HB.out))) : w.heap.size ≤ gb124)); have n3_ := Aside0.mk ((by rw [hg]; exact (below_size (by repeat (first | (with_reducible first | exact HB.out | apply below_alloc | apply pw_below_drewN | apply below_drew1) | exact HB.out))) : w.heap.size ≤ gb124)); clear HB; have HB := n0_; have BK124 := n1_; have GW124 := n2_; have GE124 := n3_; clear n0_ n1_ n2_ n3_; clear hb hbox hg; have hcz14_0 : w13.cell? ⟨gb124, 0, none⟩ = some (.string a0_0) := (blk_cell BK124.out 0).trans rfl; have hcz14_1 : w13.cell? ⟨gb124, 1, none⟩ = some (.int .i64 a0_1) := (blk_cell BK124.out 1).trans rfl; have hcz14_2 : w13.cell? ⟨gb124, 2, none⟩ = some (.int .i64 a0_2) := (blk_cell BK124.out 2).trans rfl; have hcz14_3 : w13.cell? ⟨gb124, 3, none⟩ = some (.int .i64 a0_3) := (blk_cell BK124.out 3).trans rfl; have hfz14_0 := blk_frozen BK124.out 0; have hfz14_1 := blk_frozen BK124.out 1; have hfz14_2 := blk_frozen BK124.out 2; have hfz14_3 := blk_frozen BK124.out 3))
        go_ret
        exact ⟨by first | rfl | (simp [errW_none, errW_some] <;> rfl) | (simp [*, errW_none, errW_some] <;> rfl), by repeat (first | (with_reducible first | exact HB.out | apply below_alloc | apply pw_below_drewN | apply below_drew1 | refine below_set ?_ GE124.out) | exact HB.out)⟩
    · rw [if_neg c3] at H
      have c3b0 : decide (a0_1 ≤ 64) = false := decide_eq_false c3
      clear c3
      obtain rfl := Option.some.inj H
      go_enter Tryd.func46, Tryd.ntmps46
      go_wp2_with (first | ((with_reducible refine gate_dst (N := 1) rfl ?_); refine box_event ?hg (N := 1) ?hd (cs := #[.string a0_0, .int .i64 a0_1, .int .i64 a0_2, .int .i64 a0_3]) (t := 28) ?hr ?_; (case hd => rfl); (case hg => rfl); (case hr => first | (go_simp; done) | (go_simp; rfl)); intro gb124 hg w15 hbox hb; have n0_ := Aside0.mk (below_step (by repeat (first | (with_reducible first | exact HB.out | apply below_alloc | apply pw_below_drewN | apply below_drew1) | exact HB.out)) hb); have n1_ := Aside0.mk (hbox); have n2_ := Aside0.mk ((by rw [hg]; exact (below_size (by repeat (first | (with_reducible first | exact HB.out | apply below_alloc | apply pw_below_drewN | apply below_drew1) | exact HB.out))) : w.heap.size ≤ gb124)); have n3_ := Aside0.mk ((by rw [hg]; exact (below_size (by repeat (first | (with_reducible first | exact HB.out | apply below_alloc | apply pw_below_drewN | apply below_drew1) | exact HB.out))) : w.heap.size ≤ gb124)); clear HB; have HB := n0_; have BK124 := n1_; have GW124 := n2_; have GE124 := n3_; clear n0_ n1_ n2_ n3_; clear hb hbox hg; have hcz16_0 : w15.cell? ⟨gb124, 0, none⟩ = some (.string a0_0) := (blk_cell BK124.out 0).trans rfl; have hcz16_1 : w15.cell? ⟨gb124, 1, none⟩ = some (.int .i64 a0_1) := (blk_cell BK124.out 1).trans rfl; have hcz16_2 : w15.cell? ⟨gb124, 2, none⟩ = some (.int .i64 a0_2) := (blk_cell BK124.out 2).trans rfl; have hcz16_3 : w15.cell? ⟨gb124, 3, none⟩ = some (.int .i64 a0_3) := (blk_cell BK124.out 3).trans rfl; have hfz16_0 := blk_frozen BK124.out 0; have hfz16_1 := blk_frozen BK124.out 1; have hfz16_2 := blk_frozen BK124.out 2; have hfz16_3 := blk_frozen BK124.out 3))
      go_ret
      exact ⟨by first | rfl | (simp [errW_none, errW_some] <;> rfl) | (simp [*, errW_none, errW_some] <;> rfl), by repeat (first | (with_reducible first | exact HB.out | apply below_alloc | apply pw_below_drewN | apply below_drew1 | refine below_set ?_ GE124.out) | exact HB.out)⟩
  · rw [if_neg c2] at H
    have c2b0 : decide (1 ≤ a0_1) = false := decide_eq_false c2
    clear c2
    obtain rfl := Option.some.inj H
    go_enter Tryd.func46, Tryd.ntmps46
    go_wp2_with (first | ((with_reducible refine gate_dst (N := 1) rfl ?_); refine box_event ?hg (N := 1) ?hd (cs := #[.string a0_0, .int .i64 a0_1, .int .i64 a0_2, .int .i64 a0_3]) (t := 28) ?hr ?_; (case hd => rfl); (case hg => rfl); (case hr => first | (go_simp; done) | (go_simp; rfl)); intro gb124 hg w17 hbox hb; have n0_ := Aside0.mk (below_step (by repeat (first | (with_reducible first | exact HB.out | apply below_alloc | apply pw_below_drewN | apply below_drew1) | exact HB.out)) hb); have n1_ := Aside0.mk (hbox); have n2_ := Aside0.mk ((by rw [hg]; exact (below_size (by repeat (first | (with_reducible first | exact HB.out | apply below_alloc | apply pw_below_drewN | apply below_drew1) | exact HB.out))) : w.heap.size ≤ gb124)); have n3_ := Aside0.mk ((by rw [hg]; exact (below_size (by repeat (first | (with_reducible first | exact HB.out | apply below_alloc | apply pw_below_drewN | apply below_drew1) | exact HB.out))) : w.heap.size ≤ gb124)); clear HB; have HB := n0_; have BK124 := n1_; have GW124 := n2_; have GE124 := n3_; clear n0_ n1_ n2_ n3_; clear hb hbox hg; have hcz18_0 : w17.cell? ⟨gb124, 0, none⟩ = some (.string a0_0) := (blk_cell BK124.out 0).trans rfl; have hcz18_1 : w17.cell? ⟨gb124, 1, none⟩ = some (.int .i64 a0_1) := (blk_cell BK124.out 1).trans rfl; have hcz18_2 : w17.cell? ⟨gb124, 2, none⟩ = some (.int .i64 a0_2) := (blk_cell BK124.out 2).trans rfl; have hcz18_3 : w17.cell? ⟨gb124, 3, none⟩ = some (.int .i64 a0_3) := (blk_cell BK124.out 3).trans rfl; have hfz18_0 := blk_frozen BK124.out 0; have hfz18_1 := blk_frozen BK124.out 1; have hfz18_2 := blk_frozen BK124.out 2; have hfz18_3 := blk_frozen BK124.out 3))
    go_ret
    exact ⟨by first | rfl | (simp [errW_none, errW_some] <;> rfl) | (simp [*, errW_none, errW_some] <;> rfl), by repeat (first | (with_reducible first | exact HB.out | apply below_alloc | apply pw_below_drewN | apply below_drew1 | refine below_set ?_ GE124.out) | exact HB.out)⟩

/-! ### slotcoderef21_Check: function 24 -/
def slotcoderef21_Check.l0 : Nat → List (S28) → Int → Option (Int)
  | 0, _, _ => none
  | k + 1, x0, x3 => if x3 < (x0.length : Int) then (if 0 ≤ x3 then ((slotcoderef09_Sizes.f ((rd_T28 x0 x3).f0) ((rd_T28 x0 x3).f1) ((rd_T28 x0 x3).f2) ((rd_T28 x0 x3).f3)).bind fun t126 => (if t126 = true then (slotcoderef21_Check.l0 k x0 (wrap64 (x3 + 1))) else (some 9))) else (none)) else (some 0)
def slotcoderef21_Check.f (k : Nat) (l0 : List (S28)) : Option (Int) := if (l0.length : Int) > 255 then (some 16) else (slotcoderef21_Check.l0 k l0 0)
theorem slotcoderef21_Check.mono_l : ∀ k, (∀ y0 y1, LeO (slotcoderef21_Check.l0 k y0 y1) (slotcoderef21_Check.l0 (k + 1) y0 y1))
  | 0 => fun _ _ r h => by simp [slotcoderef21_Check.l0] at h
  | k + 1 => by
    have ih0 := slotcoderef21_Check.mono_l k
    · intro y0 y1
      unfold slotcoderef21_Check.l0
      repeat' first
      | (with_reducible exact ih0 _ _)
      | (with_reducible exact LeO.refl _)
      | (with_reducible exact LeO.none _)
      | (with_reducible refine LeO.ite ?_ ?_)
      | (with_reducible refine LeO.bind ?_ (fun _ => ?_))
      | exact ih0 _ _
      | exact LeO.none _
      | refine LeO.ite ?_ ?_
      | refine LeO.bind ?_ (fun _ => ?_)
theorem slotcoderef21_Check.mono : ∀ a0 k, LeO (slotcoderef21_Check.f k a0) (slotcoderef21_Check.f (k + 1) a0) := by
  intro a0 k
  have ih0 := slotcoderef21_Check.mono_l k
  unfold slotcoderef21_Check.f
  repeat' first
      | (with_reducible exact ih0 _ _)
      | (with_reducible exact LeO.refl _)
      | (with_reducible exact LeO.none _)
      | (with_reducible refine LeO.ite ?_ ?_)
      | (with_reducible refine LeO.bind ?_ (fun _ => ?_))
      | exact ih0 _ _
      | exact LeO.none _
      | refine LeO.ite ?_ ?_
      | refine LeO.bind ?_ (fun _ => ?_)
set_option maxHeartbeats 8000000 in
set_option maxRecDepth 100000 in
theorem slotcoderef21_Check.calls (k : Nat) (A0 : Option Addr) (c0 : Nat) (l0 : List (S28)) (r : Int) (w : World) (hr0 : Kd.C k28 w A0 l0.length l0) (hc0 : l0.length ≤ c0) (h : slotcoderef21_Check.f k l0 = some r) :
    Calls Tryd.prog 24 #[.slice A0 l0.length c0] w fun e w' => e = .returned (.int .i64 r) ∧ Below w.heap.size w w' := by
  have hu28 := Tryd.underlying28
  have HR0 := Aside0.mk hr0
  have HC0 := Aside0.mk hc0
  clear hr0 hc0
  have HB := Aside0.mk (Below.refl w.heap.size w)
  have H : (if (l0.length : Int) > 255 then (some 16) else (slotcoderef21_Check.l0 k l0 0)) = some r := h
  clear h
  by_cases c2 : (l0.length : Int) > 255
  · rw [if_pos c2] at H
    have c2b0 : decide (255 < (l0.length : Int)) = true := decide_eq_true c2
    have c2b1 : decide (255 < l0.length) = true := decide_eq_true (by omega)
    clear c2
    obtain rfl := Option.some.inj H
    go_enter Tryd.func24, Tryd.ntmps24
    go_wp2
    go_ret
    exact ⟨by first | rfl | (simp [errW_none, errW_some] <;> rfl) | (simp [*, errW_none, errW_some] <;> rfl), by repeat (first | (with_reducible first | exact HB.out | apply below_alloc | apply pw_below_drewN | apply below_drew1) | exact HB.out)⟩
  · rw [if_neg c2] at H
    have c2b0 : decide (255 < (l0.length : Int)) = false := decide_eq_false c2
    have c2b1 : decide (255 < l0.length) = false := decide_eq_false (by omega)
    clear c2
    have H' := Aside0.mk H
    clear H
    go_enter Tryd.func24, Tryd.ntmps24
    go_wp2
    go_loopg [3] k (fun kq v3 w' => ∃ (x3_1 : Int), v3 = .int .i64 x3_1 ∧ Aside0 (slotcoderef21_Check.l0 kq l0 x3_1 = some r) ∧ Aside0 (kq ≤ k) ∧ Aside0 (Below w.heap.size w w'))
    case atStart => exact ⟨(0), (by first | rfl | (simp; done) | (simp [*]; done)), H', ⟨Nat.le_refl _⟩, ⟨by repeat (first | (with_reducible first | exact HB.out | apply below_alloc | apply pw_below_drewN | apply below_drew1) | exact HB.out)⟩⟩
    case round =>
      clear H'
      try clear c2
      try clear c2b0
      try clear c2b1
      try clear p2
      obtain ⟨x3_1, rfl, HA, HK1, HB⟩ := hrel
      cases gk with
      | zero => exact absurd HA.out (by simp [slotcoderef21_Check.l0])
      | succ k1 =>
        have H := HA.out
        clear HA
        simp only [slotcoderef21_Check.l0] at H
        by_cases c3 : x3_1 < (l0.length : Int)
        · rw [if_pos c3] at H
          have c3b0 : decide (x3_1 < (l0.length : Int)) = true := decide_eq_true c3
          clear c3
          by_cases c4 : 0 ≤ x3_1
          · rw [if_pos c4] at H
            have c4b0 : decide (0 ≤ x3_1) = true := decide_eq_true c4
            clear c4
            replace H := Option.bind_eq_some_iff.mp H
            obtain ⟨t126, A50, H⟩ := H
            replace H : (if t126 = true then (slotcoderef21_Check.l0 k1 l0 (wrap64 (x3_1 + 1))) else (some 9)) = some r := H
            have A5 := Aside0.mk A50
            clear A50
            by_cases c6 : t126 = true
            · subst c6
              have H1 : (slotcoderef21_Check.l0 k1 l0 (wrap64 (x3_1 + 1))) = some r := by rw [if_pos rfl] at H; exact H
              clear H
              have H := H1
              clear H1
              have H' := Aside0.mk H
              clear H
              have p125 : 0 ≤ (x3_1 : Int) := of_decide_eq_true (by first | (with_reducible assumption) | assumption)
              have q125 : x3_1 < (l0.length : Int) := of_decide_eq_true (by first | (with_reducible assumption) | assumption)
              obtain ⟨ad125, e125, hx125_0, hx125_1, hx125_2, hx125_3⟩ := at_T28 HR0.out x3_1 p125 q125
              cases e125
              replace hx125_0 := (HB.out.cell (World.block_lt_of_cell? w _ hx125_0)).trans hx125_0
              replace hx125_1 := (HB.out.cell (World.block_lt_of_cell? w _ hx125_1)).trans hx125_1
              replace hx125_2 := (HB.out.cell (World.block_lt_of_cell? w _ hx125_2)).trans hx125_2
              replace hx125_3 := (HB.out.cell (World.block_lt_of_cell? w _ hx125_3)).trans hx125_3
              replace p125 := eq_true p125
              replace q125 := eq_true q125
              go_wp2_with (first | ((with_reducible refine gate_callee (f := 46) rfl ?_); refine goesL_ (some 17) rfl rfl Tryd.func46 (by kernel_rfl) rfl #[.agg #[.string ((rd_T28 l0 x3_1).f0), .int .i64 ((rd_T28 l0 x3_1).f1), .int .i64 ((rd_T28 l0 x3_1).f2), .int .i64 ((rd_T28 l0 x3_1).f3)]] rfl (by (try simp only [List.map_toArray, List.map_cons, List.map_nil]); first | done | rfl | (simp only [List.length_drop, List.length_take]; rfl)) ?_; (with_reducible refine (slotcoderef09_Sizes.calls ((rd_T28 l0 x3_1).f0) ((rd_T28 l0 x3_1).f1) ((rd_T28 l0 x3_1).f2) ((rd_T28 l0 x3_1).f3) true _ A5.out).mono ?_); rintro e w7 ⟨rfl, hb⟩; refine ⟨_, rfl, ?_⟩; have n0_ := Aside0.mk (below_step (by repeat (first | (with_reducible first | exact HB.out | apply below_alloc | apply pw_below_drewN | apply below_drew1) | exact HB.out)) hb); clear HB; have HB := n0_; clear n0_; (try clear hb); (try clear hb2); (try clear hk); (try clear hi)))
              go_roundg k1
              case measure => have := HK1.out; omega
              case rel => exact ⟨(wrap64 (x3_1 + 1)), (by first | rfl | (simp; done) | (simp [*]; done)), H', ⟨by have := HK1.out; omega⟩, ⟨by repeat (first | (with_reducible first | exact HB.out | apply below_alloc | apply pw_below_drewN | apply below_drew1) | exact HB.out)⟩⟩
            · replace c6 := Bool.eq_false_iff.mpr c6
              subst c6
              have H1 : (some 9) = some r := by rw [if_neg (show ¬ (false = true) by decide)] at H; exact H
              clear H
              have H := H1
              clear H1
              obtain rfl := Option.some.inj H
              have p125 : 0 ≤ (x3_1 : Int) := of_decide_eq_true (by first | (with_reducible assumption) | assumption)
              have q125 : x3_1 < (l0.length : Int) := of_decide_eq_true (by first | (with_reducible assumption) | assumption)
              obtain ⟨ad125, e125, hx125_0, hx125_1, hx125_2, hx125_3⟩ := at_T28 HR0.out x3_1 p125 q125
              cases e125
              replace hx125_0 := (HB.out.cell (World.block_lt_of_cell? w _ hx125_0)).trans hx125_0
              replace hx125_1 := (HB.out.cell (World.block_lt_of_cell? w _ hx125_1)).trans hx125_1
              replace hx125_2 := (HB.out.cell (World.block_lt_of_cell? w _ hx125_2)).trans hx125_2
              replace hx125_3 := (HB.out.cell (World.block_lt_of_cell? w _ hx125_3)).trans hx125_3
              replace p125 := eq_true p125
              replace q125 := eq_true q125
              go_wp2_with (first | ((with_reducible refine gate_callee (f := 46) rfl ?_); refine goesL_ (some 17) rfl rfl Tryd.func46 (by kernel_rfl) rfl #[.agg #[.string ((rd_T28 l0 x3_1).f0), .int .i64 ((rd_T28 l0 x3_1).f1), .int .i64 ((rd_T28 l0 x3_1).f2), .int .i64 ((rd_T28 l0 x3_1).f3)]] rfl (by (try simp only [List.map_toArray, List.map_cons, List.map_nil]); first | done | rfl | (simp only [List.length_drop, List.length_take]; rfl)) ?_; (with_reducible refine (slotcoderef09_Sizes.calls ((rd_T28 l0 x3_1).f0) ((rd_T28 l0 x3_1).f1) ((rd_T28 l0 x3_1).f2) ((rd_T28 l0 x3_1).f3) false _ A5.out).mono ?_); rintro e w8 ⟨rfl, hb⟩; refine ⟨_, rfl, ?_⟩; have n0_ := Aside0.mk (below_step (by repeat (first | (with_reducible first | exact HB.out | apply below_alloc | apply pw_below_drewN | apply below_drew1) | exact HB.out)) hb); clear HB; have HB := n0_; clear n0_; (try clear hb); (try clear hb2); (try clear hk); (try clear hi)))
              go_ret
              exact ⟨by first | rfl | (simp [errW_none, errW_some] <;> rfl) | (simp [*, errW_none, errW_some] <;> rfl), by repeat (first | (with_reducible first | exact HB.out | apply below_alloc | apply pw_below_drewN | apply below_drew1) | exact HB.out)⟩
          · rw [if_neg c4] at H
            exact absurd H (by simp)
        · rw [if_neg c3] at H
          have c3b0 : decide (x3_1 < (l0.length : Int)) = false := decide_eq_false c3
          clear c3
          obtain rfl := Option.some.inj H
          go_wp2
          go_ret
          exact ⟨by first | rfl | (simp [errW_none, errW_some] <;> rfl) | (simp [*, errW_none, errW_some] <;> rfl), by repeat (first | (with_reducible first | exact HB.out | apply below_alloc | apply pw_below_drewN | apply below_drew1) | exact HB.out)⟩

/-! ### slotcoderef20_inside: function 38 -/
def slotcoderef20_inside.f (a0_0 : Int) (l0_1 : List Int) (a1 : Int) : Option (Bool) := if a1 ≥ a0_0 then (some (decide ((IntKind.u64.wrap (a1 - a0_0)) < (IntKind.u64.wrap ((l0_1.length : Int)))))) else (some false)
set_option maxHeartbeats 8000000 in
set_option maxRecDepth 100000 in
theorem slotcoderef20_inside.calls (a0_0 : Int) (A0_1 : Option Addr) (c0_1 : Nat) (l0_1 : List Int) (a1 : Int) (r : Bool) (w : World) (hr0_1 : Kd.C (Kd.int .u8) w A0_1 l0_1.length l0_1) (hc0_1 : l0_1.length ≤ c0_1) (h : slotcoderef20_inside.f a0_0 l0_1 a1 = some r) :
    Calls Tryd.prog 38 #[.agg #[.int .u64 a0_0, .slice A0_1 l0_1.length c0_1], .int .u64 a1] w fun e w' => e = .returned (.bool r) ∧ Below w.heap.size w w' := by
  have hu108 := Tryd.underlying108
  have HR0_1 := Aside0.mk hr0_1
  have HC0_1 := Aside0.mk hc0_1
  clear hr0_1 hc0_1
  have HB := Aside0.mk (Below.refl w.heap.size w)
  have H : (if a1 ≥ a0_0 then (some (decide ((IntKind.u64.wrap (a1 - a0_0)) < (IntKind.u64.wrap ((l0_1.length : Int)))))) else (some false)) = some r := h
  clear h
  by_cases c3 : a1 ≥ a0_0
  · rw [if_pos c3] at H
    have c3b0 : decide (a0_0 ≤ a1) = true := decide_eq_true c3
    clear c3
    obtain rfl := Option.some.inj H
    go_enter Tryd.func38, Tryd.ntmps38
    go_wp2_with (first | ((with_reducible refine gate_dst (N := 2) rfl ?_); (try (refine gate_guard (by rfl) ?_; dsimp only)); refine box_event ?hg (N := 2) ?hd (cs := #[.int .u64 a0_0, .slice A0_1 l0_1.length c0_1]) (t := 108) ?hr ?_; (case hd => rfl); (case hg => rfl); (case hr => first | (go_simp; done) | (go_simp; rfl)); intro gb127 hg w4 hbox hb; have n0_ := Aside0.mk (below_step (by repeat (first | (with_reducible first | exact HB.out | apply below_alloc | apply pw_below_drewN | apply below_drew1) | exact HB.out)) hb); have n1_ := Aside0.mk (hbox); have n2_ := Aside0.mk ((by rw [hg]; exact (below_size (by repeat (first | (with_reducible first | exact HB.out | apply below_alloc | apply pw_below_drewN | apply below_drew1) | exact HB.out))) : w.heap.size ≤ gb127)); have n3_ := Aside0.mk ((by rw [hg]; exact (below_size (by repeat (first | (with_reducible first | exact HB.out | apply below_alloc | apply pw_below_drewN | apply below_drew1) | exact HB.out))) : w.heap.size ≤ gb127)); clear HB; have HB := n0_; have BK127 := n1_; have GW127 := n2_; have GE127 := n3_; clear n0_ n1_ n2_ n3_; clear hb hbox hg; have hcz5_0 : w4.cell? ⟨gb127, 0, none⟩ = some (.int .u64 a0_0) := (blk_cell BK127.out 0).trans rfl; have hcz5_1 : w4.cell? ⟨gb127, 1, none⟩ = some (.slice A0_1 l0_1.length c0_1) := (blk_cell BK127.out 1).trans rfl; have hfz5_0 := blk_frozen BK127.out 0; have hfz5_1 := blk_frozen BK127.out 1))
    go_ret
    exact ⟨by first | rfl | (simp [errW_none, errW_some] <;> rfl) | (simp [*, errW_none, errW_some] <;> rfl), by repeat (first | (with_reducible first | exact HB.out | apply below_alloc | apply pw_below_drewN | apply below_drew1 | refine below_set ?_ GE127.out) | exact HB.out)⟩
  · rw [if_neg c3] at H
    have c3b0 : decide (a0_0 ≤ a1) = false := decide_eq_false c3
    clear c3
    obtain rfl := Option.some.inj H
    go_enter Tryd.func38, Tryd.ntmps38
    go_wp2_with (first | ((with_reducible refine gate_dst (N := 2) rfl ?_); (try (refine gate_guard (by rfl) ?_; dsimp only)); refine box_event ?hg (N := 2) ?hd (cs := #[.int .u64 a0_0, .slice A0_1 l0_1.length c0_1]) (t := 108) ?hr ?_; (case hd => rfl); (case hg => rfl); (case hr => first | (go_simp; done) | (go_simp; rfl)); intro gb127 hg w6 hbox hb; have n0_ := Aside0.mk (below_step (by repeat (first | (with_reducible first | exact HB.out | apply below_alloc | apply pw_below_drewN | apply below_drew1) | exact HB.out)) hb); have n1_ := Aside0.mk (hbox); have n2_ := Aside0.mk ((by rw [hg]; exact (below_size (by repeat (first | (with_reducible first | exact HB.out | apply below_alloc | apply pw_below_drewN | apply below_drew1) | exact HB.out))) : w.heap.size ≤ gb127)); have n3_ := Aside0.mk ((by rw [hg]; exact (below_size (by repeat (first | (with_reducible first | exact HB.out | apply below_alloc | apply pw_below_drewN | apply below_drew1) | exact HB.out))) : w.heap.size ≤ gb127)); clear HB; have HB := n0_; have BK127 := n1_; have GW127 := n2_; have GE127 := n3_; clear n0_ n1_ n2_ n3_; clear hb hbox hg; have hcz7_0 : w6.cell? ⟨gb127, 0, none⟩ = some (.int .u64 a0_0) := (blk_cell BK127.out 0).trans rfl; have hcz7_1 : w6.cell? ⟨gb127, 1, none⟩ = some (.slice A0_1 l0_1.length c0_1) := (blk_cell BK127.out 1).trans rfl; have hfz7_0 := blk_frozen BK127.out 0; have hfz7_1 := blk_frozen BK127.out 1))
    go_ret
    exact ⟨by first | rfl | (simp [errW_none, errW_some] <;> rfl) | (simp [*, errW_none, errW_some] <;> rfl), by repeat (first | (with_reducible first | exact HB.out | apply below_alloc | apply pw_below_drewN | apply below_drew1 | refine below_set ?_ GE127.out) | exact HB.out)⟩

/-! ### slotcoderef21_Handle: function 58 -/
def slotcoderef21_Handle.f (a0 : Int) : Option (Int) := if a0 < 0 then (some 0) else (if a0 > 254 then (some 0) else (some (IntKind.u64.wrap (2305843009213693952 + (IntKind.u64.wrap (a0))))))
set_option maxHeartbeats 8000000 in
set_option maxRecDepth 100000 in
theorem slotcoderef21_Handle.calls (a0 : Int) (r : Int) (w : World) (h : slotcoderef21_Handle.f a0 = some r) :
    Calls Tryd.prog 58 #[.int .i64 a0] w fun e w' => e = .returned (.int .u64 r) ∧ Drawn0 w w' := by
  have H : (if a0 < 0 then (some 0) else (if a0 > 254 then (some 0) else (some (IntKind.u64.wrap (2305843009213693952 + (IntKind.u64.wrap (a0))))))) = some r := h
  clear h
  by_cases c2 : a0 < 0
  · rw [if_pos c2] at H
    have c2b0 : decide (a0 < 0) = true := decide_eq_true c2
    clear c2
    obtain rfl := Option.some.inj H
    go_enter Tryd.func58, Tryd.ntmps58
    go_wp2
    go_ret
    exact ⟨by first | rfl | (simp; done) | (simp [*]; done), by repeat (first | exact Drawn0.refl _ | apply Drawn0.step)⟩
  · rw [if_neg c2] at H
    have c2b0 : decide (a0 < 0) = false := decide_eq_false c2
    clear c2
    by_cases c3 : a0 > 254
    · rw [if_pos c3] at H
      have c3b0 : decide (254 < a0) = true := decide_eq_true c3
      clear c3
      obtain rfl := Option.some.inj H
      go_enter Tryd.func58, Tryd.ntmps58
      go_wp2
      go_ret
      exact ⟨by first | rfl | (simp; done) | (simp [*]; done), by repeat (first | exact Drawn0.refl _ | apply Drawn0.step)⟩
    · rw [if_neg c3] at H
      have c3b0 : decide (254 < a0) = false := decide_eq_false c3
      clear c3
      obtain rfl := Option.some.inj H
      go_enter Tryd.func58, Tryd.ntmps58
      go_wp2
      go_ret
      exact ⟨by first | rfl | (simp; done) | (simp [*]; done), by repeat (first | exact Drawn0.refl _ | apply Drawn0.step)⟩

/-! ### slotcoderef22_Name: function 26 -/
def slotcoderef22_Name.f (a0 : Int) : Option (ByteArray) := if a0 < 1 then (some (⟨#[]⟩ : ByteArray)) else (if a0 > 3 then (some (⟨#[]⟩ : ByteArray)) else ((some (([(⟨#[108, 111, 111, 107, 117, 112]⟩ : ByteArray), (⟨#[117, 112, 100, 97, 116, 101]⟩ : ByteArray), (⟨#[100, 101, 108, 101, 116, 101]⟩ : ByteArray)] : List ByteArray) : List ByteArray)).bind fun y141 => (if 0 ≤ (wrap64 (a0 - 1)) then (if (wrap64 (a0 - 1)) < (y141.length : Int) then (some (rdOf ByteArray.empty y141 (wrap64 (a0 - 1)))) else (none)) else (none))))
set_option maxHeartbeats 8000000 in
set_option maxRecDepth 100000 in
theorem slotcoderef22_Name.calls (a0 : Int) (r : ByteArray) (w : World) (h : slotcoderef22_Name.f a0 = some r) :
    Calls Tryd.prog 26 #[.int .i64 a0] w fun e w' => e = .returned (.string r) ∧ Below w.heap.size w w' := by
  have HB := Aside0.mk (Below.refl w.heap.size w)
  have H : (if a0 < 1 then (some (⟨#[]⟩ : ByteArray)) else (if a0 > 3 then (some (⟨#[]⟩ : ByteArray)) else ((some (([(⟨#[108, 111, 111, 107, 117, 112]⟩ : ByteArray), (⟨#[117, 112, 100, 97, 116, 101]⟩ : ByteArray), (⟨#[100, 101, 108, 101, 116, 101]⟩ : ByteArray)] : List ByteArray) : List ByteArray)).bind fun y141 => (if 0 ≤ (wrap64 (a0 - 1)) then (if (wrap64 (a0 - 1)) < (y141.length : Int) then (some (rdOf ByteArray.empty y141 (wrap64 (a0 - 1)))) else (none)) else (none))))) = some r := h
  clear h
  by_cases c2 : a0 < 1
  · rw [if_pos c2] at H
    have c2b0 : decide (a0 < 1) = true := decide_eq_true c2
    clear c2
    obtain rfl := Option.some.inj H
    go_enter Tryd.func26, Tryd.ntmps26
    go_wp2
    go_ret
    exact ⟨by first | rfl | (simp [errW_none, errW_some] <;> rfl) | (simp [*, errW_none, errW_some] <;> rfl), by repeat (first | (with_reducible first | exact HB.out | apply below_alloc | apply pw_below_drewN | apply below_drew1) | exact HB.out)⟩
  · rw [if_neg c2] at H
    have c2b0 : decide (a0 < 1) = false := decide_eq_false c2
    clear c2
    by_cases c3 : a0 > 3
    · rw [if_pos c3] at H
      have c3b0 : decide (3 < a0) = true := decide_eq_true c3
      clear c3
      obtain rfl := Option.some.inj H
      go_enter Tryd.func26, Tryd.ntmps26
      go_wp2
      go_ret
      exact ⟨by first | rfl | (simp [errW_none, errW_some] <;> rfl) | (simp [*, errW_none, errW_some] <;> rfl), by repeat (first | (with_reducible first | exact HB.out | apply below_alloc | apply pw_below_drewN | apply below_drew1) | exact HB.out)⟩
    · rw [if_neg c3] at H
      have c3b0 : decide (3 < a0) = false := decide_eq_false c3
      clear c3
      obtain ⟨y141, hy141⟩ : ∃ y_ : List ByteArray, y_ = (([(⟨#[108, 111, 111, 107, 117, 112]⟩ : ByteArray), (⟨#[117, 112, 100, 97, 116, 101]⟩ : ByteArray), (⟨#[100, 101, 108, 101, 116, 101]⟩ : ByteArray)] : List ByteArray)) := ⟨_, rfl⟩
      replace H : (if 0 ≤ (wrap64 (a0 - 1)) then (if (wrap64 (a0 - 1)) < (y141.length : Int) then (some (rdOf ByteArray.empty y141 (wrap64 (a0 - 1)))) else (none)) else (none)) = some r := by first | (rw [hy141]; with_reducible exact H) | (have H2_ := (Option.bind_some _ _).symm.trans H; rw [hy141]; with_reducible exact H2_) | (have H2_ := (Option.bind_some _ _).symm.trans H; with_reducible exact H2_) | with_reducible exact H | (rw [hy141]; exact H) | exact H
      have Ny141 := Aside0.mk hy141
      clear hy141
      obtain ⟨ji4, hji4⟩ : ∃ j_ : Int, (wrap64 (a0 - 1)) = j_ := ⟨_, rfl⟩
      replace H : (if 0 ≤ (ji4) then (if (ji4) < (y141.length : Int) then (some (rdOf ByteArray.empty y141 (ji4))) else (none)) else (none)) = some r := by first | (rw [hji4] at H; exact H) | (simp only [hji4] at H ⊢; exact H)
      have hji4w : (IntKind.i64.wrap (a0 - 1)) = ji4 := (i64_w _).trans hji4
      by_cases c5 : 0 ≤ (ji4)
      · rw [if_pos c5] at H
        have c5b0 : decide (0 ≤ (ji4)) = true := decide_eq_true c5
        clear c5
        by_cases c6 : (ji4) < (y141.length : Int)
        · rw [if_pos c6] at H
          have c6b0 : decide ((ji4) < (y141.length : Int)) = true := decide_eq_true c6
          clear c6
          obtain rfl := Option.some.inj H
          go_enter Tryd.func26, Tryd.ntmps26
          go_wp2_with (first | ((with_reducible refine gate_dst (N := 9) rfl ?_); refine Kd.R_lit Kd.string _ 9 ?hg (N := 9) ?hd (xs := ([(⟨#[108, 111, 111, 107, 117, 112]⟩ : ByteArray), (⟨#[117, 112, 100, 97, 116, 101]⟩ : ByteArray), (⟨#[100, 101, 108, 101, 116, 101]⟩ : ByteArray)] : List ByteArray)) (inner := [.string (⟨#[108, 111, 111, 107, 117, 112]⟩ : ByteArray), .string (⟨#[117, 112, 100, 97, 116, 101]⟩ : ByteArray), .string (⟨#[100, 101, 108, 101, 116, 101]⟩ : ByteArray)]) (ok := fun _ => True) (okp := fun _ => True) ?hr ?hp (fun _ hk => hk) trivial (Below.refl _ _) (Nat.le_refl _) (by simp) ?_; (case hd => rfl); (case hg => rfl); (case hr => first | (go_simp; done) | (go_simp; rfl)); (case hp => exact (Reps.one (show Kd.M Kd.string _ _ _ (⟨#[108, 111, 111, 107, 117, 112]⟩ : ByteArray) [.string (⟨#[108, 111, 111, 107, 117, 112]⟩ : ByteArray)] from rfl) (Reps.one (show Kd.M Kd.string _ _ _ (⟨#[117, 112, 100, 97, 116, 101]⟩ : ByteArray) [.string (⟨#[117, 112, 100, 97, 116, 101]⟩ : ByteArray)] from rfl) (Reps.one (show Kd.M Kd.string _ _ _ (⟨#[100, 101, 108, 101, 116, 101]⟩ : ByteArray) [.string (⟨#[100, 101, 108, 101, 116, 101]⟩ : ByteArray)] from rfl) (Reps.none _ _))))); intro v142 w7 ho8 hb hg_ hnew_; clear hg_ hnew_; (first | rw [← Ny141.out] at ho8 | (simp only [Int.reduceToNat] at ho8; rw [← Ny141.out] at ho8)); have n0_ := Aside0.mk (Kd.R_lower ho8 (below_size (by repeat (first | (with_reducible first | exact HB.out | apply below_alloc | apply pw_below_drewN | apply below_drew1) | exact HB.out)))); have n1_ := Aside0.mk (below_step (by repeat (first | (with_reducible first | exact HB.out | apply below_alloc | apply pw_below_drewN | apply below_drew1) | exact HB.out)) hb); clear HB; have HO143 := n0_; have HB := n1_; clear n0_ n1_; clear hb ho8; obtain ⟨Ao9, co9, eo9⟩ := Kd.R_slice HO143.out; subst eo9; have p144 : 0 ≤ ((ji4) : Int) := of_decide_eq_true (by first | (with_reducible assumption) | assumption); have q144 : (ji4) < (y141.length : Int) := of_decide_eq_true (by first | (with_reducible assumption) | assumption); obtain ⟨ad144, e144, hx144_0⟩ := Kd.at_string (Kd.R_reads' HO143.out).2.2 (ji4) p144 q144; cases e144; replace p144 := eq_true p144; replace q144 := eq_true q144))
          go_ret
          exact ⟨by first | rfl | (simp [errW_none, errW_some] <;> rfl) | (simp only [← hji4]; first | rfl | (simp [errW_none, errW_some] <;> rfl)) | (simp [*, errW_none, errW_some] <;> rfl), by repeat (first | (with_reducible first | exact HB.out | apply below_alloc | apply pw_below_drewN | apply below_drew1) | exact HB.out)⟩
        · rw [if_neg c6] at H
          exact absurd H (by simp)
      · rw [if_neg c5] at H
        exact absurd H (by simp)


end Go.Proofs.YtomnfkihieinbaaDoor.PAll
