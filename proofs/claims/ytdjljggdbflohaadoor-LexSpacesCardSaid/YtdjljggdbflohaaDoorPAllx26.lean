-- By a program of this session (xp.py) over the kit's print, with texts of this session.
import Derived.Test.YtdjljggdbflohaaDoorPAllx0
import Derived.Test.YtdjljggdbflohaaDoorPAllx4
import Derived.Test.YtdjljggdbflohaaDoorPAllx12
import Derived.Test.YtdjljggdbflohaaDoorPAllx25
import Derived.Test.YtdjljggdbflohaaDoorLexBase
namespace Go.Proofs.YtdjljggdbflohaaDoor.PAll
open Go.RowKit Go.Proofs.YtdjljggdbflohaaDoorW.PrintWords Go.Proofs.YtdjljggdbflohaaDoorW.PrintLast Go.Proofs.YtdjljggdbflohaaDoorW.PrintMore
attribute [local go_sem] max2_int min2_int max_two min_two max_three min_three max_four min_four   -- for this text's walks alone
set_option linter.unusedVariables false
set_option linter.unusedSimpArgs false

-- EXTERN
-- XIMPORT Derived.Test.YtdjljggdbflohaaDoorLexBase
/-! ### slotcodelaw08_LexSpaces: function 8 -/
mutual
def slotcodelaw08_LexSpaces.j0 : Nat → ByteArray → ByteArray → Bool → Option (Bool)
  | 0, _, _, _ => none
  | k + 1, x0, x1, x23 => if x23 = true then ((slotcodelaw08_alive.f k).bind fun t256 => (some t256)) else ((lex_Tokens.f x0).bind fun bt257 => (if bt257.2.2 = 0 then (slotcodelaw08_LexSpaces.l0 k x1 bt257.1 ([] : List ByteArray) bt257.1 (bt257.1.length : Int) 0) else ((slotcodelaw08_alive.f k).bind fun t262 => (some t262))))
def slotcodelaw08_LexSpaces.l0 : Nat → ByteArray → List (S31) → List ByteArray → List (S31) → Int → Int → Option (Bool)
  | 0, _, _, _, _, _, _ => none
  | k + 1, x1, x5, x8, x34, x35, x36 => if x36 < x35 then (if 0 ≤ x36 then (if x36 < (x34.length : Int) then (if x8.length < 8796093022208 then (slotcodelaw08_LexSpaces.l0 k x1 x5 (x8 ++ [(rd_T31 x34 x36).f0]) x34 x35 (wrap64 (x36 + 1))) else (none)) else (none)) else (none)) else ((strings_Join.f x8 (⟨#[32]⟩ : ByteArray)).bind fun t268 => (if t268.size + 2 ≤ 9223372036854775807 then (if (t268 ++ (⟨#[9, 35]⟩ : ByteArray)).size + x1.size ≤ 9223372036854775807 then ((lex_Tokens.f ((t268 ++ (⟨#[9, 35]⟩ : ByteArray)) ++ x1)).bind fun bt269 => (if bt269.2.2 = 0 then (slotcodelaw08_LexSpaces.j2 k x5 bt269.1 ((bt269.1.length : Int) != (x5.length : Int))) else (slotcodelaw08_LexSpaces.j2 k x5 bt269.1 true))) else (none)) else (none)))
def slotcodelaw08_LexSpaces.j2 : Nat → List (S31) → List (S31) → Bool → Option (Bool)
  | 0, _, _, _ => none
  | k + 1, x5, x11, x64 => if x64 = true then (some false) else (slotcodelaw08_LexSpaces.l1 k x5 x11 (x11.length : Int) 0)
def slotcodelaw08_LexSpaces.l1 : Nat → List (S31) → List (S31) → Int → Int → Option (Bool)
  | 0, _, _, _, _ => none
  | k + 1, x5, x65, x66, x67 => if x67 < x66 then (if 0 ≤ x67 then (if x67 < (x65.length : Int) then (if x67 < (x5.length : Int) then (if ((rd_T31 x65 x67).f0).toList = ((rd_T31 x5 x67).f0).toList then (slotcodelaw08_LexSpaces.l1 k x5 x65 x66 (wrap64 (x67 + 1))) else (some false)) else (none)) else (none)) else (none)) else ((slotcodelaw08_alive.f k).bind fun t277 => (some t277))
end
def slotcodelaw08_LexSpaces.f (k : Nat) (a0 : ByteArray) (a1 : ByteArray) : Option (Bool) := if (a0.size : Int) > 3000 then (slotcodelaw08_LexSpaces.j0 k a0 a1 true) else (slotcodelaw08_LexSpaces.j0 k a0 a1 (decide ((a1.size : Int) > 3000)))
theorem slotcodelaw08_LexSpaces.mono_l : ∀ k, (∀ y0 y1 y2, LeO (slotcodelaw08_LexSpaces.j0 k y0 y1 y2) (slotcodelaw08_LexSpaces.j0 (k + 1) y0 y1 y2)) ∧ (∀ y0 y1 y2 y3 y4 y5, LeO (slotcodelaw08_LexSpaces.l0 k y0 y1 y2 y3 y4 y5) (slotcodelaw08_LexSpaces.l0 (k + 1) y0 y1 y2 y3 y4 y5)) ∧ (∀ y0 y1 y2, LeO (slotcodelaw08_LexSpaces.j2 k y0 y1 y2) (slotcodelaw08_LexSpaces.j2 (k + 1) y0 y1 y2)) ∧ (∀ y0 y1 y2 y3, LeO (slotcodelaw08_LexSpaces.l1 k y0 y1 y2 y3) (slotcodelaw08_LexSpaces.l1 (k + 1) y0 y1 y2 y3))
  | 0 => ⟨fun _ _ _ r h => by simp [slotcodelaw08_LexSpaces.j0] at h, fun _ _ _ _ _ _ r h => by simp [slotcodelaw08_LexSpaces.l0] at h, fun _ _ _ r h => by simp [slotcodelaw08_LexSpaces.j2] at h, fun _ _ _ _ r h => by simp [slotcodelaw08_LexSpaces.l1] at h⟩
  | k + 1 => by
    obtain ⟨ih0, ih1, ih2, ih3⟩ := slotcodelaw08_LexSpaces.mono_l k
    refine ⟨?_, ?_, ?_, ?_⟩
    · intro y0 y1 y2
      unfold slotcodelaw08_LexSpaces.j0
      repeat' first
      | (with_reducible exact ih0 _ _ _)
      | (with_reducible exact ih1 _ _ _ _ _ _)
      | (with_reducible exact ih2 _ _ _)
      | (with_reducible exact ih3 _ _ _ _)
      | (with_reducible exact slotcodelaw08_alive.mono _)
      | (with_reducible exact LeO.refl _)
      | (with_reducible exact LeO.none _)
      | (with_reducible refine LeO.ite ?_ ?_)
      | (with_reducible refine LeO.bind ?_ (fun _ => ?_))
      | exact ih0 _ _ _
      | exact ih1 _ _ _ _ _ _
      | exact ih2 _ _ _
      | exact ih3 _ _ _ _
      | exact slotcodelaw08_alive.mono _
      | exact LeO.none _
      | refine LeO.ite ?_ ?_
      | refine LeO.bind ?_ (fun _ => ?_)
    · intro y0 y1 y2 y3 y4 y5
      unfold slotcodelaw08_LexSpaces.l0
      repeat' first
      | (with_reducible exact ih0 _ _ _)
      | (with_reducible exact ih1 _ _ _ _ _ _)
      | (with_reducible exact ih2 _ _ _)
      | (with_reducible exact ih3 _ _ _ _)
      | (with_reducible exact slotcodelaw08_alive.mono _)
      | (with_reducible exact LeO.refl _)
      | (with_reducible exact LeO.none _)
      | (with_reducible refine LeO.ite ?_ ?_)
      | (with_reducible refine LeO.bind ?_ (fun _ => ?_))
      | exact ih0 _ _ _
      | exact ih1 _ _ _ _ _ _
      | exact ih2 _ _ _
      | exact ih3 _ _ _ _
      | exact slotcodelaw08_alive.mono _
      | exact LeO.none _
      | refine LeO.ite ?_ ?_
      | refine LeO.bind ?_ (fun _ => ?_)
    · intro y0 y1 y2
      unfold slotcodelaw08_LexSpaces.j2
      repeat' first
      | (with_reducible exact ih0 _ _ _)
      | (with_reducible exact ih1 _ _ _ _ _ _)
      | (with_reducible exact ih2 _ _ _)
      | (with_reducible exact ih3 _ _ _ _)
      | (with_reducible exact slotcodelaw08_alive.mono _)
      | (with_reducible exact LeO.refl _)
      | (with_reducible exact LeO.none _)
      | (with_reducible refine LeO.ite ?_ ?_)
      | (with_reducible refine LeO.bind ?_ (fun _ => ?_))
      | exact ih0 _ _ _
      | exact ih1 _ _ _ _ _ _
      | exact ih2 _ _ _
      | exact ih3 _ _ _ _
      | exact slotcodelaw08_alive.mono _
      | exact LeO.none _
      | refine LeO.ite ?_ ?_
      | refine LeO.bind ?_ (fun _ => ?_)
    · intro y0 y1 y2 y3
      unfold slotcodelaw08_LexSpaces.l1
      repeat' first
      | (with_reducible exact ih0 _ _ _)
      | (with_reducible exact ih1 _ _ _ _ _ _)
      | (with_reducible exact ih2 _ _ _)
      | (with_reducible exact ih3 _ _ _ _)
      | (with_reducible exact slotcodelaw08_alive.mono _)
      | (with_reducible exact LeO.refl _)
      | (with_reducible exact LeO.none _)
      | (with_reducible refine LeO.ite ?_ ?_)
      | (with_reducible refine LeO.bind ?_ (fun _ => ?_))
      | exact ih0 _ _ _
      | exact ih1 _ _ _ _ _ _
      | exact ih2 _ _ _
      | exact ih3 _ _ _ _
      | exact slotcodelaw08_alive.mono _
      | exact LeO.none _
      | refine LeO.ite ?_ ?_
      | refine LeO.bind ?_ (fun _ => ?_)
theorem slotcodelaw08_LexSpaces.mono : ∀ a0 a1 k, LeO (slotcodelaw08_LexSpaces.f k a0 a1) (slotcodelaw08_LexSpaces.f (k + 1) a0 a1) := by
  intro a0 a1 k
  obtain ⟨ih0, ih1, ih2, ih3⟩ := slotcodelaw08_LexSpaces.mono_l k
  unfold slotcodelaw08_LexSpaces.f
  repeat' first
      | (with_reducible exact ih0 _ _ _)
      | (with_reducible exact ih1 _ _ _ _ _ _)
      | (with_reducible exact ih2 _ _ _)
      | (with_reducible exact ih3 _ _ _ _)
      | (with_reducible exact slotcodelaw08_alive.mono _)
      | (with_reducible exact LeO.refl _)
      | (with_reducible exact LeO.none _)
      | (with_reducible refine LeO.ite ?_ ?_)
      | (with_reducible refine LeO.bind ?_ (fun _ => ?_))
      | exact ih0 _ _ _
      | exact ih1 _ _ _ _ _ _
      | exact ih2 _ _ _
      | exact ih3 _ _ _ _
      | exact slotcodelaw08_alive.mono _
      | exact LeO.none _
      | refine LeO.ite ?_ ?_
      | refine LeO.bind ?_ (fun _ => ?_)
set_option maxHeartbeats 8000000 in
set_option maxRecDepth 100000 in
theorem slotcodelaw08_LexSpaces.calls (k : Nat) (a0 : ByteArray) (a1 : ByteArray) (r : Bool) (w : World) (h : slotcodelaw08_LexSpaces.f k a0 a1 = some r) (hL : LaidI w) :
    Calls Tryd.prog 8 #[.string a0, .string a1] w fun e w' => e = .returned (.bool r) ∧ Below w.heap.size w w' := by
  have hu31 := Tryd.underlying31
  have HB := Aside0.mk (Below.refl w.heap.size w)
  have HL := Aside0.mk hL
  clear hL
  have H : (if (a0.size : Int) > 3000 then (slotcodelaw08_LexSpaces.j0 k a0 a1 true) else (slotcodelaw08_LexSpaces.j0 k a0 a1 (decide ((a1.size : Int) > 3000)))) = some r := h
  clear h
  have HC3 := Aside0.mk H
  clear H
  go_enter Tryd.func8, Tryd.ntmps8
  go_upto_region 1 with (fail)
  repeat (go_quiet (fail); go_upto_region 1 with (fail))
  go_cut [23] (fun v23 wc => ∃ (kq : Nat) (x23_2 : Bool), v23 = .bool x23_2 ∧ Aside0 (slotcodelaw08_LexSpaces.j0 kq a0 a1 x23_2 = some r) ∧ Aside0 (kq ≤ k) ∧ Aside0 (Below w.heap.size w wc))
  case first =>
    have H := HC3.out
    clear HC3
    by_cases c4 : (a0.size : Int) > 3000
    · rw [if_pos c4] at H
      have c4b0 : decide (3000 < (a0.size : Int)) = true := decide_eq_true c4
      have c4b1 : decide (3000 < a0.size) = true := decide_eq_true (by omega)
      clear c4
      (first | rw [c4b0] | (simp only [i64_w, i32_w]; rw [c4b0]) | skip)
      have H' := Aside0.mk H
      clear H
      go_wp2
      repeat (go_quiet (fail); try go_wp2)
      go_meet
      case rel => exact ⟨_, (true), (by first | rfl | (simp; done) | (simp [*]; done)), H', ⟨by first | omega | exact Nat.le_refl _⟩, ⟨by repeat (first | (with_reducible first | exact HB.out | apply below_alloc | apply pw_below_drewN | apply below_drew1) | exact HB.out)⟩⟩
    · rw [if_neg c4] at H
      have c4b0 : decide (3000 < (a0.size : Int)) = false := decide_eq_false c4
      have c4b1 : decide (3000 < a0.size) = false := decide_eq_false (by omega)
      clear c4
      (first | rw [c4b0] | (simp only [i64_w, i32_w]; rw [c4b0]) | skip)
      have H' := Aside0.mk H
      clear H
      go_wp2
      repeat (go_quiet (fail); try go_wp2)
      go_meet
      case rel => exact ⟨_, (decide ((a1.size : Int) > 3000)), (by first | rfl | (simp; done) | (simp [*]; done)), H', ⟨by first | omega | exact Nat.le_refl _⟩, ⟨by repeat (first | (with_reducible first | exact HB.out | apply below_alloc | apply pw_below_drewN | apply below_drew1) | exact HB.out)⟩⟩
  case rest =>
    clear HC3
    try clear p2
    try clear c4
    try clear c4b0
    try clear c4b1
    obtain ⟨kq, x23_2, rfl, HA, HJ2, HB⟩ := hcut
    cases kq with
    | zero => exact absurd HA.out (by simp [slotcodelaw08_LexSpaces.j0])
    | succ kj2 =>
      have H := HA.out
      clear HA
      simp only [slotcodelaw08_LexSpaces.j0] at H
      by_cases c5 : x23_2 = true
      · subst c5
        have H1 : ((slotcodelaw08_alive.f kj2).bind fun t256 => (some t256)) = some r := by rw [if_pos rfl] at H; exact H
        clear H
        have H := H1
        clear H1
        replace H := Option.bind_eq_some_iff.mp H
        obtain ⟨t256, A60, H⟩ := H
        replace H : (some t256) = some r := H
        have A6 := Aside0.mk A60
        clear A60
        obtain rfl := Option.some.inj H
        go_wp2_with (first | (go_at_call 9; (with_reducible refine (slotcodelaw08_alive.calls kj2  t256 _ A6.out ?sideL).mono ?_); (case sideL => exact LaidI.below HL.out (by repeat (first | (with_reducible first | exact HB.out | exact Below.refl _ _ | apply below_alloc | apply pw_below_drewN | apply below_drew1) | refine below_set ?_ (Aside0.out (by assumption)) | exact HB.out | exact Below.refl _ _ | exact pw_below_drewN (Below.refl _ _) _))); rintro e w7 ⟨rfl, hb⟩; have n0_ := Aside0.mk (below_step (by repeat (first | (with_reducible first | exact HB.out | apply below_alloc | apply pw_below_drewN | apply below_drew1) | exact HB.out)) hb); clear HB; have HB := n0_; clear n0_; (try clear hb); (try clear hb2); (try clear hk); (try clear hi)))
        repeat (go_quiet (first | (go_at_call 9; (with_reducible refine (slotcodelaw08_alive.calls kj2  t256 _ A6.out ?sideL).mono ?_); (case sideL => exact LaidI.below HL.out (by repeat (first | (with_reducible first | exact HB.out | exact Below.refl _ _ | apply below_alloc | apply pw_below_drewN | apply below_drew1) | refine below_set ?_ (Aside0.out (by assumption)) | exact HB.out | exact Below.refl _ _ | exact pw_below_drewN (Below.refl _ _) _))); rintro e w7 ⟨rfl, hb⟩; have n0_ := Aside0.mk (below_step (by repeat (first | (with_reducible first | exact HB.out | apply below_alloc | apply pw_below_drewN | apply below_drew1) | exact HB.out)) hb); clear HB; have HB := n0_; clear n0_; (try clear hb); (try clear hb2); (try clear hk); (try clear hi))); try go_wp2_with (first | (go_at_call 9; (with_reducible refine (slotcodelaw08_alive.calls kj2  t256 _ A6.out ?sideL).mono ?_); (case sideL => exact LaidI.below HL.out (by repeat (first | (with_reducible first | exact HB.out | exact Below.refl _ _ | apply below_alloc | apply pw_below_drewN | apply below_drew1) | refine below_set ?_ (Aside0.out (by assumption)) | exact HB.out | exact Below.refl _ _ | exact pw_below_drewN (Below.refl _ _) _))); rintro e w7 ⟨rfl, hb⟩; have n0_ := Aside0.mk (below_step (by repeat (first | (with_reducible first | exact HB.out | apply below_alloc | apply pw_below_drewN | apply below_drew1) | exact HB.out)) hb); clear HB; have HB := n0_; clear n0_; (try clear hb); (try clear hb2); (try clear hk); (try clear hi))))
        go_ret
        exact ⟨by first | rfl | (simp [errW_none, errW_some] <;> rfl) | (simp [*, errW_none, errW_some] <;> rfl), by repeat (first | (with_reducible first | exact HB.out | apply below_alloc | apply pw_below_drewN | apply below_drew1) | exact HB.out)⟩
      · replace c5 := Bool.eq_false_iff.mpr c5
        subst c5
        have H1 : ((lex_Tokens.f a0).bind fun bt257 => (if bt257.2.2 = 0 then (slotcodelaw08_LexSpaces.l0 kj2 a1 bt257.1 ([] : List ByteArray) bt257.1 (bt257.1.length : Int) 0) else ((slotcodelaw08_alive.f kj2).bind fun t262 => (some t262)))) = some r := by rw [if_neg (show ¬ (false = true) by decide)] at H; exact H
        clear H
        have H := H1
        clear H1
        replace H := Option.bind_eq_some_iff.mp H
        obtain ⟨⟨t257, t258, t259⟩, A80, H⟩ := H
        replace H : (if t259 = 0 then (slotcodelaw08_LexSpaces.l0 kj2 a1 t257 ([] : List ByteArray) t257 (t257.length : Int) 0) else ((slotcodelaw08_alive.f kj2).bind fun t262 => (some t262))) = some r := H
        have A8 := Aside0.mk A80
        clear A80
        by_cases c9 : t259 = 0
        · rw [if_pos c9] at H
          have c9b0 : (t259 == 0) = true := beq_iff_eq.mpr c9
          have c9b1 : (t259 != 0) = false := bne_eq_false_iff_eq.mpr c9
          clear c9
          have H' := Aside0.mk H
          clear H
          go_wp2_with (first | (go_at_call 10; (with_reducible refine (lex_Tokens.calls a0 t257 t258 t259 _ A8.out ?sideL).mono ?_); (case sideL => exact LaidI.below HL.out (by repeat (first | (with_reducible first | exact HB.out | exact Below.refl _ _ | apply below_alloc | apply pw_below_drewN | apply below_drew1) | refine below_set ?_ (Aside0.out (by assumption)) | exact HB.out | exact Below.refl _ _ | exact pw_below_drewN (Below.refl _ _) _))); rintro e w10 ⟨v260, rfl, ho0, hb⟩; have n0_ := Aside0.mk (Kd.R_lower ho0 (below_size (by repeat (first | (with_reducible first | exact HB.out | apply below_alloc | apply pw_below_drewN | apply below_drew1) | exact HB.out)))); have n1_ := Aside0.mk (below_step (by repeat (first | (with_reducible first | exact HB.out | apply below_alloc | apply pw_below_drewN | apply below_drew1) | exact HB.out)) hb); clear HB; have HO261 := n0_; have HB := n1_; clear n0_ n1_; (try clear hb); (try clear hb2); (try clear hk); (try clear hi); (try clear ho0); obtain ⟨Ao11, co11, eo11⟩ := Kd.R_slice HO261.out; subst eo11))
          repeat (go_quiet (first | (go_at_call 10; (with_reducible refine (lex_Tokens.calls a0 t257 t258 t259 _ A8.out ?sideL).mono ?_); (case sideL => exact LaidI.below HL.out (by repeat (first | (with_reducible first | exact HB.out | exact Below.refl _ _ | apply below_alloc | apply pw_below_drewN | apply below_drew1) | refine below_set ?_ (Aside0.out (by assumption)) | exact HB.out | exact Below.refl _ _ | exact pw_below_drewN (Below.refl _ _) _))); rintro e w10 ⟨v260, rfl, ho0, hb⟩; have n0_ := Aside0.mk (Kd.R_lower ho0 (below_size (by repeat (first | (with_reducible first | exact HB.out | apply below_alloc | apply pw_below_drewN | apply below_drew1) | exact HB.out)))); have n1_ := Aside0.mk (below_step (by repeat (first | (with_reducible first | exact HB.out | apply below_alloc | apply pw_below_drewN | apply below_drew1) | exact HB.out)) hb); clear HB; have HO261 := n0_; have HB := n1_; clear n0_ n1_; (try clear hb); (try clear hb2); (try clear hk); (try clear hi); (try clear ho0); obtain ⟨Ao11, co11, eo11⟩ := Kd.R_slice HO261.out; subst eo11)); try go_wp2_with (first | (go_at_call 10; (with_reducible refine (lex_Tokens.calls a0 t257 t258 t259 _ A8.out ?sideL).mono ?_); (case sideL => exact LaidI.below HL.out (by repeat (first | (with_reducible first | exact HB.out | exact Below.refl _ _ | apply below_alloc | apply pw_below_drewN | apply below_drew1) | refine below_set ?_ (Aside0.out (by assumption)) | exact HB.out | exact Below.refl _ _ | exact pw_below_drewN (Below.refl _ _) _))); rintro e w10 ⟨v260, rfl, ho0, hb⟩; have n0_ := Aside0.mk (Kd.R_lower ho0 (below_size (by repeat (first | (with_reducible first | exact HB.out | apply below_alloc | apply pw_below_drewN | apply below_drew1) | exact HB.out)))); have n1_ := Aside0.mk (below_step (by repeat (first | (with_reducible first | exact HB.out | apply below_alloc | apply pw_below_drewN | apply below_drew1) | exact HB.out)) hb); clear HB; have HO261 := n0_; have HB := n1_; clear n0_ n1_; (try clear hb); (try clear hb2); (try clear hk); (try clear hi); (try clear ho0); obtain ⟨Ao11, co11, eo11⟩ := Kd.R_slice HO261.out; subst eo11)))
          go_loopg [8, 36] kj2 (fun kq v8 v36 w' => ∃ (x8_2 : List ByteArray) (x36_2 : Int), v36 = .int .i64 x36_2 ∧ Aside0 (slotcodelaw08_LexSpaces.l0 kq a1 t257 x8_2 t257 (t257.length : Int) x36_2 = some r) ∧ Aside0 (kq ≤ kj2) ∧ Aside0 (Kd.R k31 31 w' w.heap.size (fun _ => True) (.slice Ao11 t257.length co11) t257) ∧ Aside0 (Kd.R Kd.string 9 w' w.heap.size (fun _ => True) v8 x8_2) ∧ Aside0 (Kd.R k31 31 w' w.heap.size (fun _ => True) (.slice Ao11 t257.length co11) t257) ∧ Aside0 (Below w.heap.size w w'))
          case atStart => exact ⟨(([] : List ByteArray)), (0), (by first | rfl | (simp; done) | (simp [*]; done)), H', ⟨Nat.le_refl _⟩, ⟨by (with_reducible repeat (first | apply Kd.R_alloc | apply Kd.R_drewN | apply Kd.R_drew)); exact HO261.out⟩, ⟨by first | exact Kd.R_nil _ _ _ _ _ | exact Kd.N_nil _ _ _ _ _ | exact Kd.V_nil _ _ _ _ _ | exact Kd.Q_nil _ _ _ _ _ | exact Kd.S_nil _ _ _ _ _⟩, ⟨by (with_reducible repeat (first | apply Kd.R_alloc | apply Kd.R_drewN | apply Kd.R_drew)); exact HO261.out⟩, ⟨by repeat (first | (with_reducible first | exact HB.out | apply below_alloc | apply pw_below_drewN | apply below_drew1) | exact HB.out)⟩⟩
          case round =>
            clear H'
            try clear p2
            try clear c4
            try clear c4b0
            try clear c4b1
            try clear c5
            try clear c8
            try clear c9
            try clear c9b0
            try clear c9b1
            try clear p2
            obtain ⟨x8_2, x36_2, rfl, HA, HK2, HO_5, HO_8, HO_34, HB⟩ := hrel
            cases gk with
            | zero => exact absurd HA.out (by simp [slotcodelaw08_LexSpaces.l0])
            | succ k2 =>
              have H := HA.out
              clear HA
              simp only [slotcodelaw08_LexSpaces.l0] at H
              by_cases c12 : x36_2 < (t257.length : Int)
              · rw [if_pos c12] at H
                have c12b0 : decide (x36_2 < (t257.length : Int)) = true := decide_eq_true c12
                clear c12
                by_cases c13 : 0 ≤ x36_2
                · rw [if_pos c13] at H
                  have c13b0 : decide (0 ≤ x36_2) = true := decide_eq_true c13
                  clear c13
                  by_cases c14 : x36_2 < (t257.length : Int)
                  · rw [if_pos c14] at H
                    have c14b0 : decide (x36_2 < (t257.length : Int)) = true := decide_eq_true c14
                    clear c14
                    by_cases c15 : x8_2.length < 8796093022208
                    · rw [if_pos c15] at H
                      have LMc15 := Aside0.mk c15
                      clear c15
                      obtain ⟨y265, hy265⟩ : ∃ y_ : List ByteArray, y_ = (x8_2 ++ [(rd_T31 t257 x36_2).f0]) := ⟨_, rfl⟩
                      replace H : (slotcodelaw08_LexSpaces.l0 k2 a1 t257 y265 t257 (t257.length : Int) (wrap64 (x36_2 + 1))) = some r := by first | (rw [hy265]; with_reducible exact H) | (have H2_ := (Option.bind_some _ _).symm.trans H; rw [hy265]; with_reducible exact H2_) | (have H2_ := (Option.bind_some _ _).symm.trans H; with_reducible exact H2_) | with_reducible exact H | (rw [hy265]; exact H) | exact H
                      have Ny265 := Aside0.mk hy265
                      clear hy265
                      have H' := Aside0.mk H
                      clear H
                      have p263 : 0 ≤ (x36_2 : Int) := of_decide_eq_true (by first | (with_reducible assumption) | assumption)
                      have q263 : x36_2 < (t257.length : Int) := of_decide_eq_true (by first | (with_reducible assumption) | assumption)
                      obtain ⟨ad263, e263, hx263_0, hx263_1⟩ := at_T31 (Kd.R_reads' HO_34.out).2.2 x36_2 p263 q263
                      cases e263
                      replace p263 := eq_true p263
                      replace q263 := eq_true q263
                      go_wp2_with (first | ((with_reducible refine gate_dst (N := 10) rfl ?_); (try (refine gate_guard (by rfl) ?_; dsimp only)); refine box_event ?hg (N := 10) ?hd (cs := #[.string (⟨#[]⟩ : ByteArray), .int .i64 0]) (t := 31) ?hr ?_; (case hd => rfl); (case hg => rfl); (case hr => first | (go_simp; done) | (go_simp; rfl)); intro gb264 hg w16 hbox hb; have n0_ := Aside0.mk (Kd.R_below (Kd.R_elderB (by (with_reducible repeat (first | apply Kd.R_alloc | apply Kd.R_drewN | apply Kd.R_drew)); exact HO_5.out) gb264 (Nat.le_of_eq hg.symm)) hb); have n1_ := Aside0.mk (Kd.R_below (by (with_reducible repeat (first | apply Kd.R_alloc | apply Kd.R_drewN | apply Kd.R_drew)); exact HO_8.out) hb); have n2_ := Aside0.mk (Kd.R_below (Kd.R_elderB (by (with_reducible repeat (first | apply Kd.R_alloc | apply Kd.R_drewN | apply Kd.R_drew)); exact HO_34.out) gb264 (Nat.le_of_eq hg.symm)) hb); have n3_ := Aside0.mk (below_step (by repeat (first | (with_reducible first | exact HB.out | apply below_alloc | apply pw_below_drewN | apply below_drew1) | exact HB.out)) hb); have n4_ := Aside0.mk (hbox); have n5_ := Aside0.mk ((by rw [hg]; exact (below_size (by repeat (first | (with_reducible first | exact HB.out | apply below_alloc | apply pw_below_drewN | apply below_drew1) | exact HB.out))) : w.heap.size ≤ gb264)); have n6_ := Aside0.mk ((by rw [hg]; exact (below_size (by repeat (first | (with_reducible first | exact HB.out | apply below_alloc | apply pw_below_drewN | apply below_drew1) | exact HB.out))) : w.heap.size ≤ gb264)); clear HO_5; clear HO_8; clear HO_34; clear HB; have HO_5 := n0_; have HO_8 := n1_; have HO_34 := n2_; have HB := n3_; have BK264 := n4_; have GW264 := n5_; have GE264 := n6_; clear n0_ n1_ n2_ n3_ n4_ n5_ n6_; clear hb hbox hg; have hcz17_0 : w16.cell? ⟨gb264, 0, none⟩ = some (.string (⟨#[]⟩ : ByteArray)) := (blk_cell BK264.out 0).trans rfl; have hcz17_1 : w16.cell? ⟨gb264, 1, none⟩ = some (.int .i64 0) := (blk_cell BK264.out 1).trans rfl; have hfz17_0 := blk_frozen BK264.out 0; have hfz17_1 := blk_frozen BK264.out 1) | ((with_reducible refine gate_builtin (b := .append) (xs := #[.tmp 40, .tmp 43]) rfl ?_); (try (refine gate_guard (by rfl) ?_; dsimp only)); at_builtin; refine Kd.R_append Kd.string (w0 := w) w.heap.size rfl (.tmp 40) (.tmp 43) 37 9 (.string ⟨#[]⟩) 16 rfl Tryd.underlying37 info9 rfl (by decide) (by omega) u8 x8_2 ((rd_T31 t257 x36_2).f0) [.string ((rd_T31 t257 x36_2).f0)] (fun _ => True) (fun _ => False) rfl (by first | (go_simp; done) | (go_simp; rfl)) ?aP (fun _ hk => hk.elim) ?aF ?aO ?aB ?aS ?aL ?_; (case aP => exact rfl); (case aB => exact (by repeat (first | (with_reducible first | exact HB.out | apply below_alloc | apply pw_below_drewN | apply below_drew1 | refine below_set ?_ GE264.out) | exact HB.out))); (case aF => exact (fun _ _ => trivial)); (case aO => exact (by (with_reducible repeat (first | apply Kd.R_alloc | apply Kd.R_drewN | apply Kd.R_drew)); exact Kd.R_mono (Kd.R_far (p := ⟨gb264, 1, none⟩) (Kd.R_far (p := ⟨gb264, 0, none⟩) (Kd.R_types HO_8.out BK264.out (by decide)) (fun _ hk => hk.2) (.string ((rd_T31 t257 x36_2).f0))) (fun _ hk => hk.2) (.int .i64 ((rd_T31 t257 x36_2).f1))) (fun _ hk => trivial))); (case aS => exact (below_size (by repeat (first | (with_reducible first | exact HB.out | apply below_alloc | apply pw_below_drewN | apply below_drew1 | refine below_set ?_ GE264.out) | exact HB.out)))); (case aL => have := LMc15.out; omega); intro v266 w18 ho hb hg hat; rw [← Ny265.out] at ho; have n0_ := Aside0.mk (Kd.R_over' (by (with_reducible repeat (first | apply Kd.R_alloc | apply Kd.R_drewN | apply Kd.R_drew)); exact (Kd.R_mono (Kd.R_far (p := ⟨gb264, 1, none⟩) (Kd.R_far (p := ⟨gb264, 0, none⟩) (Kd.R_mono HO_5.out (fun k_ hk => (⟨hk, hk.2⟩ : _ ∧ k_ ≠ gb264))) (fun _ hk => hk.2) (.string ((rd_T31 t257 x36_2).f0))) (fun _ hk => hk.2) (.int .i64 ((rd_T31 t257 x36_2).f1))) (fun _ h_ => h_.1))) (Kd.R_typed (by (with_reducible repeat (first | apply Kd.R_alloc | apply Kd.R_drewN | apply Kd.R_drew)); exact (Kd.R_mono (Kd.R_far (p := ⟨gb264, 1, none⟩) (Kd.R_far (p := ⟨gb264, 0, none⟩) (Kd.R_types HO_8.out BK264.out (by decide)) (fun _ hk => hk.2) (.string ((rd_T31 t257 x36_2).f0))) (fun _ hk => hk.2) (.int .i64 ((rd_T31 t257 x36_2).f1))) (fun _ h_ => h_.1)))) (by decide) hg); have n1_ := Aside0.mk (Kd.R_over' (by (with_reducible repeat (first | apply Kd.R_alloc | apply Kd.R_drewN | apply Kd.R_drew)); exact (Kd.R_mono (Kd.R_far (p := ⟨gb264, 1, none⟩) (Kd.R_far (p := ⟨gb264, 0, none⟩) (Kd.R_mono HO_34.out (fun k_ hk => (⟨hk, hk.2⟩ : _ ∧ k_ ≠ gb264))) (fun _ hk => hk.2) (.string ((rd_T31 t257 x36_2).f0))) (fun _ hk => hk.2) (.int .i64 ((rd_T31 t257 x36_2).f1))) (fun _ h_ => h_.1))) (Kd.R_typed (by (with_reducible repeat (first | apply Kd.R_alloc | apply Kd.R_drewN | apply Kd.R_drew)); exact (Kd.R_mono (Kd.R_far (p := ⟨gb264, 1, none⟩) (Kd.R_far (p := ⟨gb264, 0, none⟩) (Kd.R_types HO_8.out BK264.out (by decide)) (fun _ hk => hk.2) (.string ((rd_T31 t257 x36_2).f0))) (fun _ hk => hk.2) (.int .i64 ((rd_T31 t257 x36_2).f1))) (fun _ h_ => h_.1)))) (by decide) hg); have n2_ := Aside0.mk (blk_grown (g := gb264) (o := .cells #[.string ((rd_T31 t257 x36_2).f0), .int .i64 ((rd_T31 t257 x36_2).f1)] 31 (0, 0)) (by (with_reducible repeat (first | refine blk_drewN ?_ _ | refine blk_drew ?_ | refine blk_alloc ?_ _)); refine blk_put (cs := #[.string ((rd_T31 t257 x36_2).f0), .int .i64 0]) ?_ 1 _ rfl; (with_reducible repeat (first | refine blk_drewN ?_ _ | refine blk_drew ?_ | refine blk_alloc ?_ _)); refine blk_put (cs := #[.string (⟨#[]⟩ : ByteArray), .int .i64 0]) ?_ 0 _ rfl; (with_reducible repeat (first | refine blk_drewN ?_ _ | refine blk_drew ?_ | refine blk_alloc ?_ _)); exact BK264.out) hg (Kd.R_ne HO_8.out BK264.out (by decide))); have n3_ := Aside0.mk (hb); have n4_ := Aside0.mk (ho); clear HO_5; clear HO_34; clear BK264; clear HB; clear HO_8; have HO_5 := n0_; have HO_34 := n1_; have BK264 := n2_; have HB := n3_; have HO267 := n4_; clear n0_ n1_ n2_ n3_ n4_; clear ho hb hg hat))
                      repeat (go_quiet (first | ((with_reducible refine gate_dst (N := 10) rfl ?_); (try (refine gate_guard (by rfl) ?_; dsimp only)); refine box_event ?hg (N := 10) ?hd (cs := #[.string (⟨#[]⟩ : ByteArray), .int .i64 0]) (t := 31) ?hr ?_; (case hd => rfl); (case hg => rfl); (case hr => first | (go_simp; done) | (go_simp; rfl)); intro gb264 hg w16 hbox hb; have n0_ := Aside0.mk (Kd.R_below (Kd.R_elderB (by (with_reducible repeat (first | apply Kd.R_alloc | apply Kd.R_drewN | apply Kd.R_drew)); exact HO_5.out) gb264 (Nat.le_of_eq hg.symm)) hb); have n1_ := Aside0.mk (Kd.R_below (by (with_reducible repeat (first | apply Kd.R_alloc | apply Kd.R_drewN | apply Kd.R_drew)); exact HO_8.out) hb); have n2_ := Aside0.mk (Kd.R_below (Kd.R_elderB (by (with_reducible repeat (first | apply Kd.R_alloc | apply Kd.R_drewN | apply Kd.R_drew)); exact HO_34.out) gb264 (Nat.le_of_eq hg.symm)) hb); have n3_ := Aside0.mk (below_step (by repeat (first | (with_reducible first | exact HB.out | apply below_alloc | apply pw_below_drewN | apply below_drew1) | exact HB.out)) hb); have n4_ := Aside0.mk (hbox); have n5_ := Aside0.mk ((by rw [hg]; exact (below_size (by repeat (first | (with_reducible first | exact HB.out | apply below_alloc | apply pw_below_drewN | apply below_drew1) | exact HB.out))) : w.heap.size ≤ gb264)); have n6_ := Aside0.mk ((by rw [hg]; exact (below_size (by repeat (first | (with_reducible first | exact HB.out | apply below_alloc | apply pw_below_drewN | apply below_drew1) | exact HB.out))) : w.heap.size ≤ gb264)); clear HO_5; clear HO_8; clear HO_34; clear HB; have HO_5 := n0_; have HO_8 := n1_; have HO_34 := n2_; have HB := n3_; have BK264 := n4_; have GW264 := n5_; have GE264 := n6_; clear n0_ n1_ n2_ n3_ n4_ n5_ n6_; clear hb hbox hg; have hcz17_0 : w16.cell? ⟨gb264, 0, none⟩ = some (.string (⟨#[]⟩ : ByteArray)) := (blk_cell BK264.out 0).trans rfl; have hcz17_1 : w16.cell? ⟨gb264, 1, none⟩ = some (.int .i64 0) := (blk_cell BK264.out 1).trans rfl; have hfz17_0 := blk_frozen BK264.out 0; have hfz17_1 := blk_frozen BK264.out 1) | ((with_reducible refine gate_builtin (b := .append) (xs := #[.tmp 40, .tmp 43]) rfl ?_); (try (refine gate_guard (by rfl) ?_; dsimp only)); at_builtin; refine Kd.R_append Kd.string (w0 := w) w.heap.size rfl (.tmp 40) (.tmp 43) 37 9 (.string ⟨#[]⟩) 16 rfl Tryd.underlying37 info9 rfl (by decide) (by omega) u8 x8_2 ((rd_T31 t257 x36_2).f0) [.string ((rd_T31 t257 x36_2).f0)] (fun _ => True) (fun _ => False) rfl (by first | (go_simp; done) | (go_simp; rfl)) ?aP (fun _ hk => hk.elim) ?aF ?aO ?aB ?aS ?aL ?_; (case aP => exact rfl); (case aB => exact (by repeat (first | (with_reducible first | exact HB.out | apply below_alloc | apply pw_below_drewN | apply below_drew1 | refine below_set ?_ GE264.out) | exact HB.out))); (case aF => exact (fun _ _ => trivial)); (case aO => exact (by (with_reducible repeat (first | apply Kd.R_alloc | apply Kd.R_drewN | apply Kd.R_drew)); exact Kd.R_mono (Kd.R_far (p := ⟨gb264, 1, none⟩) (Kd.R_far (p := ⟨gb264, 0, none⟩) (Kd.R_types HO_8.out BK264.out (by decide)) (fun _ hk => hk.2) (.string ((rd_T31 t257 x36_2).f0))) (fun _ hk => hk.2) (.int .i64 ((rd_T31 t257 x36_2).f1))) (fun _ hk => trivial))); (case aS => exact (below_size (by repeat (first | (with_reducible first | exact HB.out | apply below_alloc | apply pw_below_drewN | apply below_drew1 | refine below_set ?_ GE264.out) | exact HB.out)))); (case aL => have := LMc15.out; omega); intro v266 w18 ho hb hg hat; rw [← Ny265.out] at ho; have n0_ := Aside0.mk (Kd.R_over' (by (with_reducible repeat (first | apply Kd.R_alloc | apply Kd.R_drewN | apply Kd.R_drew)); exact (Kd.R_mono (Kd.R_far (p := ⟨gb264, 1, none⟩) (Kd.R_far (p := ⟨gb264, 0, none⟩) (Kd.R_mono HO_5.out (fun k_ hk => (⟨hk, hk.2⟩ : _ ∧ k_ ≠ gb264))) (fun _ hk => hk.2) (.string ((rd_T31 t257 x36_2).f0))) (fun _ hk => hk.2) (.int .i64 ((rd_T31 t257 x36_2).f1))) (fun _ h_ => h_.1))) (Kd.R_typed (by (with_reducible repeat (first | apply Kd.R_alloc | apply Kd.R_drewN | apply Kd.R_drew)); exact (Kd.R_mono (Kd.R_far (p := ⟨gb264, 1, none⟩) (Kd.R_far (p := ⟨gb264, 0, none⟩) (Kd.R_types HO_8.out BK264.out (by decide)) (fun _ hk => hk.2) (.string ((rd_T31 t257 x36_2).f0))) (fun _ hk => hk.2) (.int .i64 ((rd_T31 t257 x36_2).f1))) (fun _ h_ => h_.1)))) (by decide) hg); have n1_ := Aside0.mk (Kd.R_over' (by (with_reducible repeat (first | apply Kd.R_alloc | apply Kd.R_drewN | apply Kd.R_drew)); exact (Kd.R_mono (Kd.R_far (p := ⟨gb264, 1, none⟩) (Kd.R_far (p := ⟨gb264, 0, none⟩) (Kd.R_mono HO_34.out (fun k_ hk => (⟨hk, hk.2⟩ : _ ∧ k_ ≠ gb264))) (fun _ hk => hk.2) (.string ((rd_T31 t257 x36_2).f0))) (fun _ hk => hk.2) (.int .i64 ((rd_T31 t257 x36_2).f1))) (fun _ h_ => h_.1))) (Kd.R_typed (by (with_reducible repeat (first | apply Kd.R_alloc | apply Kd.R_drewN | apply Kd.R_drew)); exact (Kd.R_mono (Kd.R_far (p := ⟨gb264, 1, none⟩) (Kd.R_far (p := ⟨gb264, 0, none⟩) (Kd.R_types HO_8.out BK264.out (by decide)) (fun _ hk => hk.2) (.string ((rd_T31 t257 x36_2).f0))) (fun _ hk => hk.2) (.int .i64 ((rd_T31 t257 x36_2).f1))) (fun _ h_ => h_.1)))) (by decide) hg); have n2_ := Aside0.mk (blk_grown (g := gb264) (o := .cells #[.string ((rd_T31 t257 x36_2).f0), .int .i64 ((rd_T31 t257 x36_2).f1)] 31 (0, 0)) (by (with_reducible repeat (first | refine blk_drewN ?_ _ | refine blk_drew ?_ | refine blk_alloc ?_ _)); refine blk_put (cs := #[.string ((rd_T31 t257 x36_2).f0), .int .i64 0]) ?_ 1 _ rfl; (with_reducible repeat (first | refine blk_drewN ?_ _ | refine blk_drew ?_ | refine blk_alloc ?_ _)); refine blk_put (cs := #[.string (⟨#[]⟩ : ByteArray), .int .i64 0]) ?_ 0 _ rfl; (with_reducible repeat (first | refine blk_drewN ?_ _ | refine blk_drew ?_ | refine blk_alloc ?_ _)); exact BK264.out) hg (Kd.R_ne HO_8.out BK264.out (by decide))); have n3_ := Aside0.mk (hb); have n4_ := Aside0.mk (ho); clear HO_5; clear HO_34; clear BK264; clear HB; clear HO_8; have HO_5 := n0_; have HO_34 := n1_; have BK264 := n2_; have HB := n3_; have HO267 := n4_; clear n0_ n1_ n2_ n3_ n4_; clear ho hb hg hat)); try go_wp2_with (first | ((with_reducible refine gate_dst (N := 10) rfl ?_); (try (refine gate_guard (by rfl) ?_; dsimp only)); refine box_event ?hg (N := 10) ?hd (cs := #[.string (⟨#[]⟩ : ByteArray), .int .i64 0]) (t := 31) ?hr ?_; (case hd => rfl); (case hg => rfl); (case hr => first | (go_simp; done) | (go_simp; rfl)); intro gb264 hg w16 hbox hb; have n0_ := Aside0.mk (Kd.R_below (Kd.R_elderB (by (with_reducible repeat (first | apply Kd.R_alloc | apply Kd.R_drewN | apply Kd.R_drew)); exact HO_5.out) gb264 (Nat.le_of_eq hg.symm)) hb); have n1_ := Aside0.mk (Kd.R_below (by (with_reducible repeat (first | apply Kd.R_alloc | apply Kd.R_drewN | apply Kd.R_drew)); exact HO_8.out) hb); have n2_ := Aside0.mk (Kd.R_below (Kd.R_elderB (by (with_reducible repeat (first | apply Kd.R_alloc | apply Kd.R_drewN | apply Kd.R_drew)); exact HO_34.out) gb264 (Nat.le_of_eq hg.symm)) hb); have n3_ := Aside0.mk (below_step (by repeat (first | (with_reducible first | exact HB.out | apply below_alloc | apply pw_below_drewN | apply below_drew1) | exact HB.out)) hb); have n4_ := Aside0.mk (hbox); have n5_ := Aside0.mk ((by rw [hg]; exact (below_size (by repeat (first | (with_reducible first | exact HB.out | apply below_alloc | apply pw_below_drewN | apply below_drew1) | exact HB.out))) : w.heap.size ≤ gb264)); have n6_ := Aside0.mk ((by rw [hg]; exact (below_size (by repeat (first | (with_reducible first | exact HB.out | apply below_alloc | apply pw_below_drewN | apply below_drew1) | exact HB.out))) : w.heap.size ≤ gb264)); clear HO_5; clear HO_8; clear HO_34; clear HB; have HO_5 := n0_; have HO_8 := n1_; have HO_34 := n2_; have HB := n3_; have BK264 := n4_; have GW264 := n5_; have GE264 := n6_; clear n0_ n1_ n2_ n3_ n4_ n5_ n6_; clear hb hbox hg; have hcz17_0 : w16.cell? ⟨gb264, 0, none⟩ = some (.string (⟨#[]⟩ : ByteArray)) := (blk_cell BK264.out 0).trans rfl; have hcz17_1 : w16.cell? ⟨gb264, 1, none⟩ = some (.int .i64 0) := (blk_cell BK264.out 1).trans rfl; have hfz17_0 := blk_frozen BK264.out 0; have hfz17_1 := blk_frozen BK264.out 1) | ((with_reducible refine gate_builtin (b := .append) (xs := #[.tmp 40, .tmp 43]) rfl ?_); (try (refine gate_guard (by rfl) ?_; dsimp only)); at_builtin; refine Kd.R_append Kd.string (w0 := w) w.heap.size rfl (.tmp 40) (.tmp 43) 37 9 (.string ⟨#[]⟩) 16 rfl Tryd.underlying37 info9 rfl (by decide) (by omega) u8 x8_2 ((rd_T31 t257 x36_2).f0) [.string ((rd_T31 t257 x36_2).f0)] (fun _ => True) (fun _ => False) rfl (by first | (go_simp; done) | (go_simp; rfl)) ?aP (fun _ hk => hk.elim) ?aF ?aO ?aB ?aS ?aL ?_; (case aP => exact rfl); (case aB => exact (by repeat (first | (with_reducible first | exact HB.out | apply below_alloc | apply pw_below_drewN | apply below_drew1 | refine below_set ?_ GE264.out) | exact HB.out))); (case aF => exact (fun _ _ => trivial)); (case aO => exact (by (with_reducible repeat (first | apply Kd.R_alloc | apply Kd.R_drewN | apply Kd.R_drew)); exact Kd.R_mono (Kd.R_far (p := ⟨gb264, 1, none⟩) (Kd.R_far (p := ⟨gb264, 0, none⟩) (Kd.R_types HO_8.out BK264.out (by decide)) (fun _ hk => hk.2) (.string ((rd_T31 t257 x36_2).f0))) (fun _ hk => hk.2) (.int .i64 ((rd_T31 t257 x36_2).f1))) (fun _ hk => trivial))); (case aS => exact (below_size (by repeat (first | (with_reducible first | exact HB.out | apply below_alloc | apply pw_below_drewN | apply below_drew1 | refine below_set ?_ GE264.out) | exact HB.out)))); (case aL => have := LMc15.out; omega); intro v266 w18 ho hb hg hat; rw [← Ny265.out] at ho; have n0_ := Aside0.mk (Kd.R_over' (by (with_reducible repeat (first | apply Kd.R_alloc | apply Kd.R_drewN | apply Kd.R_drew)); exact (Kd.R_mono (Kd.R_far (p := ⟨gb264, 1, none⟩) (Kd.R_far (p := ⟨gb264, 0, none⟩) (Kd.R_mono HO_5.out (fun k_ hk => (⟨hk, hk.2⟩ : _ ∧ k_ ≠ gb264))) (fun _ hk => hk.2) (.string ((rd_T31 t257 x36_2).f0))) (fun _ hk => hk.2) (.int .i64 ((rd_T31 t257 x36_2).f1))) (fun _ h_ => h_.1))) (Kd.R_typed (by (with_reducible repeat (first | apply Kd.R_alloc | apply Kd.R_drewN | apply Kd.R_drew)); exact (Kd.R_mono (Kd.R_far (p := ⟨gb264, 1, none⟩) (Kd.R_far (p := ⟨gb264, 0, none⟩) (Kd.R_types HO_8.out BK264.out (by decide)) (fun _ hk => hk.2) (.string ((rd_T31 t257 x36_2).f0))) (fun _ hk => hk.2) (.int .i64 ((rd_T31 t257 x36_2).f1))) (fun _ h_ => h_.1)))) (by decide) hg); have n1_ := Aside0.mk (Kd.R_over' (by (with_reducible repeat (first | apply Kd.R_alloc | apply Kd.R_drewN | apply Kd.R_drew)); exact (Kd.R_mono (Kd.R_far (p := ⟨gb264, 1, none⟩) (Kd.R_far (p := ⟨gb264, 0, none⟩) (Kd.R_mono HO_34.out (fun k_ hk => (⟨hk, hk.2⟩ : _ ∧ k_ ≠ gb264))) (fun _ hk => hk.2) (.string ((rd_T31 t257 x36_2).f0))) (fun _ hk => hk.2) (.int .i64 ((rd_T31 t257 x36_2).f1))) (fun _ h_ => h_.1))) (Kd.R_typed (by (with_reducible repeat (first | apply Kd.R_alloc | apply Kd.R_drewN | apply Kd.R_drew)); exact (Kd.R_mono (Kd.R_far (p := ⟨gb264, 1, none⟩) (Kd.R_far (p := ⟨gb264, 0, none⟩) (Kd.R_types HO_8.out BK264.out (by decide)) (fun _ hk => hk.2) (.string ((rd_T31 t257 x36_2).f0))) (fun _ hk => hk.2) (.int .i64 ((rd_T31 t257 x36_2).f1))) (fun _ h_ => h_.1)))) (by decide) hg); have n2_ := Aside0.mk (blk_grown (g := gb264) (o := .cells #[.string ((rd_T31 t257 x36_2).f0), .int .i64 ((rd_T31 t257 x36_2).f1)] 31 (0, 0)) (by (with_reducible repeat (first | refine blk_drewN ?_ _ | refine blk_drew ?_ | refine blk_alloc ?_ _)); refine blk_put (cs := #[.string ((rd_T31 t257 x36_2).f0), .int .i64 0]) ?_ 1 _ rfl; (with_reducible repeat (first | refine blk_drewN ?_ _ | refine blk_drew ?_ | refine blk_alloc ?_ _)); refine blk_put (cs := #[.string (⟨#[]⟩ : ByteArray), .int .i64 0]) ?_ 0 _ rfl; (with_reducible repeat (first | refine blk_drewN ?_ _ | refine blk_drew ?_ | refine blk_alloc ?_ _)); exact BK264.out) hg (Kd.R_ne HO_8.out BK264.out (by decide))); have n3_ := Aside0.mk (hb); have n4_ := Aside0.mk (ho); clear HO_5; clear HO_34; clear BK264; clear HB; clear HO_8; have HO_5 := n0_; have HO_34 := n1_; have BK264 := n2_; have HB := n3_; have HO267 := n4_; clear n0_ n1_ n2_ n3_ n4_; clear ho hb hg hat)))
                      go_roundg k2
                      case measure => have := HJ2.out; have := HK2.out; omega
                      case rel => exact ⟨(y265), (wrap64 (x36_2 + 1)), (by first | rfl | (simp; done) | (simp [*]; done)), H', ⟨by have := HJ2.out; have := HK2.out; omega⟩, ⟨by (with_reducible repeat (first | apply Kd.R_alloc | apply Kd.R_drewN | apply Kd.R_drew)); exact Kd.R_mono HO_5.out (fun _ hk => trivial)⟩, ⟨by (with_reducible repeat (first | apply Kd.R_alloc | apply Kd.R_drewN | apply Kd.R_drew)); exact HO267.out⟩, ⟨by (with_reducible repeat (first | apply Kd.R_alloc | apply Kd.R_drewN | apply Kd.R_drew)); exact Kd.R_mono HO_34.out (fun _ hk => trivial)⟩, ⟨by repeat (first | (with_reducible first | exact HB.out | apply below_alloc | apply pw_below_drewN | apply below_drew1 | refine below_set ?_ GE264.out) | exact HB.out)⟩⟩
                    · rw [if_neg c15] at H
                      exact absurd H (by simp)
                  · rw [if_neg c14] at H
                    exact absurd H (by simp)
                · rw [if_neg c13] at H
                  exact absurd H (by simp)
              · rw [if_neg c12] at H
                have c12b0 : decide (x36_2 < (t257.length : Int)) = false := decide_eq_false c12
                clear c12
                replace H := Option.bind_eq_some_iff.mp H
                obtain ⟨t268, A190, H⟩ := H
                replace H : (if t268.size + 2 ≤ 9223372036854775807 then (if (t268 ++ (⟨#[9, 35]⟩ : ByteArray)).size + a1.size ≤ 9223372036854775807 then ((lex_Tokens.f ((t268 ++ (⟨#[9, 35]⟩ : ByteArray)) ++ a1)).bind fun bt269 => (if bt269.2.2 = 0 then (slotcodelaw08_LexSpaces.j2 k2 t257 bt269.1 ((bt269.1.length : Int) != (t257.length : Int))) else (slotcodelaw08_LexSpaces.j2 k2 t257 bt269.1 true))) else (none)) else (none)) = some r := H
                have A19 := Aside0.mk A190
                clear A190
                by_cases c20 : t268.size + 2 ≤ 9223372036854775807
                · rw [if_pos c20] at H
                  have c20b0 := eq_true c20
                  have c20b1 : decide (t268.size + 2 ≤ 9223372036854775807) = true := decide_eq_true c20
                  try have c20b2 : (9223372036854775807 < t268.size + 2) = False := eq_false (Nat.not_lt.2 c20)
                  by_cases c21 : (t268 ++ (⟨#[9, 35]⟩ : ByteArray)).size + a1.size ≤ 9223372036854775807
                  · rw [if_pos c21] at H
                    have c21b0 := eq_true c21
                    have c21b1 : decide ((t268 ++ (⟨#[9, 35]⟩ : ByteArray)).size + a1.size ≤ 9223372036854775807) = true := decide_eq_true c21
                    try have c21b2 : (9223372036854775807 < (t268 ++ (⟨#[9, 35]⟩ : ByteArray)).size + a1.size) = False := eq_false (Nat.not_lt.2 c21)
                    replace H := Option.bind_eq_some_iff.mp H
                    obtain ⟨⟨t269, t270, t271⟩, A220, H⟩ := H
                    replace H : (if t271 = 0 then (slotcodelaw08_LexSpaces.j2 k2 t257 t269 ((t269.length : Int) != (t257.length : Int))) else (slotcodelaw08_LexSpaces.j2 k2 t257 t269 true)) = some r := H
                    have A22 := Aside0.mk A220
                    clear A220
                    have HC23 := Aside0.mk H
                    clear H
                    obtain ⟨Ao24, co24, eo24⟩ := Kd.R_slice HO_8.out
                    subst eo24
                    go_upto_region 13 with (first | (go_at_call 22; (with_reducible refine (strings_Join.calls _ _ x8_2 (⟨#[32]⟩ : ByteArray) t268 _ ?side1 ?side2 A19.out).mono ?_); (case side1 => repeat (first | exact (Kd.R_reads' HO_8.out).2.2 | (with_reducible refine Kd.C_alloc ?_ _) | (with_reducible refine Kd.C_drewN ?_ _) | (with_reducible refine Kd.C_drew ?_))); (case side2 => exact (Kd.R_reads' HO_8.out).2.1); rintro e w25 ⟨rfl, hb⟩; have n0_ := Aside0.mk (Kd.R_below (by (with_reducible repeat (first | apply Kd.R_alloc | apply Kd.R_drewN | apply Kd.R_drew)); exact HO_5.out) hb); have n1_ := Aside0.mk (Kd.R_below (by (with_reducible repeat (first | apply Kd.R_alloc | apply Kd.R_drewN | apply Kd.R_drew)); exact HO_8.out) hb); have n2_ := Aside0.mk (Kd.R_below (by (with_reducible repeat (first | apply Kd.R_alloc | apply Kd.R_drewN | apply Kd.R_drew)); exact HO_34.out) hb); have n3_ := Aside0.mk (below_step (by repeat (first | (with_reducible first | exact HB.out | apply below_alloc | apply pw_below_drewN | apply below_drew1) | exact HB.out)) hb); clear HO_5; clear HO_8; clear HO_34; clear HB; have HO_5 := n0_; have HO_8 := n1_; have HO_34 := n2_; have HB := n3_; clear n0_ n1_ n2_ n3_; (try clear hb); (try clear hb2); (try clear hk); (try clear hi)) | (go_at_call 10; (with_reducible refine (lex_Tokens.calls ((t268 ++ (⟨#[9, 35]⟩ : ByteArray)) ++ a1) t269 t270 t271 _ A22.out ?sideL).mono ?_); (case sideL => exact LaidI.below HL.out (by repeat (first | (with_reducible first | exact HB.out | exact Below.refl _ _ | apply below_alloc | apply pw_below_drewN | apply below_drew1) | refine below_set ?_ (Aside0.out (by assumption)) | exact HB.out | exact Below.refl _ _ | exact pw_below_drewN (Below.refl _ _) _))); rintro e w26 ⟨v272, rfl, ho0, hb⟩; have n0_ := Aside0.mk (Kd.R_elder' (by (with_reducible repeat (first | apply Kd.R_alloc | apply Kd.R_drewN | apply Kd.R_drew)); exact HO_5.out) (Kd.R_base ho0) hb); have n1_ := Aside0.mk (Kd.R_below (by (with_reducible repeat (first | apply Kd.R_alloc | apply Kd.R_drewN | apply Kd.R_drew)); exact HO_8.out) hb); have n2_ := Aside0.mk (Kd.R_elder' (by (with_reducible repeat (first | apply Kd.R_alloc | apply Kd.R_drewN | apply Kd.R_drew)); exact HO_34.out) (Kd.R_base ho0) hb); have n3_ := Aside0.mk (Kd.R_lower (Kd.R_new' (Kd.R_new' ho0 (Kd.R_lt (by (with_reducible repeat (first | apply Kd.R_alloc | apply Kd.R_drewN | apply Kd.R_drew)); exact HO_5.out))) (Kd.R_lt (by (with_reducible repeat (first | apply Kd.R_alloc | apply Kd.R_drewN | apply Kd.R_drew)); exact HO_34.out))) (below_size (by repeat (first | (with_reducible first | exact HB.out | apply below_alloc | apply pw_below_drewN | apply below_drew1) | exact HB.out)))); have n4_ := Aside0.mk (below_step (by repeat (first | (with_reducible first | exact HB.out | apply below_alloc | apply pw_below_drewN | apply below_drew1) | exact HB.out)) hb); clear HO_5; clear HO_8; clear HO_34; clear HB; have HO_5 := n0_; have HO_8 := n1_; have HO_34 := n2_; have HO273 := n3_; have HB := n4_; clear n0_ n1_ n2_ n3_ n4_; (try clear hb); (try clear hb2); (try clear hk); (try clear hi); (try clear ho0)))
                    repeat (go_quiet (first | (go_at_call 22; (with_reducible refine (strings_Join.calls _ _ x8_2 (⟨#[32]⟩ : ByteArray) t268 _ ?side1 ?side2 A19.out).mono ?_); (case side1 => repeat (first | exact (Kd.R_reads' HO_8.out).2.2 | (with_reducible refine Kd.C_alloc ?_ _) | (with_reducible refine Kd.C_drewN ?_ _) | (with_reducible refine Kd.C_drew ?_))); (case side2 => exact (Kd.R_reads' HO_8.out).2.1); rintro e w25 ⟨rfl, hb⟩; have n0_ := Aside0.mk (Kd.R_below (by (with_reducible repeat (first | apply Kd.R_alloc | apply Kd.R_drewN | apply Kd.R_drew)); exact HO_5.out) hb); have n1_ := Aside0.mk (Kd.R_below (by (with_reducible repeat (first | apply Kd.R_alloc | apply Kd.R_drewN | apply Kd.R_drew)); exact HO_8.out) hb); have n2_ := Aside0.mk (Kd.R_below (by (with_reducible repeat (first | apply Kd.R_alloc | apply Kd.R_drewN | apply Kd.R_drew)); exact HO_34.out) hb); have n3_ := Aside0.mk (below_step (by repeat (first | (with_reducible first | exact HB.out | apply below_alloc | apply pw_below_drewN | apply below_drew1) | exact HB.out)) hb); clear HO_5; clear HO_8; clear HO_34; clear HB; have HO_5 := n0_; have HO_8 := n1_; have HO_34 := n2_; have HB := n3_; clear n0_ n1_ n2_ n3_; (try clear hb); (try clear hb2); (try clear hk); (try clear hi)) | (go_at_call 10; (with_reducible refine (lex_Tokens.calls ((t268 ++ (⟨#[9, 35]⟩ : ByteArray)) ++ a1) t269 t270 t271 _ A22.out ?sideL).mono ?_); (case sideL => exact LaidI.below HL.out (by repeat (first | (with_reducible first | exact HB.out | exact Below.refl _ _ | apply below_alloc | apply pw_below_drewN | apply below_drew1) | refine below_set ?_ (Aside0.out (by assumption)) | exact HB.out | exact Below.refl _ _ | exact pw_below_drewN (Below.refl _ _) _))); rintro e w26 ⟨v272, rfl, ho0, hb⟩; have n0_ := Aside0.mk (Kd.R_elder' (by (with_reducible repeat (first | apply Kd.R_alloc | apply Kd.R_drewN | apply Kd.R_drew)); exact HO_5.out) (Kd.R_base ho0) hb); have n1_ := Aside0.mk (Kd.R_below (by (with_reducible repeat (first | apply Kd.R_alloc | apply Kd.R_drewN | apply Kd.R_drew)); exact HO_8.out) hb); have n2_ := Aside0.mk (Kd.R_elder' (by (with_reducible repeat (first | apply Kd.R_alloc | apply Kd.R_drewN | apply Kd.R_drew)); exact HO_34.out) (Kd.R_base ho0) hb); have n3_ := Aside0.mk (Kd.R_lower (Kd.R_new' (Kd.R_new' ho0 (Kd.R_lt (by (with_reducible repeat (first | apply Kd.R_alloc | apply Kd.R_drewN | apply Kd.R_drew)); exact HO_5.out))) (Kd.R_lt (by (with_reducible repeat (first | apply Kd.R_alloc | apply Kd.R_drewN | apply Kd.R_drew)); exact HO_34.out))) (below_size (by repeat (first | (with_reducible first | exact HB.out | apply below_alloc | apply pw_below_drewN | apply below_drew1) | exact HB.out)))); have n4_ := Aside0.mk (below_step (by repeat (first | (with_reducible first | exact HB.out | apply below_alloc | apply pw_below_drewN | apply below_drew1) | exact HB.out)) hb); clear HO_5; clear HO_8; clear HO_34; clear HB; have HO_5 := n0_; have HO_8 := n1_; have HO_34 := n2_; have HO273 := n3_; have HB := n4_; clear n0_ n1_ n2_ n3_ n4_; (try clear hb); (try clear hb2); (try clear hk); (try clear hi); (try clear ho0))); go_upto_region 13 with (first | (go_at_call 22; (with_reducible refine (strings_Join.calls _ _ x8_2 (⟨#[32]⟩ : ByteArray) t268 _ ?side1 ?side2 A19.out).mono ?_); (case side1 => repeat (first | exact (Kd.R_reads' HO_8.out).2.2 | (with_reducible refine Kd.C_alloc ?_ _) | (with_reducible refine Kd.C_drewN ?_ _) | (with_reducible refine Kd.C_drew ?_))); (case side2 => exact (Kd.R_reads' HO_8.out).2.1); rintro e w25 ⟨rfl, hb⟩; have n0_ := Aside0.mk (Kd.R_below (by (with_reducible repeat (first | apply Kd.R_alloc | apply Kd.R_drewN | apply Kd.R_drew)); exact HO_5.out) hb); have n1_ := Aside0.mk (Kd.R_below (by (with_reducible repeat (first | apply Kd.R_alloc | apply Kd.R_drewN | apply Kd.R_drew)); exact HO_8.out) hb); have n2_ := Aside0.mk (Kd.R_below (by (with_reducible repeat (first | apply Kd.R_alloc | apply Kd.R_drewN | apply Kd.R_drew)); exact HO_34.out) hb); have n3_ := Aside0.mk (below_step (by repeat (first | (with_reducible first | exact HB.out | apply below_alloc | apply pw_below_drewN | apply below_drew1) | exact HB.out)) hb); clear HO_5; clear HO_8; clear HO_34; clear HB; have HO_5 := n0_; have HO_8 := n1_; have HO_34 := n2_; have HB := n3_; clear n0_ n1_ n2_ n3_; (try clear hb); (try clear hb2); (try clear hk); (try clear hi)) | (go_at_call 10; (with_reducible refine (lex_Tokens.calls ((t268 ++ (⟨#[9, 35]⟩ : ByteArray)) ++ a1) t269 t270 t271 _ A22.out ?sideL).mono ?_); (case sideL => exact LaidI.below HL.out (by repeat (first | (with_reducible first | exact HB.out | exact Below.refl _ _ | apply below_alloc | apply pw_below_drewN | apply below_drew1) | refine below_set ?_ (Aside0.out (by assumption)) | exact HB.out | exact Below.refl _ _ | exact pw_below_drewN (Below.refl _ _) _))); rintro e w26 ⟨v272, rfl, ho0, hb⟩; have n0_ := Aside0.mk (Kd.R_elder' (by (with_reducible repeat (first | apply Kd.R_alloc | apply Kd.R_drewN | apply Kd.R_drew)); exact HO_5.out) (Kd.R_base ho0) hb); have n1_ := Aside0.mk (Kd.R_below (by (with_reducible repeat (first | apply Kd.R_alloc | apply Kd.R_drewN | apply Kd.R_drew)); exact HO_8.out) hb); have n2_ := Aside0.mk (Kd.R_elder' (by (with_reducible repeat (first | apply Kd.R_alloc | apply Kd.R_drewN | apply Kd.R_drew)); exact HO_34.out) (Kd.R_base ho0) hb); have n3_ := Aside0.mk (Kd.R_lower (Kd.R_new' (Kd.R_new' ho0 (Kd.R_lt (by (with_reducible repeat (first | apply Kd.R_alloc | apply Kd.R_drewN | apply Kd.R_drew)); exact HO_5.out))) (Kd.R_lt (by (with_reducible repeat (first | apply Kd.R_alloc | apply Kd.R_drewN | apply Kd.R_drew)); exact HO_34.out))) (below_size (by repeat (first | (with_reducible first | exact HB.out | apply below_alloc | apply pw_below_drewN | apply below_drew1) | exact HB.out)))); have n4_ := Aside0.mk (below_step (by repeat (first | (with_reducible first | exact HB.out | apply below_alloc | apply pw_below_drewN | apply below_drew1) | exact HB.out)) hb); clear HO_5; clear HO_8; clear HO_34; clear HB; have HO_5 := n0_; have HO_8 := n1_; have HO_34 := n2_; have HO273 := n3_; have HB := n4_; clear n0_ n1_ n2_ n3_ n4_; (try clear hb); (try clear hb2); (try clear hk); (try clear hi); (try clear ho0))))
                    (try simp only [Act.put, List.setIfInBounds_toArray, List.set_cons_zero, List.set_cons_succ])
                    go_cut [64] (fun v64 wc => ∃ (kq : Nat) (x64_22 : Bool), v64 = .bool x64_22 ∧ Aside0 (slotcodelaw08_LexSpaces.j2 kq t257 t269 x64_22 = some r) ∧ Aside0 (kq ≤ k2) ∧ Aside0 (Kd.R k31 31 wc w.heap.size (fun k_ => some k_ ≠ (v272 : Value).ownBlock) (.slice Ao11 t257.length co11) t257) ∧ Aside0 (Kd.R k31 31 wc w.heap.size (fun k_ => some k_ ≠ ((.slice Ao11 t257.length co11) : Value).ownBlock) v272 t269) ∧ Aside0 (Below w.heap.size w wc))
                    case first =>
                      have H := HC23.out
                      clear HC23
                      by_cases c27 : t271 = 0
                      · rw [if_pos c27] at H
                        have c27b0 : (t271 == 0) = true := beq_iff_eq.mpr c27
                        have c27b1 : (t271 != 0) = false := bne_eq_false_iff_eq.mpr c27
                        clear c27
                        (first | rw [c27b0] | (simp only [i64_w, i32_w]; rw [c27b0]) | skip)
                        have H' := Aside0.mk H
                        clear H
                        obtain ⟨Ao28, co28, eo28⟩ := Kd.R_slice HO273.out
                        subst eo28
                        go_wp2
                        repeat (go_quiet (fail); try go_wp2)
                        go_meet
                        case rel => exact ⟨_, (((t269.length : Int) != (t257.length : Int))), (by first | rfl | (simp; done) | (simp [*]; done)), H', ⟨by have := HJ2.out; have := HK2.out; first | omega | exact Nat.le_refl _⟩, ⟨by (with_reducible repeat (first | apply Kd.R_alloc | apply Kd.R_drewN | apply Kd.R_drew)); exact Kd.R_mono HO_5.out (fun _ hk => hk.2)⟩, ⟨by (with_reducible repeat (first | apply Kd.R_alloc | apply Kd.R_drewN | apply Kd.R_drew)); exact Kd.R_mono HO273.out (fun _ hk => hk.1.2)⟩, ⟨by repeat (first | (with_reducible first | exact HB.out | apply below_alloc | apply pw_below_drewN | apply below_drew1) | exact HB.out)⟩⟩
                      · rw [if_neg c27] at H
                        have c27b0 : (t271 == 0) = false := beq_eq_false_iff_ne.mpr c27
                        have c27b1 : (t271 != 0) = true := bne_iff_ne.mpr c27
                        (first | rw [c27b0] | (simp only [i64_w, i32_w]; rw [c27b0]) | skip)
                        have H' := Aside0.mk H
                        clear H
                        go_wp2
                        repeat (go_quiet (fail); try go_wp2)
                        go_meet
                        case rel => exact ⟨_, (true), (by first | rfl | (simp; done) | (simp [*]; done)), H', ⟨by have := HJ2.out; have := HK2.out; first | omega | exact Nat.le_refl _⟩, ⟨by (with_reducible repeat (first | apply Kd.R_alloc | apply Kd.R_drewN | apply Kd.R_drew)); exact Kd.R_mono HO_5.out (fun _ hk => hk.2)⟩, ⟨by (with_reducible repeat (first | apply Kd.R_alloc | apply Kd.R_drewN | apply Kd.R_drew)); exact Kd.R_mono HO273.out (fun _ hk => hk.1.2)⟩, ⟨by repeat (first | (with_reducible first | exact HB.out | apply below_alloc | apply pw_below_drewN | apply below_drew1) | exact HB.out)⟩⟩
                    case rest =>
                      clear HC23
                      try clear c1
                      try clear c2
                      try clear p2
                      try clear q2
                      try clear hx2
                      try clear c4
                      try clear c4b0
                      try clear c4b1
                      try clear c5
                      try clear p6
                      try clear c8
                      try clear c9
                      try clear c9b0
                      try clear c9b1
                      try clear c12
                      try clear c12b0
                      try clear c13
                      try clear c13b0
                      try clear c14
                      try clear c14b0
                      try clear c15
                      try clear c20
                      try clear c20b0
                      try clear c20b1
                      try clear c20b2
                      try clear c21
                      try clear c21b0
                      try clear c21b1
                      try clear c21b2
                      try clear p26
                      try clear q26
                      try clear hx26
                      try clear c27
                      try clear c27b0
                      try clear c27b1
                      try clear hcz17_0
                      try clear hcz17_1
                      try clear hfz17_0
                      try clear hfz17_1
                      try clear hx263_0
                      try clear hx263_1
                      try clear p2
                      try clear p263
                      try clear q263
                      obtain ⟨kq, x64_22, rfl, HA, HJ22, HO_5, HO_11, HB⟩ := hcut
                      cases kq with
                      | zero => exact absurd HA.out (by simp [slotcodelaw08_LexSpaces.j2])
                      | succ kj22 =>
                        have H := HA.out
                        clear HA
                        simp only [slotcodelaw08_LexSpaces.j2] at H
                        by_cases c29 : x64_22 = true
                        · subst c29
                          have H1 : (some false) = some r := by rw [if_pos rfl] at H; exact H
                          clear H
                          have H := H1
                          clear H1
                          obtain rfl := Option.some.inj H
                          go_wp2
                          repeat (go_quiet (fail); try go_wp2)
                          go_ret
                          exact ⟨by first | rfl | (simp [errW_none, errW_some] <;> rfl) | (simp [*, errW_none, errW_some] <;> rfl), by repeat (first | (with_reducible first | exact HB.out | apply below_alloc | apply pw_below_drewN | apply below_drew1) | exact HB.out)⟩
                        · replace c29 := Bool.eq_false_iff.mpr c29
                          subst c29
                          have H1 : (slotcodelaw08_LexSpaces.l1 kj22 t257 t269 (t269.length : Int) 0) = some r := by rw [if_neg (show ¬ (false = true) by decide)] at H; exact H
                          clear H
                          have H := H1
                          clear H1
                          have H' := Aside0.mk H
                          clear H
                          obtain ⟨Ao30, co30, eo30⟩ := Kd.R_slice HO_11.out
                          subst eo30
                          go_wp2
                          repeat (go_quiet (fail); try go_wp2)
                          go_loopg [67] kj22 (fun kq v67 w' => ∃ (x67_4 : Int), v67 = .int .i64 x67_4 ∧ Aside0 (slotcodelaw08_LexSpaces.l1 kq t257 t269 (t269.length : Int) x67_4 = some r) ∧ Aside0 (kq ≤ kj22) ∧ Aside0 (Kd.R k31 31 w' w.heap.size (fun k_ => some k_ ≠ ((.slice Ao30 t269.length co30) : Value).ownBlock) (.slice Ao11 t257.length co11) t257) ∧ Aside0 (Kd.R k31 31 w' w.heap.size (fun k_ => some k_ ≠ ((.slice Ao11 t257.length co11) : Value).ownBlock) (.slice Ao30 t269.length co30) t269) ∧ Aside0 (Below w.heap.size w w'))
                          case atStart => exact ⟨(0), (by first | rfl | (simp; done) | (simp [*]; done)), H', ⟨Nat.le_refl _⟩, ⟨by (with_reducible repeat (first | apply Kd.R_alloc | apply Kd.R_drewN | apply Kd.R_drew)); exact HO_5.out⟩, ⟨by (with_reducible repeat (first | apply Kd.R_alloc | apply Kd.R_drewN | apply Kd.R_drew)); exact HO_11.out⟩, ⟨by repeat (first | (with_reducible first | exact HB.out | apply below_alloc | apply pw_below_drewN | apply below_drew1) | exact HB.out)⟩⟩
                          case round =>
                            clear H'
                            try clear c1
                            try clear c2
                            try clear p2
                            try clear q2
                            try clear hx2
                            try clear c4
                            try clear c4b0
                            try clear c4b1
                            try clear c5
                            try clear p6
                            try clear c8
                            try clear c9
                            try clear c9b0
                            try clear c9b1
                            try clear c12
                            try clear c12b0
                            try clear c13
                            try clear c13b0
                            try clear c14
                            try clear c14b0
                            try clear c15
                            try clear c20
                            try clear c20b0
                            try clear c20b1
                            try clear c20b2
                            try clear c21
                            try clear c21b0
                            try clear c21b1
                            try clear c21b2
                            try clear p26
                            try clear q26
                            try clear hx26
                            try clear c27
                            try clear c27b0
                            try clear c27b1
                            try clear c29
                            try clear hcz17_0
                            try clear hcz17_1
                            try clear hfz17_0
                            try clear hfz17_1
                            try clear hx263_0
                            try clear hx263_1
                            try clear p2
                            try clear p26
                            try clear p263
                            try clear p6
                            try clear q2
                            try clear q26
                            try clear q263
                            obtain ⟨x67_4, rfl, HA, HK4, HO_5, HO_65, HB⟩ := hrel
                            cases gk with
                            | zero => exact absurd HA.out (by simp [slotcodelaw08_LexSpaces.l1])
                            | succ k4 =>
                              have H := HA.out
                              clear HA
                              simp only [slotcodelaw08_LexSpaces.l1] at H
                              by_cases c31 : x67_4 < (t269.length : Int)
                              · rw [if_pos c31] at H
                                have c31b0 : decide (x67_4 < (t269.length : Int)) = true := decide_eq_true c31
                                clear c31
                                by_cases c32 : 0 ≤ x67_4
                                · rw [if_pos c32] at H
                                  have c32b0 : decide (0 ≤ x67_4) = true := decide_eq_true c32
                                  clear c32
                                  by_cases c33 : x67_4 < (t269.length : Int)
                                  · rw [if_pos c33] at H
                                    have c33b0 : decide (x67_4 < (t269.length : Int)) = true := decide_eq_true c33
                                    clear c33
                                    by_cases c34 : x67_4 < (t257.length : Int)
                                    · rw [if_pos c34] at H
                                      have c34b0 : decide (x67_4 < (t257.length : Int)) = true := decide_eq_true c34
                                      clear c34
                                      by_cases c35 : ((rd_T31 t269 x67_4).f0).toList = ((rd_T31 t257 x67_4).f0).toList
                                      · rw [if_pos c35] at H
                                        have c35b0 : (((rd_T31 t269 x67_4).f0).toList == ((rd_T31 t257 x67_4).f0).toList) = true := beq_iff_eq.mpr c35
                                        have c35b1 : (((rd_T31 t269 x67_4).f0).toList != ((rd_T31 t257 x67_4).f0).toList) = false := bne_eq_false_iff_eq.mpr c35
                                        clear c35
                                        have H' := Aside0.mk H
                                        clear H
                                        have p274 : 0 ≤ (x67_4 : Int) := of_decide_eq_true (by first | (with_reducible assumption) | assumption)
                                        have q274 : x67_4 < (t269.length : Int) := of_decide_eq_true (by first | (with_reducible assumption) | assumption)
                                        obtain ⟨ad274, e274, hx274_0, hx274_1⟩ := at_T31 (Kd.R_reads' HO_65.out).2.2 x67_4 p274 q274
                                        cases e274
                                        replace p274 := eq_true p274
                                        replace q274 := eq_true q274
                                        go_wp2_with (first | ((with_reducible refine gate_dst (N := 15) rfl ?_); (try (refine gate_guard (by rfl) ?_; dsimp only)); refine box_event ?hg (N := 15) ?hd (cs := #[.string (⟨#[]⟩ : ByteArray), .int .i64 0]) (t := 31) ?hr ?_; (case hd => rfl); (case hg => rfl); (case hr => first | (go_simp; done) | (go_simp; rfl)); intro gb275 hg w36 hbox hb; have n0_ := Aside0.mk (Kd.R_below (Kd.R_elderB (by (with_reducible repeat (first | apply Kd.R_alloc | apply Kd.R_drewN | apply Kd.R_drew)); exact HO_5.out) gb275 (Nat.le_of_eq hg.symm)) hb); have n1_ := Aside0.mk (Kd.R_below (Kd.R_elderB (by (with_reducible repeat (first | apply Kd.R_alloc | apply Kd.R_drewN | apply Kd.R_drew)); exact HO_65.out) gb275 (Nat.le_of_eq hg.symm)) hb); have n2_ := Aside0.mk (below_step (by repeat (first | (with_reducible first | exact HB.out | apply below_alloc | apply pw_below_drewN | apply below_drew1) | exact HB.out)) hb); have n3_ := Aside0.mk (hbox); have n4_ := Aside0.mk ((by rw [hg]; exact (below_size (by repeat (first | (with_reducible first | exact HB.out | apply below_alloc | apply pw_below_drewN | apply below_drew1) | exact HB.out))) : w.heap.size ≤ gb275)); have n5_ := Aside0.mk ((by rw [hg]; exact (below_size (by repeat (first | (with_reducible first | exact HB.out | apply below_alloc | apply pw_below_drewN | apply below_drew1) | exact HB.out))) : w.heap.size ≤ gb275)); clear HO_5; clear HO_65; clear HB; have HO_5 := n0_; have HO_65 := n1_; have HB := n2_; have BK275 := n3_; have GW275 := n4_; have GE275 := n5_; clear n0_ n1_ n2_ n3_ n4_ n5_; clear hb hbox hg; have hcz37_0 : w36.cell? ⟨gb275, 0, none⟩ = some (.string (⟨#[]⟩ : ByteArray)) := (blk_cell BK275.out 0).trans rfl; have hcz37_1 : w36.cell? ⟨gb275, 1, none⟩ = some (.int .i64 0) := (blk_cell BK275.out 1).trans rfl; have hfz37_0 := blk_frozen BK275.out 0; have hfz37_1 := blk_frozen BK275.out 1; have p276 : 0 ≤ (x67_4 : Int) := of_decide_eq_true (by first | (with_reducible assumption) | assumption); have q276 : x67_4 < (t257.length : Int) := of_decide_eq_true (by first | (with_reducible assumption) | assumption); obtain ⟨ad276, e276, hx276_0, hx276_1⟩ := at_T31 (Kd.R_reads' HO_5.out).2.2 x67_4 p276 q276; cases e276; have hn276_0 : ad276.block ≠ gb275 := Kd.own_blk (Kd.R_ne HO_5.out BK275.out (by decide)); have hn276_1 : ad276.block ≠ gb275 := Kd.own_blk (Kd.R_ne HO_5.out BK275.out (by decide)); replace hx276_0 := (cell_far (p := ⟨gb275, 0, none⟩) (by first | (rw [add_block]; exact hn276_0) | (show (Addr.add _ _).block ≠ _; rw [add_block]; exact hn276_0) | exact hn276_0) (.string ((rd_T31 t269 x67_4).f0))).trans hx276_0; replace hx276_1 := (cell_far (p := ⟨gb275, 0, none⟩) (by first | (rw [add_block]; exact hn276_0) | (show (Addr.add _ _).block ≠ _; rw [add_block]; exact hn276_0) | exact hn276_0) (.string ((rd_T31 t269 x67_4).f0))).trans hx276_1; replace hx276_0 := (cell_far (p := ⟨gb275, 1, none⟩) (by first | (rw [add_block]; exact hn276_1) | (show (Addr.add _ _).block ≠ _; rw [add_block]; exact hn276_1) | exact hn276_1) (.int .i64 ((rd_T31 t269 x67_4).f1))).trans hx276_0; replace hx276_1 := (cell_far (p := ⟨gb275, 1, none⟩) (by first | (rw [add_block]; exact hn276_1) | (show (Addr.add _ _).block ≠ _; rw [add_block]; exact hn276_1) | exact hn276_1) (.int .i64 ((rd_T31 t269 x67_4).f1))).trans hx276_1; (try have hy276_0 := fun (n_ : Nat) => (show ((((w36.drewN n_).setCell ⟨gb275, 0, none⟩ (.string ((rd_T31 t269 x67_4).f0))).setCell ⟨gb275, 1, none⟩ (.int .i64 ((rd_T31 t269 x67_4).f1)))).cell? _ = some _ from hx276_0)); (try have hy276_1 := fun (n_ : Nat) => (show ((((w36.drewN n_).setCell ⟨gb275, 0, none⟩ (.string ((rd_T31 t269 x67_4).f0))).setCell ⟨gb275, 1, none⟩ (.int .i64 ((rd_T31 t269 x67_4).f1)))).cell? _ = some _ from hx276_1)); clear hn276_0; clear hn276_1; replace p276 := eq_true p276; replace q276 := eq_true q276))
                                        have FR_ := Aside0.mk (Kd.R_alloc HO_5.out (.cells #[.string (rd_T31 t269 x67_4).f0, .int .i64 (rd_T31 t269 x67_4).f1] 31))
                                        have pF_ : 0 ≤ (x67_4 : Int) := of_decide_eq_true (by first | (with_reducible assumption) | assumption)
                                        have qF_ : x67_4 < (t257.length : Int) := of_decide_eq_true (by first | (with_reducible assumption) | assumption)
                                        obtain ⟨adF, eF, hxF_0, hxF_1⟩ := at_T31 (Kd.R_reads' FR_.out).2.2 x67_4 pF_ qF_
                                        cases eF
                                        clear FR_
                                        replace pF_ := eq_true pF_
                                        replace qF_ := eq_true qF_
                                        repeat (go_quiet (first | ((with_reducible refine gate_dst (N := 15) rfl ?_); (try (refine gate_guard (by rfl) ?_; dsimp only)); refine box_event ?hg (N := 15) ?hd (cs := #[.string (⟨#[]⟩ : ByteArray), .int .i64 0]) (t := 31) ?hr ?_; (case hd => rfl); (case hg => rfl); (case hr => first | (go_simp; done) | (go_simp; rfl)); intro gb275 hg w36 hbox hb; have n0_ := Aside0.mk (Kd.R_below (Kd.R_elderB (by (with_reducible repeat (first | apply Kd.R_alloc | apply Kd.R_drewN | apply Kd.R_drew)); exact HO_5.out) gb275 (Nat.le_of_eq hg.symm)) hb); have n1_ := Aside0.mk (Kd.R_below (Kd.R_elderB (by (with_reducible repeat (first | apply Kd.R_alloc | apply Kd.R_drewN | apply Kd.R_drew)); exact HO_65.out) gb275 (Nat.le_of_eq hg.symm)) hb); have n2_ := Aside0.mk (below_step (by repeat (first | (with_reducible first | exact HB.out | apply below_alloc | apply pw_below_drewN | apply below_drew1) | exact HB.out)) hb); have n3_ := Aside0.mk (hbox); have n4_ := Aside0.mk ((by rw [hg]; exact (below_size (by repeat (first | (with_reducible first | exact HB.out | apply below_alloc | apply pw_below_drewN | apply below_drew1) | exact HB.out))) : w.heap.size ≤ gb275)); have n5_ := Aside0.mk ((by rw [hg]; exact (below_size (by repeat (first | (with_reducible first | exact HB.out | apply below_alloc | apply pw_below_drewN | apply below_drew1) | exact HB.out))) : w.heap.size ≤ gb275)); clear HO_5; clear HO_65; clear HB; have HO_5 := n0_; have HO_65 := n1_; have HB := n2_; have BK275 := n3_; have GW275 := n4_; have GE275 := n5_; clear n0_ n1_ n2_ n3_ n4_ n5_; clear hb hbox hg; have hcz37_0 : w36.cell? ⟨gb275, 0, none⟩ = some (.string (⟨#[]⟩ : ByteArray)) := (blk_cell BK275.out 0).trans rfl; have hcz37_1 : w36.cell? ⟨gb275, 1, none⟩ = some (.int .i64 0) := (blk_cell BK275.out 1).trans rfl; have hfz37_0 := blk_frozen BK275.out 0; have hfz37_1 := blk_frozen BK275.out 1; have p276 : 0 ≤ (x67_4 : Int) := of_decide_eq_true (by first | (with_reducible assumption) | assumption); have q276 : x67_4 < (t257.length : Int) := of_decide_eq_true (by first | (with_reducible assumption) | assumption); obtain ⟨ad276, e276, hx276_0, hx276_1⟩ := at_T31 (Kd.R_reads' HO_5.out).2.2 x67_4 p276 q276; cases e276; have hn276_0 : ad276.block ≠ gb275 := Kd.own_blk (Kd.R_ne HO_5.out BK275.out (by decide)); have hn276_1 : ad276.block ≠ gb275 := Kd.own_blk (Kd.R_ne HO_5.out BK275.out (by decide)); replace hx276_0 := (cell_far (p := ⟨gb275, 0, none⟩) (by first | (rw [add_block]; exact hn276_0) | (show (Addr.add _ _).block ≠ _; rw [add_block]; exact hn276_0) | exact hn276_0) (.string ((rd_T31 t269 x67_4).f0))).trans hx276_0; replace hx276_1 := (cell_far (p := ⟨gb275, 0, none⟩) (by first | (rw [add_block]; exact hn276_0) | (show (Addr.add _ _).block ≠ _; rw [add_block]; exact hn276_0) | exact hn276_0) (.string ((rd_T31 t269 x67_4).f0))).trans hx276_1; replace hx276_0 := (cell_far (p := ⟨gb275, 1, none⟩) (by first | (rw [add_block]; exact hn276_1) | (show (Addr.add _ _).block ≠ _; rw [add_block]; exact hn276_1) | exact hn276_1) (.int .i64 ((rd_T31 t269 x67_4).f1))).trans hx276_0; replace hx276_1 := (cell_far (p := ⟨gb275, 1, none⟩) (by first | (rw [add_block]; exact hn276_1) | (show (Addr.add _ _).block ≠ _; rw [add_block]; exact hn276_1) | exact hn276_1) (.int .i64 ((rd_T31 t269 x67_4).f1))).trans hx276_1; (try have hy276_0 := fun (n_ : Nat) => (show ((((w36.drewN n_).setCell ⟨gb275, 0, none⟩ (.string ((rd_T31 t269 x67_4).f0))).setCell ⟨gb275, 1, none⟩ (.int .i64 ((rd_T31 t269 x67_4).f1)))).cell? _ = some _ from hx276_0)); (try have hy276_1 := fun (n_ : Nat) => (show ((((w36.drewN n_).setCell ⟨gb275, 0, none⟩ (.string ((rd_T31 t269 x67_4).f0))).setCell ⟨gb275, 1, none⟩ (.int .i64 ((rd_T31 t269 x67_4).f1)))).cell? _ = some _ from hx276_1)); clear hn276_0; clear hn276_1; replace p276 := eq_true p276; replace q276 := eq_true q276)); try go_wp2_with (first | ((with_reducible refine gate_dst (N := 15) rfl ?_); (try (refine gate_guard (by rfl) ?_; dsimp only)); refine box_event ?hg (N := 15) ?hd (cs := #[.string (⟨#[]⟩ : ByteArray), .int .i64 0]) (t := 31) ?hr ?_; (case hd => rfl); (case hg => rfl); (case hr => first | (go_simp; done) | (go_simp; rfl)); intro gb275 hg w36 hbox hb; have n0_ := Aside0.mk (Kd.R_below (Kd.R_elderB (by (with_reducible repeat (first | apply Kd.R_alloc | apply Kd.R_drewN | apply Kd.R_drew)); exact HO_5.out) gb275 (Nat.le_of_eq hg.symm)) hb); have n1_ := Aside0.mk (Kd.R_below (Kd.R_elderB (by (with_reducible repeat (first | apply Kd.R_alloc | apply Kd.R_drewN | apply Kd.R_drew)); exact HO_65.out) gb275 (Nat.le_of_eq hg.symm)) hb); have n2_ := Aside0.mk (below_step (by repeat (first | (with_reducible first | exact HB.out | apply below_alloc | apply pw_below_drewN | apply below_drew1) | exact HB.out)) hb); have n3_ := Aside0.mk (hbox); have n4_ := Aside0.mk ((by rw [hg]; exact (below_size (by repeat (first | (with_reducible first | exact HB.out | apply below_alloc | apply pw_below_drewN | apply below_drew1) | exact HB.out))) : w.heap.size ≤ gb275)); have n5_ := Aside0.mk ((by rw [hg]; exact (below_size (by repeat (first | (with_reducible first | exact HB.out | apply below_alloc | apply pw_below_drewN | apply below_drew1) | exact HB.out))) : w.heap.size ≤ gb275)); clear HO_5; clear HO_65; clear HB; have HO_5 := n0_; have HO_65 := n1_; have HB := n2_; have BK275 := n3_; have GW275 := n4_; have GE275 := n5_; clear n0_ n1_ n2_ n3_ n4_ n5_; clear hb hbox hg; have hcz37_0 : w36.cell? ⟨gb275, 0, none⟩ = some (.string (⟨#[]⟩ : ByteArray)) := (blk_cell BK275.out 0).trans rfl; have hcz37_1 : w36.cell? ⟨gb275, 1, none⟩ = some (.int .i64 0) := (blk_cell BK275.out 1).trans rfl; have hfz37_0 := blk_frozen BK275.out 0; have hfz37_1 := blk_frozen BK275.out 1; have p276 : 0 ≤ (x67_4 : Int) := of_decide_eq_true (by first | (with_reducible assumption) | assumption); have q276 : x67_4 < (t257.length : Int) := of_decide_eq_true (by first | (with_reducible assumption) | assumption); obtain ⟨ad276, e276, hx276_0, hx276_1⟩ := at_T31 (Kd.R_reads' HO_5.out).2.2 x67_4 p276 q276; cases e276; have hn276_0 : ad276.block ≠ gb275 := Kd.own_blk (Kd.R_ne HO_5.out BK275.out (by decide)); have hn276_1 : ad276.block ≠ gb275 := Kd.own_blk (Kd.R_ne HO_5.out BK275.out (by decide)); replace hx276_0 := (cell_far (p := ⟨gb275, 0, none⟩) (by first | (rw [add_block]; exact hn276_0) | (show (Addr.add _ _).block ≠ _; rw [add_block]; exact hn276_0) | exact hn276_0) (.string ((rd_T31 t269 x67_4).f0))).trans hx276_0; replace hx276_1 := (cell_far (p := ⟨gb275, 0, none⟩) (by first | (rw [add_block]; exact hn276_0) | (show (Addr.add _ _).block ≠ _; rw [add_block]; exact hn276_0) | exact hn276_0) (.string ((rd_T31 t269 x67_4).f0))).trans hx276_1; replace hx276_0 := (cell_far (p := ⟨gb275, 1, none⟩) (by first | (rw [add_block]; exact hn276_1) | (show (Addr.add _ _).block ≠ _; rw [add_block]; exact hn276_1) | exact hn276_1) (.int .i64 ((rd_T31 t269 x67_4).f1))).trans hx276_0; replace hx276_1 := (cell_far (p := ⟨gb275, 1, none⟩) (by first | (rw [add_block]; exact hn276_1) | (show (Addr.add _ _).block ≠ _; rw [add_block]; exact hn276_1) | exact hn276_1) (.int .i64 ((rd_T31 t269 x67_4).f1))).trans hx276_1; (try have hy276_0 := fun (n_ : Nat) => (show ((((w36.drewN n_).setCell ⟨gb275, 0, none⟩ (.string ((rd_T31 t269 x67_4).f0))).setCell ⟨gb275, 1, none⟩ (.int .i64 ((rd_T31 t269 x67_4).f1)))).cell? _ = some _ from hx276_0)); (try have hy276_1 := fun (n_ : Nat) => (show ((((w36.drewN n_).setCell ⟨gb275, 0, none⟩ (.string ((rd_T31 t269 x67_4).f0))).setCell ⟨gb275, 1, none⟩ (.int .i64 ((rd_T31 t269 x67_4).f1)))).cell? _ = some _ from hx276_1)); clear hn276_0; clear hn276_1; replace p276 := eq_true p276; replace q276 := eq_true q276)))
                                        go_roundg k4
                                        case measure => have := HJ2.out; have := HK2.out; have := HJ22.out; have := HK4.out; omega
                                        case rel => exact ⟨(wrap64 (x67_4 + 1)), (by first | rfl | (simp; done) | (simp [*]; done)), H', ⟨by have := HJ2.out; have := HK2.out; have := HJ22.out; have := HK4.out; omega⟩, ⟨by (with_reducible repeat (first | apply Kd.R_alloc | apply Kd.R_drewN | apply Kd.R_drew)); exact HO_5.out⟩, ⟨by (with_reducible repeat (first | apply Kd.R_alloc | apply Kd.R_drewN | apply Kd.R_drew)); exact HO_65.out⟩, ⟨by repeat (first | (with_reducible first | exact HB.out | apply below_alloc | apply pw_below_drewN | apply below_drew1 | refine below_set ?_ GE275.out) | exact HB.out)⟩⟩
                                      · rw [if_neg c35] at H
                                        have c35b0 : (((rd_T31 t269 x67_4).f0).toList == ((rd_T31 t257 x67_4).f0).toList) = false := beq_eq_false_iff_ne.mpr c35
                                        have c35b1 : (((rd_T31 t269 x67_4).f0).toList != ((rd_T31 t257 x67_4).f0).toList) = true := bne_iff_ne.mpr c35
                                        obtain rfl := Option.some.inj H
                                        have p274 : 0 ≤ (x67_4 : Int) := of_decide_eq_true (by first | (with_reducible assumption) | assumption)
                                        have q274 : x67_4 < (t269.length : Int) := of_decide_eq_true (by first | (with_reducible assumption) | assumption)
                                        obtain ⟨ad274, e274, hx274_0, hx274_1⟩ := at_T31 (Kd.R_reads' HO_65.out).2.2 x67_4 p274 q274
                                        cases e274
                                        replace p274 := eq_true p274
                                        replace q274 := eq_true q274
                                        go_wp2_with (first | ((with_reducible refine gate_dst (N := 15) rfl ?_); (try (refine gate_guard (by rfl) ?_; dsimp only)); refine box_event ?hg (N := 15) ?hd (cs := #[.string (⟨#[]⟩ : ByteArray), .int .i64 0]) (t := 31) ?hr ?_; (case hd => rfl); (case hg => rfl); (case hr => first | (go_simp; done) | (go_simp; rfl)); intro gb275 hg w38 hbox hb; have n0_ := Aside0.mk (Kd.R_below (Kd.R_elderB (by (with_reducible repeat (first | apply Kd.R_alloc | apply Kd.R_drewN | apply Kd.R_drew)); exact HO_5.out) gb275 (Nat.le_of_eq hg.symm)) hb); have n1_ := Aside0.mk (Kd.R_below (Kd.R_elderB (by (with_reducible repeat (first | apply Kd.R_alloc | apply Kd.R_drewN | apply Kd.R_drew)); exact HO_65.out) gb275 (Nat.le_of_eq hg.symm)) hb); have n2_ := Aside0.mk (below_step (by repeat (first | (with_reducible first | exact HB.out | apply below_alloc | apply pw_below_drewN | apply below_drew1) | exact HB.out)) hb); have n3_ := Aside0.mk (hbox); have n4_ := Aside0.mk ((by rw [hg]; exact (below_size (by repeat (first | (with_reducible first | exact HB.out | apply below_alloc | apply pw_below_drewN | apply below_drew1) | exact HB.out))) : w.heap.size ≤ gb275)); have n5_ := Aside0.mk ((by rw [hg]; exact (below_size (by repeat (first | (with_reducible first | exact HB.out | apply below_alloc | apply pw_below_drewN | apply below_drew1) | exact HB.out))) : w.heap.size ≤ gb275)); clear HO_5; clear HO_65; clear HB; have HO_5 := n0_; have HO_65 := n1_; have HB := n2_; have BK275 := n3_; have GW275 := n4_; have GE275 := n5_; clear n0_ n1_ n2_ n3_ n4_ n5_; clear hb hbox hg; have hcz39_0 : w38.cell? ⟨gb275, 0, none⟩ = some (.string (⟨#[]⟩ : ByteArray)) := (blk_cell BK275.out 0).trans rfl; have hcz39_1 : w38.cell? ⟨gb275, 1, none⟩ = some (.int .i64 0) := (blk_cell BK275.out 1).trans rfl; have hfz39_0 := blk_frozen BK275.out 0; have hfz39_1 := blk_frozen BK275.out 1; have p276 : 0 ≤ (x67_4 : Int) := of_decide_eq_true (by first | (with_reducible assumption) | assumption); have q276 : x67_4 < (t257.length : Int) := of_decide_eq_true (by first | (with_reducible assumption) | assumption); obtain ⟨ad276, e276, hx276_0, hx276_1⟩ := at_T31 (Kd.R_reads' HO_5.out).2.2 x67_4 p276 q276; cases e276; have hn276_0 : ad276.block ≠ gb275 := Kd.own_blk (Kd.R_ne HO_5.out BK275.out (by decide)); have hn276_1 : ad276.block ≠ gb275 := Kd.own_blk (Kd.R_ne HO_5.out BK275.out (by decide)); replace hx276_0 := (cell_far (p := ⟨gb275, 0, none⟩) (by first | (rw [add_block]; exact hn276_0) | (show (Addr.add _ _).block ≠ _; rw [add_block]; exact hn276_0) | exact hn276_0) (.string ((rd_T31 t269 x67_4).f0))).trans hx276_0; replace hx276_1 := (cell_far (p := ⟨gb275, 0, none⟩) (by first | (rw [add_block]; exact hn276_0) | (show (Addr.add _ _).block ≠ _; rw [add_block]; exact hn276_0) | exact hn276_0) (.string ((rd_T31 t269 x67_4).f0))).trans hx276_1; replace hx276_0 := (cell_far (p := ⟨gb275, 1, none⟩) (by first | (rw [add_block]; exact hn276_1) | (show (Addr.add _ _).block ≠ _; rw [add_block]; exact hn276_1) | exact hn276_1) (.int .i64 ((rd_T31 t269 x67_4).f1))).trans hx276_0; replace hx276_1 := (cell_far (p := ⟨gb275, 1, none⟩) (by first | (rw [add_block]; exact hn276_1) | (show (Addr.add _ _).block ≠ _; rw [add_block]; exact hn276_1) | exact hn276_1) (.int .i64 ((rd_T31 t269 x67_4).f1))).trans hx276_1; (try have hy276_0 := fun (n_ : Nat) => (show ((((w38.drewN n_).setCell ⟨gb275, 0, none⟩ (.string ((rd_T31 t269 x67_4).f0))).setCell ⟨gb275, 1, none⟩ (.int .i64 ((rd_T31 t269 x67_4).f1)))).cell? _ = some _ from hx276_0)); (try have hy276_1 := fun (n_ : Nat) => (show ((((w38.drewN n_).setCell ⟨gb275, 0, none⟩ (.string ((rd_T31 t269 x67_4).f0))).setCell ⟨gb275, 1, none⟩ (.int .i64 ((rd_T31 t269 x67_4).f1)))).cell? _ = some _ from hx276_1)); clear hn276_0; clear hn276_1; replace p276 := eq_true p276; replace q276 := eq_true q276))
                                        have FR_ := Aside0.mk (Kd.R_alloc HO_5.out (.cells #[.string (rd_T31 t269 x67_4).f0, .int .i64 (rd_T31 t269 x67_4).f1] 31))
                                        have pF_ : 0 ≤ (x67_4 : Int) := of_decide_eq_true (by first | (with_reducible assumption) | assumption)
                                        have qF_ : x67_4 < (t257.length : Int) := of_decide_eq_true (by first | (with_reducible assumption) | assumption)
                                        obtain ⟨adF, eF, hxF_0, hxF_1⟩ := at_T31 (Kd.R_reads' FR_.out).2.2 x67_4 pF_ qF_
                                        cases eF
                                        clear FR_
                                        replace pF_ := eq_true pF_
                                        replace qF_ := eq_true qF_
                                        repeat (go_quiet (first | ((with_reducible refine gate_dst (N := 15) rfl ?_); (try (refine gate_guard (by rfl) ?_; dsimp only)); refine box_event ?hg (N := 15) ?hd (cs := #[.string (⟨#[]⟩ : ByteArray), .int .i64 0]) (t := 31) ?hr ?_; (case hd => rfl); (case hg => rfl); (case hr => first | (go_simp; done) | (go_simp; rfl)); intro gb275 hg w38 hbox hb; have n0_ := Aside0.mk (Kd.R_below (Kd.R_elderB (by (with_reducible repeat (first | apply Kd.R_alloc | apply Kd.R_drewN | apply Kd.R_drew)); exact HO_5.out) gb275 (Nat.le_of_eq hg.symm)) hb); have n1_ := Aside0.mk (Kd.R_below (Kd.R_elderB (by (with_reducible repeat (first | apply Kd.R_alloc | apply Kd.R_drewN | apply Kd.R_drew)); exact HO_65.out) gb275 (Nat.le_of_eq hg.symm)) hb); have n2_ := Aside0.mk (below_step (by repeat (first | (with_reducible first | exact HB.out | apply below_alloc | apply pw_below_drewN | apply below_drew1) | exact HB.out)) hb); have n3_ := Aside0.mk (hbox); have n4_ := Aside0.mk ((by rw [hg]; exact (below_size (by repeat (first | (with_reducible first | exact HB.out | apply below_alloc | apply pw_below_drewN | apply below_drew1) | exact HB.out))) : w.heap.size ≤ gb275)); have n5_ := Aside0.mk ((by rw [hg]; exact (below_size (by repeat (first | (with_reducible first | exact HB.out | apply below_alloc | apply pw_below_drewN | apply below_drew1) | exact HB.out))) : w.heap.size ≤ gb275)); clear HO_5; clear HO_65; clear HB; have HO_5 := n0_; have HO_65 := n1_; have HB := n2_; have BK275 := n3_; have GW275 := n4_; have GE275 := n5_; clear n0_ n1_ n2_ n3_ n4_ n5_; clear hb hbox hg; have hcz39_0 : w38.cell? ⟨gb275, 0, none⟩ = some (.string (⟨#[]⟩ : ByteArray)) := (blk_cell BK275.out 0).trans rfl; have hcz39_1 : w38.cell? ⟨gb275, 1, none⟩ = some (.int .i64 0) := (blk_cell BK275.out 1).trans rfl; have hfz39_0 := blk_frozen BK275.out 0; have hfz39_1 := blk_frozen BK275.out 1; have p276 : 0 ≤ (x67_4 : Int) := of_decide_eq_true (by first | (with_reducible assumption) | assumption); have q276 : x67_4 < (t257.length : Int) := of_decide_eq_true (by first | (with_reducible assumption) | assumption); obtain ⟨ad276, e276, hx276_0, hx276_1⟩ := at_T31 (Kd.R_reads' HO_5.out).2.2 x67_4 p276 q276; cases e276; have hn276_0 : ad276.block ≠ gb275 := Kd.own_blk (Kd.R_ne HO_5.out BK275.out (by decide)); have hn276_1 : ad276.block ≠ gb275 := Kd.own_blk (Kd.R_ne HO_5.out BK275.out (by decide)); replace hx276_0 := (cell_far (p := ⟨gb275, 0, none⟩) (by first | (rw [add_block]; exact hn276_0) | (show (Addr.add _ _).block ≠ _; rw [add_block]; exact hn276_0) | exact hn276_0) (.string ((rd_T31 t269 x67_4).f0))).trans hx276_0; replace hx276_1 := (cell_far (p := ⟨gb275, 0, none⟩) (by first | (rw [add_block]; exact hn276_0) | (show (Addr.add _ _).block ≠ _; rw [add_block]; exact hn276_0) | exact hn276_0) (.string ((rd_T31 t269 x67_4).f0))).trans hx276_1; replace hx276_0 := (cell_far (p := ⟨gb275, 1, none⟩) (by first | (rw [add_block]; exact hn276_1) | (show (Addr.add _ _).block ≠ _; rw [add_block]; exact hn276_1) | exact hn276_1) (.int .i64 ((rd_T31 t269 x67_4).f1))).trans hx276_0; replace hx276_1 := (cell_far (p := ⟨gb275, 1, none⟩) (by first | (rw [add_block]; exact hn276_1) | (show (Addr.add _ _).block ≠ _; rw [add_block]; exact hn276_1) | exact hn276_1) (.int .i64 ((rd_T31 t269 x67_4).f1))).trans hx276_1; (try have hy276_0 := fun (n_ : Nat) => (show ((((w38.drewN n_).setCell ⟨gb275, 0, none⟩ (.string ((rd_T31 t269 x67_4).f0))).setCell ⟨gb275, 1, none⟩ (.int .i64 ((rd_T31 t269 x67_4).f1)))).cell? _ = some _ from hx276_0)); (try have hy276_1 := fun (n_ : Nat) => (show ((((w38.drewN n_).setCell ⟨gb275, 0, none⟩ (.string ((rd_T31 t269 x67_4).f0))).setCell ⟨gb275, 1, none⟩ (.int .i64 ((rd_T31 t269 x67_4).f1)))).cell? _ = some _ from hx276_1)); clear hn276_0; clear hn276_1; replace p276 := eq_true p276; replace q276 := eq_true q276)); try go_wp2_with (first | ((with_reducible refine gate_dst (N := 15) rfl ?_); (try (refine gate_guard (by rfl) ?_; dsimp only)); refine box_event ?hg (N := 15) ?hd (cs := #[.string (⟨#[]⟩ : ByteArray), .int .i64 0]) (t := 31) ?hr ?_; (case hd => rfl); (case hg => rfl); (case hr => first | (go_simp; done) | (go_simp; rfl)); intro gb275 hg w38 hbox hb; have n0_ := Aside0.mk (Kd.R_below (Kd.R_elderB (by (with_reducible repeat (first | apply Kd.R_alloc | apply Kd.R_drewN | apply Kd.R_drew)); exact HO_5.out) gb275 (Nat.le_of_eq hg.symm)) hb); have n1_ := Aside0.mk (Kd.R_below (Kd.R_elderB (by (with_reducible repeat (first | apply Kd.R_alloc | apply Kd.R_drewN | apply Kd.R_drew)); exact HO_65.out) gb275 (Nat.le_of_eq hg.symm)) hb); have n2_ := Aside0.mk (below_step (by repeat (first | (with_reducible first | exact HB.out | apply below_alloc | apply pw_below_drewN | apply below_drew1) | exact HB.out)) hb); have n3_ := Aside0.mk (hbox); have n4_ := Aside0.mk ((by rw [hg]; exact (below_size (by repeat (first | (with_reducible first | exact HB.out | apply below_alloc | apply pw_below_drewN | apply below_drew1) | exact HB.out))) : w.heap.size ≤ gb275)); have n5_ := Aside0.mk ((by rw [hg]; exact (below_size (by repeat (first | (with_reducible first | exact HB.out | apply below_alloc | apply pw_below_drewN | apply below_drew1) | exact HB.out))) : w.heap.size ≤ gb275)); clear HO_5; clear HO_65; clear HB; have HO_5 := n0_; have HO_65 := n1_; have HB := n2_; have BK275 := n3_; have GW275 := n4_; have GE275 := n5_; clear n0_ n1_ n2_ n3_ n4_ n5_; clear hb hbox hg; have hcz39_0 : w38.cell? ⟨gb275, 0, none⟩ = some (.string (⟨#[]⟩ : ByteArray)) := (blk_cell BK275.out 0).trans rfl; have hcz39_1 : w38.cell? ⟨gb275, 1, none⟩ = some (.int .i64 0) := (blk_cell BK275.out 1).trans rfl; have hfz39_0 := blk_frozen BK275.out 0; have hfz39_1 := blk_frozen BK275.out 1; have p276 : 0 ≤ (x67_4 : Int) := of_decide_eq_true (by first | (with_reducible assumption) | assumption); have q276 : x67_4 < (t257.length : Int) := of_decide_eq_true (by first | (with_reducible assumption) | assumption); obtain ⟨ad276, e276, hx276_0, hx276_1⟩ := at_T31 (Kd.R_reads' HO_5.out).2.2 x67_4 p276 q276; cases e276; have hn276_0 : ad276.block ≠ gb275 := Kd.own_blk (Kd.R_ne HO_5.out BK275.out (by decide)); have hn276_1 : ad276.block ≠ gb275 := Kd.own_blk (Kd.R_ne HO_5.out BK275.out (by decide)); replace hx276_0 := (cell_far (p := ⟨gb275, 0, none⟩) (by first | (rw [add_block]; exact hn276_0) | (show (Addr.add _ _).block ≠ _; rw [add_block]; exact hn276_0) | exact hn276_0) (.string ((rd_T31 t269 x67_4).f0))).trans hx276_0; replace hx276_1 := (cell_far (p := ⟨gb275, 0, none⟩) (by first | (rw [add_block]; exact hn276_0) | (show (Addr.add _ _).block ≠ _; rw [add_block]; exact hn276_0) | exact hn276_0) (.string ((rd_T31 t269 x67_4).f0))).trans hx276_1; replace hx276_0 := (cell_far (p := ⟨gb275, 1, none⟩) (by first | (rw [add_block]; exact hn276_1) | (show (Addr.add _ _).block ≠ _; rw [add_block]; exact hn276_1) | exact hn276_1) (.int .i64 ((rd_T31 t269 x67_4).f1))).trans hx276_0; replace hx276_1 := (cell_far (p := ⟨gb275, 1, none⟩) (by first | (rw [add_block]; exact hn276_1) | (show (Addr.add _ _).block ≠ _; rw [add_block]; exact hn276_1) | exact hn276_1) (.int .i64 ((rd_T31 t269 x67_4).f1))).trans hx276_1; (try have hy276_0 := fun (n_ : Nat) => (show ((((w38.drewN n_).setCell ⟨gb275, 0, none⟩ (.string ((rd_T31 t269 x67_4).f0))).setCell ⟨gb275, 1, none⟩ (.int .i64 ((rd_T31 t269 x67_4).f1)))).cell? _ = some _ from hx276_0)); (try have hy276_1 := fun (n_ : Nat) => (show ((((w38.drewN n_).setCell ⟨gb275, 0, none⟩ (.string ((rd_T31 t269 x67_4).f0))).setCell ⟨gb275, 1, none⟩ (.int .i64 ((rd_T31 t269 x67_4).f1)))).cell? _ = some _ from hx276_1)); clear hn276_0; clear hn276_1; replace p276 := eq_true p276; replace q276 := eq_true q276)))
                                        go_ret
                                        exact ⟨by first | rfl | (simp [errW_none, errW_some] <;> rfl) | (simp [*, errW_none, errW_some] <;> rfl), by repeat (first | (with_reducible first | exact HB.out | apply below_alloc | apply pw_below_drewN | apply below_drew1 | refine below_set ?_ GE275.out) | exact HB.out)⟩
                                    · rw [if_neg c34] at H
                                      exact absurd H (by simp)
                                  · rw [if_neg c33] at H
                                    exact absurd H (by simp)
                                · rw [if_neg c32] at H
                                  exact absurd H (by simp)
                              · rw [if_neg c31] at H
                                have c31b0 : decide (x67_4 < (t269.length : Int)) = false := decide_eq_false c31
                                clear c31
                                replace H := Option.bind_eq_some_iff.mp H
                                obtain ⟨t277, A400, H⟩ := H
                                replace H : (some t277) = some r := H
                                have A40 := Aside0.mk A400
                                clear A400
                                obtain rfl := Option.some.inj H
                                go_wp2_with (first | (go_at_call 9; (with_reducible refine (slotcodelaw08_alive.calls k4  t277 _ A40.out ?sideL).mono ?_); (case sideL => exact LaidI.below HL.out (by repeat (first | (with_reducible first | exact HB.out | exact Below.refl _ _ | apply below_alloc | apply pw_below_drewN | apply below_drew1) | refine below_set ?_ (Aside0.out (by assumption)) | exact HB.out | exact Below.refl _ _ | exact pw_below_drewN (Below.refl _ _) _))); rintro e w41 ⟨rfl, hb⟩; have n0_ := Aside0.mk (Kd.R_below (by (with_reducible repeat (first | apply Kd.R_alloc | apply Kd.R_drewN | apply Kd.R_drew)); exact HO_5.out) hb); have n1_ := Aside0.mk (Kd.R_below (by (with_reducible repeat (first | apply Kd.R_alloc | apply Kd.R_drewN | apply Kd.R_drew)); exact HO_65.out) hb); have n2_ := Aside0.mk (below_step (by repeat (first | (with_reducible first | exact HB.out | apply below_alloc | apply pw_below_drewN | apply below_drew1) | exact HB.out)) hb); clear HO_5; clear HO_65; clear HB; have HO_5 := n0_; have HO_65 := n1_; have HB := n2_; clear n0_ n1_ n2_; (try clear hb); (try clear hb2); (try clear hk); (try clear hi)))
                                repeat (go_quiet (first | (go_at_call 9; (with_reducible refine (slotcodelaw08_alive.calls k4  t277 _ A40.out ?sideL).mono ?_); (case sideL => exact LaidI.below HL.out (by repeat (first | (with_reducible first | exact HB.out | exact Below.refl _ _ | apply below_alloc | apply pw_below_drewN | apply below_drew1) | refine below_set ?_ (Aside0.out (by assumption)) | exact HB.out | exact Below.refl _ _ | exact pw_below_drewN (Below.refl _ _) _))); rintro e w41 ⟨rfl, hb⟩; have n0_ := Aside0.mk (Kd.R_below (by (with_reducible repeat (first | apply Kd.R_alloc | apply Kd.R_drewN | apply Kd.R_drew)); exact HO_5.out) hb); have n1_ := Aside0.mk (Kd.R_below (by (with_reducible repeat (first | apply Kd.R_alloc | apply Kd.R_drewN | apply Kd.R_drew)); exact HO_65.out) hb); have n2_ := Aside0.mk (below_step (by repeat (first | (with_reducible first | exact HB.out | apply below_alloc | apply pw_below_drewN | apply below_drew1) | exact HB.out)) hb); clear HO_5; clear HO_65; clear HB; have HO_5 := n0_; have HO_65 := n1_; have HB := n2_; clear n0_ n1_ n2_; (try clear hb); (try clear hb2); (try clear hk); (try clear hi))); try go_wp2_with (first | (go_at_call 9; (with_reducible refine (slotcodelaw08_alive.calls k4  t277 _ A40.out ?sideL).mono ?_); (case sideL => exact LaidI.below HL.out (by repeat (first | (with_reducible first | exact HB.out | exact Below.refl _ _ | apply below_alloc | apply pw_below_drewN | apply below_drew1) | refine below_set ?_ (Aside0.out (by assumption)) | exact HB.out | exact Below.refl _ _ | exact pw_below_drewN (Below.refl _ _) _))); rintro e w41 ⟨rfl, hb⟩; have n0_ := Aside0.mk (Kd.R_below (by (with_reducible repeat (first | apply Kd.R_alloc | apply Kd.R_drewN | apply Kd.R_drew)); exact HO_5.out) hb); have n1_ := Aside0.mk (Kd.R_below (by (with_reducible repeat (first | apply Kd.R_alloc | apply Kd.R_drewN | apply Kd.R_drew)); exact HO_65.out) hb); have n2_ := Aside0.mk (below_step (by repeat (first | (with_reducible first | exact HB.out | apply below_alloc | apply pw_below_drewN | apply below_drew1) | exact HB.out)) hb); clear HO_5; clear HO_65; clear HB; have HO_5 := n0_; have HO_65 := n1_; have HB := n2_; clear n0_ n1_ n2_; (try clear hb); (try clear hb2); (try clear hk); (try clear hi))))
                                go_ret
                                exact ⟨by first | rfl | (simp [errW_none, errW_some] <;> rfl) | (simp [*, errW_none, errW_some] <;> rfl), by repeat (first | (with_reducible first | exact HB.out | apply below_alloc | apply pw_below_drewN | apply below_drew1) | exact HB.out)⟩
                  · rw [if_neg c21] at H
                    exact absurd H (by simp)
                · rw [if_neg c20] at H
                  exact absurd H (by simp)
        · rw [if_neg c9] at H
          have c9b0 : (t259 == 0) = false := beq_eq_false_iff_ne.mpr c9
          have c9b1 : (t259 != 0) = true := bne_iff_ne.mpr c9
          replace H := Option.bind_eq_some_iff.mp H
          obtain ⟨t262, A420, H⟩ := H
          replace H : (some t262) = some r := H
          have A42 := Aside0.mk A420
          clear A420
          obtain rfl := Option.some.inj H
          go_wp2_with (first | (go_at_call 10; (with_reducible refine (lex_Tokens.calls a0 t257 t258 t259 _ A8.out ?sideL).mono ?_); (case sideL => exact LaidI.below HL.out (by repeat (first | (with_reducible first | exact HB.out | exact Below.refl _ _ | apply below_alloc | apply pw_below_drewN | apply below_drew1) | refine below_set ?_ (Aside0.out (by assumption)) | exact HB.out | exact Below.refl _ _ | exact pw_below_drewN (Below.refl _ _) _))); rintro e w43 ⟨v260, rfl, ho0, hb⟩; have n0_ := Aside0.mk (Kd.R_lower ho0 (below_size (by repeat (first | (with_reducible first | exact HB.out | apply below_alloc | apply pw_below_drewN | apply below_drew1) | exact HB.out)))); have n1_ := Aside0.mk (below_step (by repeat (first | (with_reducible first | exact HB.out | apply below_alloc | apply pw_below_drewN | apply below_drew1) | exact HB.out)) hb); clear HB; have HO261 := n0_; have HB := n1_; clear n0_ n1_; (try clear hb); (try clear hb2); (try clear hk); (try clear hi); (try clear ho0)) | (go_at_call 9; (with_reducible refine (slotcodelaw08_alive.calls kj2  t262 _ A42.out ?sideL).mono ?_); (case sideL => exact LaidI.below HL.out (by repeat (first | (with_reducible first | exact HB.out | exact Below.refl _ _ | apply below_alloc | apply pw_below_drewN | apply below_drew1) | refine below_set ?_ (Aside0.out (by assumption)) | exact HB.out | exact Below.refl _ _ | exact pw_below_drewN (Below.refl _ _) _))); rintro e w44 ⟨rfl, hb⟩; have n0_ := Aside0.mk (Kd.R_below (by (with_reducible repeat (first | apply Kd.R_alloc | apply Kd.R_drewN | apply Kd.R_drew)); exact HO261.out) hb); have n1_ := Aside0.mk (below_step (by repeat (first | (with_reducible first | exact HB.out | apply below_alloc | apply pw_below_drewN | apply below_drew1) | exact HB.out)) hb); clear HO261; clear HB; have HO261 := n0_; have HB := n1_; clear n0_ n1_; (try clear hb); (try clear hb2); (try clear hk); (try clear hi)))
          repeat (go_quiet (first | (go_at_call 10; (with_reducible refine (lex_Tokens.calls a0 t257 t258 t259 _ A8.out ?sideL).mono ?_); (case sideL => exact LaidI.below HL.out (by repeat (first | (with_reducible first | exact HB.out | exact Below.refl _ _ | apply below_alloc | apply pw_below_drewN | apply below_drew1) | refine below_set ?_ (Aside0.out (by assumption)) | exact HB.out | exact Below.refl _ _ | exact pw_below_drewN (Below.refl _ _) _))); rintro e w43 ⟨v260, rfl, ho0, hb⟩; have n0_ := Aside0.mk (Kd.R_lower ho0 (below_size (by repeat (first | (with_reducible first | exact HB.out | apply below_alloc | apply pw_below_drewN | apply below_drew1) | exact HB.out)))); have n1_ := Aside0.mk (below_step (by repeat (first | (with_reducible first | exact HB.out | apply below_alloc | apply pw_below_drewN | apply below_drew1) | exact HB.out)) hb); clear HB; have HO261 := n0_; have HB := n1_; clear n0_ n1_; (try clear hb); (try clear hb2); (try clear hk); (try clear hi); (try clear ho0)) | (go_at_call 9; (with_reducible refine (slotcodelaw08_alive.calls kj2  t262 _ A42.out ?sideL).mono ?_); (case sideL => exact LaidI.below HL.out (by repeat (first | (with_reducible first | exact HB.out | exact Below.refl _ _ | apply below_alloc | apply pw_below_drewN | apply below_drew1) | refine below_set ?_ (Aside0.out (by assumption)) | exact HB.out | exact Below.refl _ _ | exact pw_below_drewN (Below.refl _ _) _))); rintro e w44 ⟨rfl, hb⟩; have n0_ := Aside0.mk (Kd.R_below (by (with_reducible repeat (first | apply Kd.R_alloc | apply Kd.R_drewN | apply Kd.R_drew)); exact HO261.out) hb); have n1_ := Aside0.mk (below_step (by repeat (first | (with_reducible first | exact HB.out | apply below_alloc | apply pw_below_drewN | apply below_drew1) | exact HB.out)) hb); clear HO261; clear HB; have HO261 := n0_; have HB := n1_; clear n0_ n1_; (try clear hb); (try clear hb2); (try clear hk); (try clear hi))); try go_wp2_with (first | (go_at_call 10; (with_reducible refine (lex_Tokens.calls a0 t257 t258 t259 _ A8.out ?sideL).mono ?_); (case sideL => exact LaidI.below HL.out (by repeat (first | (with_reducible first | exact HB.out | exact Below.refl _ _ | apply below_alloc | apply pw_below_drewN | apply below_drew1) | refine below_set ?_ (Aside0.out (by assumption)) | exact HB.out | exact Below.refl _ _ | exact pw_below_drewN (Below.refl _ _) _))); rintro e w43 ⟨v260, rfl, ho0, hb⟩; have n0_ := Aside0.mk (Kd.R_lower ho0 (below_size (by repeat (first | (with_reducible first | exact HB.out | apply below_alloc | apply pw_below_drewN | apply below_drew1) | exact HB.out)))); have n1_ := Aside0.mk (below_step (by repeat (first | (with_reducible first | exact HB.out | apply below_alloc | apply pw_below_drewN | apply below_drew1) | exact HB.out)) hb); clear HB; have HO261 := n0_; have HB := n1_; clear n0_ n1_; (try clear hb); (try clear hb2); (try clear hk); (try clear hi); (try clear ho0)) | (go_at_call 9; (with_reducible refine (slotcodelaw08_alive.calls kj2  t262 _ A42.out ?sideL).mono ?_); (case sideL => exact LaidI.below HL.out (by repeat (first | (with_reducible first | exact HB.out | exact Below.refl _ _ | apply below_alloc | apply pw_below_drewN | apply below_drew1) | refine below_set ?_ (Aside0.out (by assumption)) | exact HB.out | exact Below.refl _ _ | exact pw_below_drewN (Below.refl _ _) _))); rintro e w44 ⟨rfl, hb⟩; have n0_ := Aside0.mk (Kd.R_below (by (with_reducible repeat (first | apply Kd.R_alloc | apply Kd.R_drewN | apply Kd.R_drew)); exact HO261.out) hb); have n1_ := Aside0.mk (below_step (by repeat (first | (with_reducible first | exact HB.out | apply below_alloc | apply pw_below_drewN | apply below_drew1) | exact HB.out)) hb); clear HO261; clear HB; have HO261 := n0_; have HB := n1_; clear n0_ n1_; (try clear hb); (try clear hb2); (try clear hk); (try clear hi))))
          go_ret
          exact ⟨by first | rfl | (simp [errW_none, errW_some] <;> rfl) | (simp [*, errW_none, errW_some] <;> rfl), by repeat (first | (with_reducible first | exact HB.out | apply below_alloc | apply pw_below_drewN | apply below_drew1) | exact HB.out)⟩

/-- THE ONE PURE STATEMENT of slotcodelaw08_LexSpaces: yours. -/
def slotcodelaw08_LexSpaces.Pure : Prop := ∀ (a0 : ByteArray) (a1 : ByteArray), a0.size ≤ 140737488351232 → a1.size ≤ 140737488351232 → ∃ k, slotcodelaw08_LexSpaces.f k a0 a1 = some true
theorem slotcodelaw08_LexSpaces.walk (P : slotcodelaw08_LexSpaces.Pure) (a0 : ByteArray) (a1 : ByteArray) (w : World) (w0 : a0.size ≤ 140737488351232) (w1 : a1.size ≤ 140737488351232) (hL : LaidI w) :
    Calls Tryd.prog 8 #[.string a0, .string a1] w fun e w' => e = .returned (.bool true) ∧ Below w.heap.size w w' := by
  obtain ⟨k, h⟩ := P a0 a1 w0 w1
  refine (slotcodelaw08_LexSpaces.calls k a0 a1 true w h hL).mono ?_
  rintro e w' ⟨rfl, hd⟩
  exact ⟨rfl, hd⟩

end Go.Proofs.YtdjljggdbflohaaDoor.PAll
