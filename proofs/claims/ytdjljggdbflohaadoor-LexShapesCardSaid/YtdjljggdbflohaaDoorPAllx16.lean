-- By a program of this session (xp.py) over the kit's print, with texts of this session.
import Derived.Test.YtdjljggdbflohaaDoorPAllx0
import Derived.Test.YtdjljggdbflohaaDoorPAllx4
import Derived.Test.YtdjljggdbflohaaDoorPAllx7
import Derived.Test.YtdjljggdbflohaaDoorPAllx8
import Derived.Test.YtdjljggdbflohaaDoorPAllx9
import Derived.Test.YtdjljggdbflohaaDoorPAllx12
import Derived.Test.YtdjljggdbflohaaDoorPAllx13
import Derived.Test.YtdjljggdbflohaaDoorPAllx15
import Derived.Test.YtdjljggdbflohaaDoorLexBase
namespace Go.Proofs.YtdjljggdbflohaaDoor.PAll
open Go.RowKit Go.Proofs.YtdjljggdbflohaaDoorW.PrintWords Go.Proofs.YtdjljggdbflohaaDoorW.PrintLast Go.Proofs.YtdjljggdbflohaaDoorW.PrintMore
attribute [local go_sem] max2_int min2_int max_two min_two max_three min_three max_four min_four   -- for this text's walks alone
set_option linter.unusedVariables false
set_option linter.unusedSimpArgs false

-- EXTERN
-- XIMPORT Derived.Test.YtdjljggdbflohaaDoorLexBase
/-! ### slotcodelaw08_LexShapes: function 4 -/
def slotcodelaw08_LexShapes.f (k : Nat) (a0 : ByteArray) (a1 : Int) (a2 : Int) : Option (Bool) := if (a0.size : Int) > 3000 then ((slotcodelaw08_alive.f k).bind fun t175 => (some t175)) else ((lex_Tokens.f a0).bind fun bt176 => ((slotcoderef08_Tokens.f k a0).bind fun bt181 => (if bt181.2 ≥ 0 then ((slotcodelaw08_alive.f k).bind fun t185 => (if t185 = true then (some (bt176.2.2 == 2)) else (some false))) else (if (bt176.1.length : Int) = (bt181.1.length : Int) then (if (wrap64 ((bt176.1.length : Int) + 1)) = 0 then (none) else (if (wrap64 ((wrap64 ((bt176.1.length : Int) - (Int.tmod (wrap64 (a1)) (wrap64 ((bt176.1.length : Int) + 1))))) + 1)) = 0 then (none) else ((slotcodelaw08_alive.f k).bind fun t186 => (if t186 = true then (if 0 ≤ (Int.tmod (wrap64 (a1)) (wrap64 ((bt176.1.length : Int) + 1))) then (if (Int.tmod (wrap64 (a1)) (wrap64 ((bt176.1.length : Int) + 1))) ≤ (wrap64 ((Int.tmod (wrap64 (a1)) (wrap64 ((bt176.1.length : Int) + 1))) + (Int.tmod (wrap64 (a2)) (wrap64 ((wrap64 ((bt176.1.length : Int) - (Int.tmod (wrap64 (a1)) (wrap64 ((bt176.1.length : Int) + 1))))) + 1))))) then (if (wrap64 ((Int.tmod (wrap64 (a1)) (wrap64 ((bt176.1.length : Int) + 1))) + (Int.tmod (wrap64 (a2)) (wrap64 ((wrap64 ((bt176.1.length : Int) - (Int.tmod (wrap64 (a1)) (wrap64 ((bt176.1.length : Int) + 1))))) + 1))))) ≤ (bt176.1.length : Int) then ((lex_Shape.f ((bt176.1.take ((wrap64 ((Int.tmod (wrap64 (a1)) (wrap64 ((bt176.1.length : Int) + 1))) + (Int.tmod (wrap64 (a2)) (wrap64 ((wrap64 ((bt176.1.length : Int) - (Int.tmod (wrap64 (a1)) (wrap64 ((bt176.1.length : Int) + 1))))) + 1))))) : Int).toNat).drop ((Int.tmod (wrap64 (a1)) (wrap64 ((bt176.1.length : Int) + 1))) : Int).toNat)).bind fun t191 => (if (wrap64 ((Int.tmod (wrap64 (a1)) (wrap64 ((bt176.1.length : Int) + 1))) + (Int.tmod (wrap64 (a2)) (wrap64 ((wrap64 ((bt176.1.length : Int) - (Int.tmod (wrap64 (a1)) (wrap64 ((bt176.1.length : Int) + 1))))) + 1))))) ≤ (bt181.1.length : Int) then ((slotcoderef08_Shape.f k ((bt181.1.take ((wrap64 ((Int.tmod (wrap64 (a1)) (wrap64 ((bt176.1.length : Int) + 1))) + (Int.tmod (wrap64 (a2)) (wrap64 ((wrap64 ((bt176.1.length : Int) - (Int.tmod (wrap64 (a1)) (wrap64 ((bt176.1.length : Int) + 1))))) + 1))))) : Int).toNat).drop ((Int.tmod (wrap64 (a1)) (wrap64 ((bt176.1.length : Int) + 1))) : Int).toNat)).bind fun t196 => (if t191.toList = t196.toList then ((lex_Words.f k ((bt176.1.take ((wrap64 ((Int.tmod (wrap64 (a1)) (wrap64 ((bt176.1.length : Int) + 1))) + (Int.tmod (wrap64 (a2)) (wrap64 ((wrap64 ((bt176.1.length : Int) - (Int.tmod (wrap64 (a1)) (wrap64 ((bt176.1.length : Int) + 1))))) + 1))))) : Int).toNat).drop ((Int.tmod (wrap64 (a1)) (wrap64 ((bt176.1.length : Int) + 1))) : Int).toNat)).bind fun t201 => ((slotcoderef08_Words.f k ((bt181.1.take ((wrap64 ((Int.tmod (wrap64 (a1)) (wrap64 ((bt176.1.length : Int) + 1))) + (Int.tmod (wrap64 (a2)) (wrap64 ((wrap64 ((bt176.1.length : Int) - (Int.tmod (wrap64 (a1)) (wrap64 ((bt176.1.length : Int) + 1))))) + 1))))) : Int).toNat).drop ((Int.tmod (wrap64 (a1)) (wrap64 ((bt176.1.length : Int) + 1))) : Int).toNat)).bind fun t208 => ((slices_Equal_string_string.f k t201 t208).bind fun t211 => (some t211)))) else (some false))) else (none))) else (none)) else (none)) else (none)) else (some false))))) else (some false)))))
theorem slotcodelaw08_LexShapes.mono : ∀ a0 a1 a2 k, LeO (slotcodelaw08_LexShapes.f k a0 a1 a2) (slotcodelaw08_LexShapes.f (k + 1) a0 a1 a2) := by
  intro a0 a1 a2 k
  unfold slotcodelaw08_LexShapes.f
  repeat' first
      | (with_reducible exact lex_Words.mono _ _)
      | (with_reducible exact slices_Equal_string_string.mono _ _ _)
      | (with_reducible exact slotcodelaw08_alive.mono _)
      | (with_reducible exact slotcoderef08_Shape.mono _ _)
      | (with_reducible exact slotcoderef08_Tokens.mono _ _)
      | (with_reducible exact slotcoderef08_Words.mono _ _)
      | (with_reducible exact LeO.refl _)
      | (with_reducible exact LeO.none _)
      | (with_reducible refine LeO.ite ?_ ?_)
      | (with_reducible refine LeO.bind ?_ (fun _ => ?_))
      | exact lex_Words.mono _ _
      | exact slices_Equal_string_string.mono _ _ _
      | exact slotcodelaw08_alive.mono _
      | exact slotcoderef08_Shape.mono _ _
      | exact slotcoderef08_Tokens.mono _ _
      | exact slotcoderef08_Words.mono _ _
      | exact LeO.none _
      | refine LeO.ite ?_ ?_
      | refine LeO.bind ?_ (fun _ => ?_)
def slotcodelaw08_LexShapes.T11 : Bool × List (List Nat × List Nat) := (true, [([], []), ([0, 0], [0]), ([1], [1]), ([1], [1]), ([1], [1]), ([2, 3, 4, 1], [1, 2, 3, 4]), ([5, 1, 1], [1, 5]), ([1], [1]), ([1], [1]), ([1], [1]), ([7, 8, 9, 1], [1, 7, 8, 9]), ([10, 6, 1], [1, 10]), ([6, 11, 1], [1, 6, 11]), ([1, 12], [1, 12]), ([13, 11], [13]), ([14], [14]), ([14], [14]), ([14], [14]), ([15, 16, 17, 14], [14, 15, 16, 17]), ([18, 14, 14], [14, 18]), ([14], [14]), ([14], [14]), ([14], [14]), ([20, 21, 22, 14], [14, 20, 21, 22]), ([23, 19, 14], [14, 23]), ([19, 24, 24, 14], [14, 19, 24]), ([14, 25], [14, 25]), ([26, 25, 0, 1, 2, 3, 4, 5, 6, 7, 8, 9, 10, 11, 12, 13, 14, 15, 16, 17, 18, 19, 20, 21, 22, 23, 24, 25, 26], [26])])
def slotcodelaw08_LexShapes.B11 : List Nat := [0, 1, 3, 3, 3, 31, 63, 3, 3, 3, 899, 2047, 4095, 8191, 16383, 32767, 32767, 32767, 262143, 524287, 32767, 32767, 32767, 7372799, 16777215, 33554431, 67108863, 134217727]
theorem slotcodelaw08_LexShapes.tab11 : rtab .any (opsOf Tryd.f4 11) = slotcodelaw08_LexShapes.T11 := by kernel_rfl
theorem slotcodelaw08_LexShapes.bits11 : waitsOk slotcodelaw08_LexShapes.T11.2 slotcodelaw08_LexShapes.B11 = true := by kernel_rfl
set_option maxHeartbeats 8000000 in
set_option maxRecDepth 100000 in
theorem slotcodelaw08_LexShapes.calls (k : Nat) (a0 : ByteArray) (a1 : Int) (a2 : Int) (r : Bool) (w : World) (h : slotcodelaw08_LexShapes.f k a0 a1 a2 = some r) (hL : LaidI w) :
    Calls Tryd.prog 4 #[.string a0, .int .u8 a1, .int .u8 a2] w fun e w' => e = .returned (.bool r) ∧ Below w.heap.size w w' := by
  have HB := Aside0.mk (Below.refl w.heap.size w)
  have HL := Aside0.mk hL
  clear hL
  have H : (if (a0.size : Int) > 3000 then ((slotcodelaw08_alive.f k).bind fun t175 => (some t175)) else ((lex_Tokens.f a0).bind fun bt176 => ((slotcoderef08_Tokens.f k a0).bind fun bt181 => (if bt181.2 ≥ 0 then ((slotcodelaw08_alive.f k).bind fun t185 => (if t185 = true then (some (bt176.2.2 == 2)) else (some false))) else (if (bt176.1.length : Int) = (bt181.1.length : Int) then (if (wrap64 ((bt176.1.length : Int) + 1)) = 0 then (none) else (if (wrap64 ((wrap64 ((bt176.1.length : Int) - (Int.tmod (wrap64 (a1)) (wrap64 ((bt176.1.length : Int) + 1))))) + 1)) = 0 then (none) else ((slotcodelaw08_alive.f k).bind fun t186 => (if t186 = true then (if 0 ≤ (Int.tmod (wrap64 (a1)) (wrap64 ((bt176.1.length : Int) + 1))) then (if (Int.tmod (wrap64 (a1)) (wrap64 ((bt176.1.length : Int) + 1))) ≤ (wrap64 ((Int.tmod (wrap64 (a1)) (wrap64 ((bt176.1.length : Int) + 1))) + (Int.tmod (wrap64 (a2)) (wrap64 ((wrap64 ((bt176.1.length : Int) - (Int.tmod (wrap64 (a1)) (wrap64 ((bt176.1.length : Int) + 1))))) + 1))))) then (if (wrap64 ((Int.tmod (wrap64 (a1)) (wrap64 ((bt176.1.length : Int) + 1))) + (Int.tmod (wrap64 (a2)) (wrap64 ((wrap64 ((bt176.1.length : Int) - (Int.tmod (wrap64 (a1)) (wrap64 ((bt176.1.length : Int) + 1))))) + 1))))) ≤ (bt176.1.length : Int) then ((lex_Shape.f ((bt176.1.take ((wrap64 ((Int.tmod (wrap64 (a1)) (wrap64 ((bt176.1.length : Int) + 1))) + (Int.tmod (wrap64 (a2)) (wrap64 ((wrap64 ((bt176.1.length : Int) - (Int.tmod (wrap64 (a1)) (wrap64 ((bt176.1.length : Int) + 1))))) + 1))))) : Int).toNat).drop ((Int.tmod (wrap64 (a1)) (wrap64 ((bt176.1.length : Int) + 1))) : Int).toNat)).bind fun t191 => (if (wrap64 ((Int.tmod (wrap64 (a1)) (wrap64 ((bt176.1.length : Int) + 1))) + (Int.tmod (wrap64 (a2)) (wrap64 ((wrap64 ((bt176.1.length : Int) - (Int.tmod (wrap64 (a1)) (wrap64 ((bt176.1.length : Int) + 1))))) + 1))))) ≤ (bt181.1.length : Int) then ((slotcoderef08_Shape.f k ((bt181.1.take ((wrap64 ((Int.tmod (wrap64 (a1)) (wrap64 ((bt176.1.length : Int) + 1))) + (Int.tmod (wrap64 (a2)) (wrap64 ((wrap64 ((bt176.1.length : Int) - (Int.tmod (wrap64 (a1)) (wrap64 ((bt176.1.length : Int) + 1))))) + 1))))) : Int).toNat).drop ((Int.tmod (wrap64 (a1)) (wrap64 ((bt176.1.length : Int) + 1))) : Int).toNat)).bind fun t196 => (if t191.toList = t196.toList then ((lex_Words.f k ((bt176.1.take ((wrap64 ((Int.tmod (wrap64 (a1)) (wrap64 ((bt176.1.length : Int) + 1))) + (Int.tmod (wrap64 (a2)) (wrap64 ((wrap64 ((bt176.1.length : Int) - (Int.tmod (wrap64 (a1)) (wrap64 ((bt176.1.length : Int) + 1))))) + 1))))) : Int).toNat).drop ((Int.tmod (wrap64 (a1)) (wrap64 ((bt176.1.length : Int) + 1))) : Int).toNat)).bind fun t201 => ((slotcoderef08_Words.f k ((bt181.1.take ((wrap64 ((Int.tmod (wrap64 (a1)) (wrap64 ((bt176.1.length : Int) + 1))) + (Int.tmod (wrap64 (a2)) (wrap64 ((wrap64 ((bt176.1.length : Int) - (Int.tmod (wrap64 (a1)) (wrap64 ((bt176.1.length : Int) + 1))))) + 1))))) : Int).toNat).drop ((Int.tmod (wrap64 (a1)) (wrap64 ((bt176.1.length : Int) + 1))) : Int).toNat)).bind fun t208 => ((slices_Equal_string_string.f k t201 t208).bind fun t211 => (some t211)))) else (some false))) else (none))) else (none)) else (none)) else (none)) else (some false))))) else (some false)))))) = some r := h
  clear h
  by_cases c4 : (a0.size : Int) > 3000
  · rw [if_pos c4] at H
    have c4b0 : decide (3000 < (a0.size : Int)) = true := decide_eq_true c4
    have c4b1 : decide (3000 < a0.size) = true := decide_eq_true (by omega)
    clear c4
    replace H := Option.bind_eq_some_iff.mp H
    obtain ⟨t175, A50, H⟩ := H
    replace H : (some t175) = some r := H
    have A5 := Aside0.mk A50
    clear A50
    obtain rfl := Option.some.inj H
    go_enter Tryd.func4, Tryd.ntmps4
    go_wp2_with (first | ((with_reducible refine gate_callee (f := 9) rfl ?_); refine goesL_ (some 17) rfl rfl Tryd.func9 (by kernel_rfl) rfl #[] rfl (by (try simp only [List.map_toArray, List.map_cons, List.map_nil]); first | done | rfl | (simp only [List.length_drop, List.length_take]; rfl)) ?_; (with_reducible refine (slotcodelaw08_alive.calls k  t175 _ A5.out ?sideL).mono ?_); (case sideL => exact LaidI.below HL.out (by repeat (first | (with_reducible first | exact HB.out | exact Below.refl _ _ | apply below_alloc | apply pw_below_drewN | apply below_drew1) | refine below_set ?_ (Aside0.out (by assumption)) | exact HB.out | exact Below.refl _ _ | exact pw_below_drewN (Below.refl _ _) _))); rintro e w6 ⟨rfl, hb⟩; refine ⟨_, rfl, ?_⟩; have n0_ := Aside0.mk (below_step (by repeat (first | (with_reducible first | exact HB.out | apply below_alloc | apply pw_below_drewN | apply below_drew1) | exact HB.out)) hb); clear HB; have HB := n0_; clear n0_; (try clear hb); (try clear hb2); (try clear hk); (try clear hi)))
    go_ret
    exact ⟨by first | rfl | (simp [errW_none, errW_some] <;> rfl) | (simp [*, errW_none, errW_some] <;> rfl), by repeat (first | (with_reducible first | exact HB.out | apply below_alloc | apply pw_below_drewN | apply below_drew1) | exact HB.out)⟩
  · rw [if_neg c4] at H
    have c4b0 : decide (3000 < (a0.size : Int)) = false := decide_eq_false c4
    have c4b1 : decide (3000 < a0.size) = false := decide_eq_false (by omega)
    clear c4
    replace H := Option.bind_eq_some_iff.mp H
    obtain ⟨⟨t176, t177, t178⟩, A70, H⟩ := H
    replace H : ((slotcoderef08_Tokens.f k a0).bind fun bt181 => (if bt181.2 ≥ 0 then ((slotcodelaw08_alive.f k).bind fun t185 => (if t185 = true then (some (t178 == 2)) else (some false))) else (if (t176.length : Int) = (bt181.1.length : Int) then (if (wrap64 ((t176.length : Int) + 1)) = 0 then (none) else (if (wrap64 ((wrap64 ((t176.length : Int) - (Int.tmod (wrap64 (a1)) (wrap64 ((t176.length : Int) + 1))))) + 1)) = 0 then (none) else ((slotcodelaw08_alive.f k).bind fun t186 => (if t186 = true then (if 0 ≤ (Int.tmod (wrap64 (a1)) (wrap64 ((t176.length : Int) + 1))) then (if (Int.tmod (wrap64 (a1)) (wrap64 ((t176.length : Int) + 1))) ≤ (wrap64 ((Int.tmod (wrap64 (a1)) (wrap64 ((t176.length : Int) + 1))) + (Int.tmod (wrap64 (a2)) (wrap64 ((wrap64 ((t176.length : Int) - (Int.tmod (wrap64 (a1)) (wrap64 ((t176.length : Int) + 1))))) + 1))))) then (if (wrap64 ((Int.tmod (wrap64 (a1)) (wrap64 ((t176.length : Int) + 1))) + (Int.tmod (wrap64 (a2)) (wrap64 ((wrap64 ((t176.length : Int) - (Int.tmod (wrap64 (a1)) (wrap64 ((t176.length : Int) + 1))))) + 1))))) ≤ (t176.length : Int) then ((lex_Shape.f ((t176.take ((wrap64 ((Int.tmod (wrap64 (a1)) (wrap64 ((t176.length : Int) + 1))) + (Int.tmod (wrap64 (a2)) (wrap64 ((wrap64 ((t176.length : Int) - (Int.tmod (wrap64 (a1)) (wrap64 ((t176.length : Int) + 1))))) + 1))))) : Int).toNat).drop ((Int.tmod (wrap64 (a1)) (wrap64 ((t176.length : Int) + 1))) : Int).toNat)).bind fun t191 => (if (wrap64 ((Int.tmod (wrap64 (a1)) (wrap64 ((t176.length : Int) + 1))) + (Int.tmod (wrap64 (a2)) (wrap64 ((wrap64 ((t176.length : Int) - (Int.tmod (wrap64 (a1)) (wrap64 ((t176.length : Int) + 1))))) + 1))))) ≤ (bt181.1.length : Int) then ((slotcoderef08_Shape.f k ((bt181.1.take ((wrap64 ((Int.tmod (wrap64 (a1)) (wrap64 ((t176.length : Int) + 1))) + (Int.tmod (wrap64 (a2)) (wrap64 ((wrap64 ((t176.length : Int) - (Int.tmod (wrap64 (a1)) (wrap64 ((t176.length : Int) + 1))))) + 1))))) : Int).toNat).drop ((Int.tmod (wrap64 (a1)) (wrap64 ((t176.length : Int) + 1))) : Int).toNat)).bind fun t196 => (if t191.toList = t196.toList then ((lex_Words.f k ((t176.take ((wrap64 ((Int.tmod (wrap64 (a1)) (wrap64 ((t176.length : Int) + 1))) + (Int.tmod (wrap64 (a2)) (wrap64 ((wrap64 ((t176.length : Int) - (Int.tmod (wrap64 (a1)) (wrap64 ((t176.length : Int) + 1))))) + 1))))) : Int).toNat).drop ((Int.tmod (wrap64 (a1)) (wrap64 ((t176.length : Int) + 1))) : Int).toNat)).bind fun t201 => ((slotcoderef08_Words.f k ((bt181.1.take ((wrap64 ((Int.tmod (wrap64 (a1)) (wrap64 ((t176.length : Int) + 1))) + (Int.tmod (wrap64 (a2)) (wrap64 ((wrap64 ((t176.length : Int) - (Int.tmod (wrap64 (a1)) (wrap64 ((t176.length : Int) + 1))))) + 1))))) : Int).toNat).drop ((Int.tmod (wrap64 (a1)) (wrap64 ((t176.length : Int) + 1))) : Int).toNat)).bind fun t208 => ((slices_Equal_string_string.f k t201 t208).bind fun t211 => (some t211)))) else (some false))) else (none))) else (none)) else (none)) else (none)) else (some false))))) else (some false)))) = some r := H
    have A7 := Aside0.mk A70
    clear A70
    replace H := Option.bind_eq_some_iff.mp H
    obtain ⟨⟨t181, t182⟩, A80, H⟩ := H
    replace H : (if t182 ≥ 0 then ((slotcodelaw08_alive.f k).bind fun t185 => (if t185 = true then (some (t178 == 2)) else (some false))) else (if (t176.length : Int) = (t181.length : Int) then (if (wrap64 ((t176.length : Int) + 1)) = 0 then (none) else (if (wrap64 ((wrap64 ((t176.length : Int) - (Int.tmod (wrap64 (a1)) (wrap64 ((t176.length : Int) + 1))))) + 1)) = 0 then (none) else ((slotcodelaw08_alive.f k).bind fun t186 => (if t186 = true then (if 0 ≤ (Int.tmod (wrap64 (a1)) (wrap64 ((t176.length : Int) + 1))) then (if (Int.tmod (wrap64 (a1)) (wrap64 ((t176.length : Int) + 1))) ≤ (wrap64 ((Int.tmod (wrap64 (a1)) (wrap64 ((t176.length : Int) + 1))) + (Int.tmod (wrap64 (a2)) (wrap64 ((wrap64 ((t176.length : Int) - (Int.tmod (wrap64 (a1)) (wrap64 ((t176.length : Int) + 1))))) + 1))))) then (if (wrap64 ((Int.tmod (wrap64 (a1)) (wrap64 ((t176.length : Int) + 1))) + (Int.tmod (wrap64 (a2)) (wrap64 ((wrap64 ((t176.length : Int) - (Int.tmod (wrap64 (a1)) (wrap64 ((t176.length : Int) + 1))))) + 1))))) ≤ (t176.length : Int) then ((lex_Shape.f ((t176.take ((wrap64 ((Int.tmod (wrap64 (a1)) (wrap64 ((t176.length : Int) + 1))) + (Int.tmod (wrap64 (a2)) (wrap64 ((wrap64 ((t176.length : Int) - (Int.tmod (wrap64 (a1)) (wrap64 ((t176.length : Int) + 1))))) + 1))))) : Int).toNat).drop ((Int.tmod (wrap64 (a1)) (wrap64 ((t176.length : Int) + 1))) : Int).toNat)).bind fun t191 => (if (wrap64 ((Int.tmod (wrap64 (a1)) (wrap64 ((t176.length : Int) + 1))) + (Int.tmod (wrap64 (a2)) (wrap64 ((wrap64 ((t176.length : Int) - (Int.tmod (wrap64 (a1)) (wrap64 ((t176.length : Int) + 1))))) + 1))))) ≤ (t181.length : Int) then ((slotcoderef08_Shape.f k ((t181.take ((wrap64 ((Int.tmod (wrap64 (a1)) (wrap64 ((t176.length : Int) + 1))) + (Int.tmod (wrap64 (a2)) (wrap64 ((wrap64 ((t176.length : Int) - (Int.tmod (wrap64 (a1)) (wrap64 ((t176.length : Int) + 1))))) + 1))))) : Int).toNat).drop ((Int.tmod (wrap64 (a1)) (wrap64 ((t176.length : Int) + 1))) : Int).toNat)).bind fun t196 => (if t191.toList = t196.toList then ((lex_Words.f k ((t176.take ((wrap64 ((Int.tmod (wrap64 (a1)) (wrap64 ((t176.length : Int) + 1))) + (Int.tmod (wrap64 (a2)) (wrap64 ((wrap64 ((t176.length : Int) - (Int.tmod (wrap64 (a1)) (wrap64 ((t176.length : Int) + 1))))) + 1))))) : Int).toNat).drop ((Int.tmod (wrap64 (a1)) (wrap64 ((t176.length : Int) + 1))) : Int).toNat)).bind fun t201 => ((slotcoderef08_Words.f k ((t181.take ((wrap64 ((Int.tmod (wrap64 (a1)) (wrap64 ((t176.length : Int) + 1))) + (Int.tmod (wrap64 (a2)) (wrap64 ((wrap64 ((t176.length : Int) - (Int.tmod (wrap64 (a1)) (wrap64 ((t176.length : Int) + 1))))) + 1))))) : Int).toNat).drop ((Int.tmod (wrap64 (a1)) (wrap64 ((t176.length : Int) + 1))) : Int).toNat)).bind fun t208 => ((slices_Equal_string_string.f k t201 t208).bind fun t211 => (some t211)))) else (some false))) else (none))) else (none)) else (none)) else (none)) else (some false))))) else (some false))) = some r := H
    have A8 := Aside0.mk A80
    clear A80
    by_cases c9 : t182 ≥ 0
    · rw [if_pos c9] at H
      have c9b0 : decide (0 ≤ t182) = true := decide_eq_true c9
      clear c9
      replace H := Option.bind_eq_some_iff.mp H
      obtain ⟨t185, A100, H⟩ := H
      replace H : (if t185 = true then (some (t178 == 2)) else (some false)) = some r := H
      have A10 := Aside0.mk A100
      clear A100
      by_cases c11 : t185 = true
      · subst c11
        have H1 : (some (t178 == 2)) = some r := by rw [if_pos rfl] at H; exact H
        clear H
        have H := H1
        clear H1
        obtain rfl := Option.some.inj H
        go_enter Tryd.func4, Tryd.ntmps4
        go_wp2_with (first | ((with_reducible refine gate_callee (f := 10) rfl ?_); refine goesL_ (some 20) rfl rfl Tryd.func10 (by kernel_rfl) rfl #[.string a0] rfl (by (try simp only [List.map_toArray, List.map_cons, List.map_nil]); first | done | rfl | (simp only [List.length_drop, List.length_take]; rfl)) ?_; (with_reducible refine (lex_Tokens.calls a0 t176 t177 t178 _ A7.out ?sideL).mono ?_); (case sideL => exact LaidI.below HL.out (by repeat (first | (with_reducible first | exact HB.out | exact Below.refl _ _ | apply below_alloc | apply pw_below_drewN | apply below_drew1) | refine below_set ?_ (Aside0.out (by assumption)) | exact HB.out | exact Below.refl _ _ | exact pw_below_drewN (Below.refl _ _) _))); rintro e w12 ⟨v179, rfl, ho0, hb⟩; refine ⟨_, rfl, ?_⟩; have n0_ := Aside0.mk (Kd.R_lower ho0 (below_size (by repeat (first | (with_reducible first | exact HB.out | apply below_alloc | apply pw_below_drewN | apply below_drew1) | exact HB.out)))); have n1_ := Aside0.mk (below_step (by repeat (first | (with_reducible first | exact HB.out | apply below_alloc | apply pw_below_drewN | apply below_drew1) | exact HB.out)) hb); clear HB; have HO180 := n0_; have HB := n1_; clear n0_ n1_; (try clear hb); (try clear hb2); (try clear hk); (try clear hi); (try clear ho0)) | ((with_reducible refine gate_callee (f := 11) rfl ?_); refine goesL_ (some 26) rfl rfl Tryd.func11 (by kernel_rfl) rfl #[.string a0] rfl (by (try simp only [List.map_toArray, List.map_cons, List.map_nil]); first | done | rfl | (simp only [List.length_drop, List.length_take]; rfl)) ?_; (with_reducible refine (slotcoderef08_Tokens.calls k a0 t181 t182 _ A8.out).mono ?_); rintro e w13 ⟨v183, rfl, ho0, hb⟩; refine ⟨_, rfl, ?_⟩; have n0_ := Aside0.mk (Kd.R_below (by (with_reducible repeat (first | apply Kd.R_alloc | apply Kd.R_drewN | apply Kd.R_drew)); exact HO180.out) hb); have n1_ := Aside0.mk (Kd.R_lower ho0 (below_size (by repeat (first | (with_reducible first | exact HB.out | apply below_alloc | apply pw_below_drewN | apply below_drew1) | exact HB.out)))); have n2_ := Aside0.mk (below_step (by repeat (first | (with_reducible first | exact HB.out | apply below_alloc | apply pw_below_drewN | apply below_drew1) | exact HB.out)) hb); clear HO180; clear HB; have HO180 := n0_; have HO184 := n1_; have HB := n2_; clear n0_ n1_ n2_; (try clear hb); (try clear hb2); (try clear hk); (try clear hi); (try clear ho0)) | ((with_reducible refine gate_callee (f := 9) rfl ?_); refine goesL_ (some 31) rfl rfl Tryd.func9 (by kernel_rfl) rfl #[] rfl (by (try simp only [List.map_toArray, List.map_cons, List.map_nil]); first | done | rfl | (simp only [List.length_drop, List.length_take]; rfl)) ?_; (with_reducible refine (slotcodelaw08_alive.calls k  true _ A10.out ?sideL).mono ?_); (case sideL => exact LaidI.below HL.out (by repeat (first | (with_reducible first | exact HB.out | exact Below.refl _ _ | apply below_alloc | apply pw_below_drewN | apply below_drew1) | refine below_set ?_ (Aside0.out (by assumption)) | exact HB.out | exact Below.refl _ _ | exact pw_below_drewN (Below.refl _ _) _))); rintro e w14 ⟨rfl, hb⟩; refine ⟨_, rfl, ?_⟩; have n0_ := Aside0.mk (Kd.R_below (by (with_reducible repeat (first | apply Kd.R_alloc | apply Kd.R_drewN | apply Kd.R_drew)); exact HO180.out) hb); have n1_ := Aside0.mk (Kd.R_below (by (with_reducible repeat (first | apply Kd.R_alloc | apply Kd.R_drewN | apply Kd.R_drew)); exact HO184.out) hb); have n2_ := Aside0.mk (below_step (by repeat (first | (with_reducible first | exact HB.out | apply below_alloc | apply pw_below_drewN | apply below_drew1) | exact HB.out)) hb); clear HO180; clear HO184; clear HB; have HO180 := n0_; have HO184 := n1_; have HB := n2_; clear n0_ n1_ n2_; (try clear hb); (try clear hb2); (try clear hk); (try clear hi)))
        go_ret
        exact ⟨by first | rfl | (simp [errW_none, errW_some] <;> rfl) | (simp [*, errW_none, errW_some] <;> rfl), by repeat (first | (with_reducible first | exact HB.out | apply below_alloc | apply pw_below_drewN | apply below_drew1) | exact HB.out)⟩
      · replace c11 := Bool.eq_false_iff.mpr c11
        subst c11
        have H1 : (some false) = some r := by rw [if_neg (show ¬ (false = true) by decide)] at H; exact H
        clear H
        have H := H1
        clear H1
        obtain rfl := Option.some.inj H
        go_enter Tryd.func4, Tryd.ntmps4
        go_wp2_with (first | ((with_reducible refine gate_callee (f := 10) rfl ?_); refine goesL_ (some 20) rfl rfl Tryd.func10 (by kernel_rfl) rfl #[.string a0] rfl (by (try simp only [List.map_toArray, List.map_cons, List.map_nil]); first | done | rfl | (simp only [List.length_drop, List.length_take]; rfl)) ?_; (with_reducible refine (lex_Tokens.calls a0 t176 t177 t178 _ A7.out ?sideL).mono ?_); (case sideL => exact LaidI.below HL.out (by repeat (first | (with_reducible first | exact HB.out | exact Below.refl _ _ | apply below_alloc | apply pw_below_drewN | apply below_drew1) | refine below_set ?_ (Aside0.out (by assumption)) | exact HB.out | exact Below.refl _ _ | exact pw_below_drewN (Below.refl _ _) _))); rintro e w15 ⟨v179, rfl, ho0, hb⟩; refine ⟨_, rfl, ?_⟩; have n0_ := Aside0.mk (Kd.R_lower ho0 (below_size (by repeat (first | (with_reducible first | exact HB.out | apply below_alloc | apply pw_below_drewN | apply below_drew1) | exact HB.out)))); have n1_ := Aside0.mk (below_step (by repeat (first | (with_reducible first | exact HB.out | apply below_alloc | apply pw_below_drewN | apply below_drew1) | exact HB.out)) hb); clear HB; have HO180 := n0_; have HB := n1_; clear n0_ n1_; (try clear hb); (try clear hb2); (try clear hk); (try clear hi); (try clear ho0)) | ((with_reducible refine gate_callee (f := 11) rfl ?_); refine goesL_ (some 26) rfl rfl Tryd.func11 (by kernel_rfl) rfl #[.string a0] rfl (by (try simp only [List.map_toArray, List.map_cons, List.map_nil]); first | done | rfl | (simp only [List.length_drop, List.length_take]; rfl)) ?_; (with_reducible refine (slotcoderef08_Tokens.calls k a0 t181 t182 _ A8.out).mono ?_); rintro e w16 ⟨v183, rfl, ho0, hb⟩; refine ⟨_, rfl, ?_⟩; have n0_ := Aside0.mk (Kd.R_below (by (with_reducible repeat (first | apply Kd.R_alloc | apply Kd.R_drewN | apply Kd.R_drew)); exact HO180.out) hb); have n1_ := Aside0.mk (Kd.R_lower ho0 (below_size (by repeat (first | (with_reducible first | exact HB.out | apply below_alloc | apply pw_below_drewN | apply below_drew1) | exact HB.out)))); have n2_ := Aside0.mk (below_step (by repeat (first | (with_reducible first | exact HB.out | apply below_alloc | apply pw_below_drewN | apply below_drew1) | exact HB.out)) hb); clear HO180; clear HB; have HO180 := n0_; have HO184 := n1_; have HB := n2_; clear n0_ n1_ n2_; (try clear hb); (try clear hb2); (try clear hk); (try clear hi); (try clear ho0)) | ((with_reducible refine gate_callee (f := 9) rfl ?_); refine goesL_ (some 31) rfl rfl Tryd.func9 (by kernel_rfl) rfl #[] rfl (by (try simp only [List.map_toArray, List.map_cons, List.map_nil]); first | done | rfl | (simp only [List.length_drop, List.length_take]; rfl)) ?_; (with_reducible refine (slotcodelaw08_alive.calls k  false _ A10.out ?sideL).mono ?_); (case sideL => exact LaidI.below HL.out (by repeat (first | (with_reducible first | exact HB.out | exact Below.refl _ _ | apply below_alloc | apply pw_below_drewN | apply below_drew1) | refine below_set ?_ (Aside0.out (by assumption)) | exact HB.out | exact Below.refl _ _ | exact pw_below_drewN (Below.refl _ _) _))); rintro e w17 ⟨rfl, hb⟩; refine ⟨_, rfl, ?_⟩; have n0_ := Aside0.mk (Kd.R_below (by (with_reducible repeat (first | apply Kd.R_alloc | apply Kd.R_drewN | apply Kd.R_drew)); exact HO180.out) hb); have n1_ := Aside0.mk (Kd.R_below (by (with_reducible repeat (first | apply Kd.R_alloc | apply Kd.R_drewN | apply Kd.R_drew)); exact HO184.out) hb); have n2_ := Aside0.mk (below_step (by repeat (first | (with_reducible first | exact HB.out | apply below_alloc | apply pw_below_drewN | apply below_drew1) | exact HB.out)) hb); clear HO180; clear HO184; clear HB; have HO180 := n0_; have HO184 := n1_; have HB := n2_; clear n0_ n1_ n2_; (try clear hb); (try clear hb2); (try clear hk); (try clear hi)))
        go_ret
        exact ⟨by first | rfl | (simp [errW_none, errW_some] <;> rfl) | (simp [*, errW_none, errW_some] <;> rfl), by repeat (first | (with_reducible first | exact HB.out | apply below_alloc | apply pw_below_drewN | apply below_drew1) | exact HB.out)⟩
    · rw [if_neg c9] at H
      have c9b0 : decide (0 ≤ t182) = false := decide_eq_false c9
      clear c9
      by_cases c18 : (t176.length : Int) = (t181.length : Int)
      · rw [if_pos c18] at H
        have c18b0 : ((t176.length : Int) == (t181.length : Int)) = true := beq_iff_eq.mpr c18
        have c18b1 : ((t176.length : Int) != (t181.length : Int)) = false := bne_eq_false_iff_eq.mpr c18
        have c18b2 : (t176.length == t181.length) = true := by first | simpa using c18 | (simp at c18 ⊢; omega)
        clear c18
        by_cases c19 : (wrap64 ((t176.length : Int) + 1)) = 0
        · rw [if_pos c19] at H
          exact absurd H (by simp)
        · rw [if_neg c19] at H
          have c19b0 : ((wrap64 ((t176.length : Int) + 1)) == 0) = false := beq_eq_false_iff_ne.mpr c19
          have c19b1 : ((wrap64 ((t176.length : Int) + 1)) != 0) = true := bne_iff_ne.mpr c19
          by_cases c20 : (wrap64 ((wrap64 ((t176.length : Int) - (Int.tmod (wrap64 (a1)) (wrap64 ((t176.length : Int) + 1))))) + 1)) = 0
          · rw [if_pos c20] at H
            exact absurd H (by simp)
          · rw [if_neg c20] at H
            have c20b0 : ((wrap64 ((wrap64 ((t176.length : Int) - (Int.tmod (wrap64 (a1)) (wrap64 ((t176.length : Int) + 1))))) + 1)) == 0) = false := beq_eq_false_iff_ne.mpr c20
            have c20b1 : ((wrap64 ((wrap64 ((t176.length : Int) - (Int.tmod (wrap64 (a1)) (wrap64 ((t176.length : Int) + 1))))) + 1)) != 0) = true := bne_iff_ne.mpr c20
            replace H := Option.bind_eq_some_iff.mp H
            obtain ⟨t186, A210, H⟩ := H
            replace H : (if t186 = true then (if 0 ≤ (Int.tmod (wrap64 (a1)) (wrap64 ((t176.length : Int) + 1))) then (if (Int.tmod (wrap64 (a1)) (wrap64 ((t176.length : Int) + 1))) ≤ (wrap64 ((Int.tmod (wrap64 (a1)) (wrap64 ((t176.length : Int) + 1))) + (Int.tmod (wrap64 (a2)) (wrap64 ((wrap64 ((t176.length : Int) - (Int.tmod (wrap64 (a1)) (wrap64 ((t176.length : Int) + 1))))) + 1))))) then (if (wrap64 ((Int.tmod (wrap64 (a1)) (wrap64 ((t176.length : Int) + 1))) + (Int.tmod (wrap64 (a2)) (wrap64 ((wrap64 ((t176.length : Int) - (Int.tmod (wrap64 (a1)) (wrap64 ((t176.length : Int) + 1))))) + 1))))) ≤ (t176.length : Int) then ((lex_Shape.f ((t176.take ((wrap64 ((Int.tmod (wrap64 (a1)) (wrap64 ((t176.length : Int) + 1))) + (Int.tmod (wrap64 (a2)) (wrap64 ((wrap64 ((t176.length : Int) - (Int.tmod (wrap64 (a1)) (wrap64 ((t176.length : Int) + 1))))) + 1))))) : Int).toNat).drop ((Int.tmod (wrap64 (a1)) (wrap64 ((t176.length : Int) + 1))) : Int).toNat)).bind fun t191 => (if (wrap64 ((Int.tmod (wrap64 (a1)) (wrap64 ((t176.length : Int) + 1))) + (Int.tmod (wrap64 (a2)) (wrap64 ((wrap64 ((t176.length : Int) - (Int.tmod (wrap64 (a1)) (wrap64 ((t176.length : Int) + 1))))) + 1))))) ≤ (t181.length : Int) then ((slotcoderef08_Shape.f k ((t181.take ((wrap64 ((Int.tmod (wrap64 (a1)) (wrap64 ((t176.length : Int) + 1))) + (Int.tmod (wrap64 (a2)) (wrap64 ((wrap64 ((t176.length : Int) - (Int.tmod (wrap64 (a1)) (wrap64 ((t176.length : Int) + 1))))) + 1))))) : Int).toNat).drop ((Int.tmod (wrap64 (a1)) (wrap64 ((t176.length : Int) + 1))) : Int).toNat)).bind fun t196 => (if t191.toList = t196.toList then ((lex_Words.f k ((t176.take ((wrap64 ((Int.tmod (wrap64 (a1)) (wrap64 ((t176.length : Int) + 1))) + (Int.tmod (wrap64 (a2)) (wrap64 ((wrap64 ((t176.length : Int) - (Int.tmod (wrap64 (a1)) (wrap64 ((t176.length : Int) + 1))))) + 1))))) : Int).toNat).drop ((Int.tmod (wrap64 (a1)) (wrap64 ((t176.length : Int) + 1))) : Int).toNat)).bind fun t201 => ((slotcoderef08_Words.f k ((t181.take ((wrap64 ((Int.tmod (wrap64 (a1)) (wrap64 ((t176.length : Int) + 1))) + (Int.tmod (wrap64 (a2)) (wrap64 ((wrap64 ((t176.length : Int) - (Int.tmod (wrap64 (a1)) (wrap64 ((t176.length : Int) + 1))))) + 1))))) : Int).toNat).drop ((Int.tmod (wrap64 (a1)) (wrap64 ((t176.length : Int) + 1))) : Int).toNat)).bind fun t208 => ((slices_Equal_string_string.f k t201 t208).bind fun t211 => (some t211)))) else (some false))) else (none))) else (none)) else (none)) else (none)) else (some false)) = some r := H
            have A21 := Aside0.mk A210
            clear A210
            by_cases c22 : t186 = true
            · subst c22
              have H1 : (if 0 ≤ (Int.tmod (wrap64 (a1)) (wrap64 ((t176.length : Int) + 1))) then (if (Int.tmod (wrap64 (a1)) (wrap64 ((t176.length : Int) + 1))) ≤ (wrap64 ((Int.tmod (wrap64 (a1)) (wrap64 ((t176.length : Int) + 1))) + (Int.tmod (wrap64 (a2)) (wrap64 ((wrap64 ((t176.length : Int) - (Int.tmod (wrap64 (a1)) (wrap64 ((t176.length : Int) + 1))))) + 1))))) then (if (wrap64 ((Int.tmod (wrap64 (a1)) (wrap64 ((t176.length : Int) + 1))) + (Int.tmod (wrap64 (a2)) (wrap64 ((wrap64 ((t176.length : Int) - (Int.tmod (wrap64 (a1)) (wrap64 ((t176.length : Int) + 1))))) + 1))))) ≤ (t176.length : Int) then ((lex_Shape.f ((t176.take ((wrap64 ((Int.tmod (wrap64 (a1)) (wrap64 ((t176.length : Int) + 1))) + (Int.tmod (wrap64 (a2)) (wrap64 ((wrap64 ((t176.length : Int) - (Int.tmod (wrap64 (a1)) (wrap64 ((t176.length : Int) + 1))))) + 1))))) : Int).toNat).drop ((Int.tmod (wrap64 (a1)) (wrap64 ((t176.length : Int) + 1))) : Int).toNat)).bind fun t191 => (if (wrap64 ((Int.tmod (wrap64 (a1)) (wrap64 ((t176.length : Int) + 1))) + (Int.tmod (wrap64 (a2)) (wrap64 ((wrap64 ((t176.length : Int) - (Int.tmod (wrap64 (a1)) (wrap64 ((t176.length : Int) + 1))))) + 1))))) ≤ (t181.length : Int) then ((slotcoderef08_Shape.f k ((t181.take ((wrap64 ((Int.tmod (wrap64 (a1)) (wrap64 ((t176.length : Int) + 1))) + (Int.tmod (wrap64 (a2)) (wrap64 ((wrap64 ((t176.length : Int) - (Int.tmod (wrap64 (a1)) (wrap64 ((t176.length : Int) + 1))))) + 1))))) : Int).toNat).drop ((Int.tmod (wrap64 (a1)) (wrap64 ((t176.length : Int) + 1))) : Int).toNat)).bind fun t196 => (if t191.toList = t196.toList then ((lex_Words.f k ((t176.take ((wrap64 ((Int.tmod (wrap64 (a1)) (wrap64 ((t176.length : Int) + 1))) + (Int.tmod (wrap64 (a2)) (wrap64 ((wrap64 ((t176.length : Int) - (Int.tmod (wrap64 (a1)) (wrap64 ((t176.length : Int) + 1))))) + 1))))) : Int).toNat).drop ((Int.tmod (wrap64 (a1)) (wrap64 ((t176.length : Int) + 1))) : Int).toNat)).bind fun t201 => ((slotcoderef08_Words.f k ((t181.take ((wrap64 ((Int.tmod (wrap64 (a1)) (wrap64 ((t176.length : Int) + 1))) + (Int.tmod (wrap64 (a2)) (wrap64 ((wrap64 ((t176.length : Int) - (Int.tmod (wrap64 (a1)) (wrap64 ((t176.length : Int) + 1))))) + 1))))) : Int).toNat).drop ((Int.tmod (wrap64 (a1)) (wrap64 ((t176.length : Int) + 1))) : Int).toNat)).bind fun t208 => ((slices_Equal_string_string.f k t201 t208).bind fun t211 => (some t211)))) else (some false))) else (none))) else (none)) else (none)) else (none)) = some r := by rw [if_pos rfl] at H; exact H
              clear H
              have H := H1
              clear H1
              obtain ⟨ji23, hji23⟩ : ∃ j_ : Int, (Int.tmod (wrap64 (a1)) (wrap64 ((t176.length : Int) + 1))) = j_ := ⟨_, rfl⟩
              replace H : (if 0 ≤ (ji23) then (if (ji23) ≤ (wrap64 ((ji23) + (Int.tmod (wrap64 (a2)) (wrap64 ((wrap64 ((t176.length : Int) - (ji23))) + 1))))) then (if (wrap64 ((ji23) + (Int.tmod (wrap64 (a2)) (wrap64 ((wrap64 ((t176.length : Int) - (ji23))) + 1))))) ≤ (t176.length : Int) then ((lex_Shape.f ((t176.take ((wrap64 ((ji23) + (Int.tmod (wrap64 (a2)) (wrap64 ((wrap64 ((t176.length : Int) - (ji23))) + 1))))) : Int).toNat).drop ((ji23) : Int).toNat)).bind fun t191 => (if (wrap64 ((ji23) + (Int.tmod (wrap64 (a2)) (wrap64 ((wrap64 ((t176.length : Int) - (ji23))) + 1))))) ≤ (t181.length : Int) then ((slotcoderef08_Shape.f k ((t181.take ((wrap64 ((ji23) + (Int.tmod (wrap64 (a2)) (wrap64 ((wrap64 ((t176.length : Int) - (ji23))) + 1))))) : Int).toNat).drop ((ji23) : Int).toNat)).bind fun t196 => (if t191.toList = t196.toList then ((lex_Words.f k ((t176.take ((wrap64 ((ji23) + (Int.tmod (wrap64 (a2)) (wrap64 ((wrap64 ((t176.length : Int) - (ji23))) + 1))))) : Int).toNat).drop ((ji23) : Int).toNat)).bind fun t201 => ((slotcoderef08_Words.f k ((t181.take ((wrap64 ((ji23) + (Int.tmod (wrap64 (a2)) (wrap64 ((wrap64 ((t176.length : Int) - (ji23))) + 1))))) : Int).toNat).drop ((ji23) : Int).toNat)).bind fun t208 => ((slices_Equal_string_string.f k t201 t208).bind fun t211 => (some t211)))) else (some false))) else (none))) else (none)) else (none)) else (none)) = some r := by first | (rw [hji23] at H; exact H) | (simp only [hji23] at H ⊢; exact H)
              (try rw [hji23] at c20b0)
              (try rw [hji23] at c20b1)
              (try rw [hji23] at c20)
              (try rw [hji23] at A7)
              (try rw [hji23] at A8)
              (try rw [hji23] at A21)
              by_cases c24 : 0 ≤ (ji23)
              · rw [if_pos c24] at H
                have c24b0 := eq_true c24
                have c24b1 : decide (0 ≤ (ji23)) = true := decide_eq_true c24
                clear c24
                by_cases c25 : (ji23) ≤ (wrap64 ((ji23) + (Int.tmod (wrap64 (a2)) (wrap64 ((wrap64 ((t176.length : Int) - (ji23))) + 1)))))
                · rw [if_pos c25] at H
                  have c25b0 := eq_true c25
                  have c25b1 : decide ((ji23) ≤ (wrap64 ((ji23) + (Int.tmod (wrap64 (a2)) (wrap64 ((wrap64 ((t176.length : Int) - (ji23))) + 1)))))) = true := decide_eq_true c25
                  by_cases c26 : (wrap64 ((ji23) + (Int.tmod (wrap64 (a2)) (wrap64 ((wrap64 ((t176.length : Int) - (ji23))) + 1))))) ≤ (t176.length : Int)
                  · rw [if_pos c26] at H
                    have c26b0 := eq_true c26
                    have c26b1 : decide ((wrap64 ((ji23) + (Int.tmod (wrap64 (a2)) (wrap64 ((wrap64 ((t176.length : Int) - (ji23))) + 1))))) ≤ (t176.length : Int)) = true := decide_eq_true c26
                    obtain ⟨y187, hy187⟩ : ∃ y_ : List (S31), y_ = ((t176.take ((wrap64 ((ji23) + (Int.tmod (wrap64 (a2)) (wrap64 ((wrap64 ((t176.length : Int) - (ji23))) + 1))))) : Int).toNat).drop ((ji23) : Int).toNat) := ⟨_, rfl⟩
                    replace H : ((lex_Shape.f y187).bind fun t191 => (if (wrap64 ((ji23) + (Int.tmod (wrap64 (a2)) (wrap64 ((wrap64 ((t176.length : Int) - (ji23))) + 1))))) ≤ (t181.length : Int) then ((slotcoderef08_Shape.f k ((t181.take ((wrap64 ((ji23) + (Int.tmod (wrap64 (a2)) (wrap64 ((wrap64 ((t176.length : Int) - (ji23))) + 1))))) : Int).toNat).drop ((ji23) : Int).toNat)).bind fun t196 => (if t191.toList = t196.toList then ((lex_Words.f k ((t176.take ((wrap64 ((ji23) + (Int.tmod (wrap64 (a2)) (wrap64 ((wrap64 ((t176.length : Int) - (ji23))) + 1))))) : Int).toNat).drop ((ji23) : Int).toNat)).bind fun t201 => ((slotcoderef08_Words.f k ((t181.take ((wrap64 ((ji23) + (Int.tmod (wrap64 (a2)) (wrap64 ((wrap64 ((t176.length : Int) - (ji23))) + 1))))) : Int).toNat).drop ((ji23) : Int).toNat)).bind fun t208 => ((slices_Equal_string_string.f k t201 t208).bind fun t211 => (some t211)))) else (some false))) else (none))) = some r := by first | (rw [hy187]; with_reducible exact H) | (have H2_ := (Option.bind_some _ _).symm.trans H; rw [hy187]; with_reducible exact H2_) | (have H2_ := (Option.bind_some _ _).symm.trans H; with_reducible exact H2_) | with_reducible exact H | (rw [hy187]; exact H) | exact H
                    have Ny187 := Aside0.mk hy187
                    clear hy187
                    replace H := Option.bind_eq_some_iff.mp H
                    obtain ⟨t191, A270, H⟩ := H
                    replace H : (if (wrap64 ((ji23) + (Int.tmod (wrap64 (a2)) (wrap64 ((wrap64 ((t176.length : Int) - (ji23))) + 1))))) ≤ (t181.length : Int) then ((slotcoderef08_Shape.f k ((t181.take ((wrap64 ((ji23) + (Int.tmod (wrap64 (a2)) (wrap64 ((wrap64 ((t176.length : Int) - (ji23))) + 1))))) : Int).toNat).drop ((ji23) : Int).toNat)).bind fun t196 => (if t191.toList = t196.toList then ((lex_Words.f k ((t176.take ((wrap64 ((ji23) + (Int.tmod (wrap64 (a2)) (wrap64 ((wrap64 ((t176.length : Int) - (ji23))) + 1))))) : Int).toNat).drop ((ji23) : Int).toNat)).bind fun t201 => ((slotcoderef08_Words.f k ((t181.take ((wrap64 ((ji23) + (Int.tmod (wrap64 (a2)) (wrap64 ((wrap64 ((t176.length : Int) - (ji23))) + 1))))) : Int).toNat).drop ((ji23) : Int).toNat)).bind fun t208 => ((slices_Equal_string_string.f k t201 t208).bind fun t211 => (some t211)))) else (some false))) else (none)) = some r := H
                    have A27 := Aside0.mk A270
                    clear A270
                    have c28b0 := eq_true (of_decide_eq_true (by first | (with_reducible assumption) | assumption) : 0 ≤ (ji23))
                    have c29b0 := eq_true (of_decide_eq_true (by first | (with_reducible assumption) | assumption) : (ji23) ≤ (wrap64 ((ji23) + (Int.tmod (wrap64 (a2)) (wrap64 ((wrap64 ((t176.length : Int) - (ji23))) + 1))))))
                    by_cases c30 : (wrap64 ((ji23) + (Int.tmod (wrap64 (a2)) (wrap64 ((wrap64 ((t176.length : Int) - (ji23))) + 1))))) ≤ (t181.length : Int)
                    · rw [if_pos c30] at H
                      have c30b0 := eq_true c30
                      have c30b1 : decide ((wrap64 ((ji23) + (Int.tmod (wrap64 (a2)) (wrap64 ((wrap64 ((t176.length : Int) - (ji23))) + 1))))) ≤ (t181.length : Int)) = true := decide_eq_true c30
                      obtain ⟨y192, hy192⟩ : ∃ y_ : List (S32), y_ = ((t181.take ((wrap64 ((ji23) + (Int.tmod (wrap64 (a2)) (wrap64 ((wrap64 ((t176.length : Int) - (ji23))) + 1))))) : Int).toNat).drop ((ji23) : Int).toNat) := ⟨_, rfl⟩
                      replace H : ((slotcoderef08_Shape.f k y192).bind fun t196 => (if t191.toList = t196.toList then ((lex_Words.f k ((t176.take ((wrap64 ((ji23) + (Int.tmod (wrap64 (a2)) (wrap64 ((wrap64 ((t176.length : Int) - (ji23))) + 1))))) : Int).toNat).drop ((ji23) : Int).toNat)).bind fun t201 => ((slotcoderef08_Words.f k ((t181.take ((wrap64 ((ji23) + (Int.tmod (wrap64 (a2)) (wrap64 ((wrap64 ((t176.length : Int) - (ji23))) + 1))))) : Int).toNat).drop ((ji23) : Int).toNat)).bind fun t208 => ((slices_Equal_string_string.f k t201 t208).bind fun t211 => (some t211)))) else (some false))) = some r := by first | (rw [hy192]; with_reducible exact H) | (have H2_ := (Option.bind_some _ _).symm.trans H; rw [hy192]; with_reducible exact H2_) | (have H2_ := (Option.bind_some _ _).symm.trans H; with_reducible exact H2_) | with_reducible exact H | (rw [hy192]; exact H) | exact H
                      have Ny192 := Aside0.mk hy192
                      clear hy192
                      replace H := Option.bind_eq_some_iff.mp H
                      obtain ⟨t196, A310, H⟩ := H
                      replace H : (if t191.toList = t196.toList then ((lex_Words.f k ((t176.take ((wrap64 ((ji23) + (Int.tmod (wrap64 (a2)) (wrap64 ((wrap64 ((t176.length : Int) - (ji23))) + 1))))) : Int).toNat).drop ((ji23) : Int).toNat)).bind fun t201 => ((slotcoderef08_Words.f k ((t181.take ((wrap64 ((ji23) + (Int.tmod (wrap64 (a2)) (wrap64 ((wrap64 ((t176.length : Int) - (ji23))) + 1))))) : Int).toNat).drop ((ji23) : Int).toNat)).bind fun t208 => ((slices_Equal_string_string.f k t201 t208).bind fun t211 => (some t211)))) else (some false)) = some r := H
                      have A31 := Aside0.mk A310
                      clear A310
                      by_cases c32 : t191.toList = t196.toList
                      · rw [if_pos c32] at H
                        have c32b0 : (t191.toList == t196.toList) = true := beq_iff_eq.mpr c32
                        have c32b1 : (t191.toList != t196.toList) = false := bne_eq_false_iff_eq.mpr c32
                        clear c32
                        have c33b0 := eq_true (of_decide_eq_true (by first | (with_reducible assumption) | assumption) : 0 ≤ (ji23))
                        have c34b0 := eq_true (of_decide_eq_true (by first | (with_reducible assumption) | assumption) : (ji23) ≤ (wrap64 ((ji23) + (Int.tmod (wrap64 (a2)) (wrap64 ((wrap64 ((t176.length : Int) - (ji23))) + 1))))))
                        have c35b0 := eq_true (of_decide_eq_true (by first | (with_reducible assumption) | assumption) : (wrap64 ((ji23) + (Int.tmod (wrap64 (a2)) (wrap64 ((wrap64 ((t176.length : Int) - (ji23))) + 1))))) ≤ (t176.length : Int))
                        obtain ⟨y197, hy197⟩ : ∃ y_ : List (S31), y_ = ((t176.take ((wrap64 ((ji23) + (Int.tmod (wrap64 (a2)) (wrap64 ((wrap64 ((t176.length : Int) - (ji23))) + 1))))) : Int).toNat).drop ((ji23) : Int).toNat) := ⟨_, rfl⟩
                        replace H : ((lex_Words.f k y197).bind fun t201 => ((slotcoderef08_Words.f k ((t181.take ((wrap64 ((ji23) + (Int.tmod (wrap64 (a2)) (wrap64 ((wrap64 ((t176.length : Int) - (ji23))) + 1))))) : Int).toNat).drop ((ji23) : Int).toNat)).bind fun t208 => ((slices_Equal_string_string.f k t201 t208).bind fun t211 => (some t211)))) = some r := by first | (rw [hy197]; with_reducible exact H) | (have H2_ := (Option.bind_some _ _).symm.trans H; rw [hy197]; with_reducible exact H2_) | (have H2_ := (Option.bind_some _ _).symm.trans H; with_reducible exact H2_) | with_reducible exact H | (rw [hy197]; exact H) | exact H
                        have Ny197 := Aside0.mk hy197
                        clear hy197
                        replace H := Option.bind_eq_some_iff.mp H
                        obtain ⟨t201, A360, H⟩ := H
                        replace H : ((slotcoderef08_Words.f k ((t181.take ((wrap64 ((ji23) + (Int.tmod (wrap64 (a2)) (wrap64 ((wrap64 ((t176.length : Int) - (ji23))) + 1))))) : Int).toNat).drop ((ji23) : Int).toNat)).bind fun t208 => ((slices_Equal_string_string.f k t201 t208).bind fun t211 => (some t211))) = some r := H
                        have A36 := Aside0.mk A360
                        clear A360
                        have c37b0 := eq_true (of_decide_eq_true (by first | (with_reducible assumption) | assumption) : 0 ≤ (ji23))
                        have c38b0 := eq_true (of_decide_eq_true (by first | (with_reducible assumption) | assumption) : (ji23) ≤ (wrap64 ((ji23) + (Int.tmod (wrap64 (a2)) (wrap64 ((wrap64 ((t176.length : Int) - (ji23))) + 1))))))
                        have c39b0 := eq_true (of_decide_eq_true (by first | (with_reducible assumption) | assumption) : (wrap64 ((ji23) + (Int.tmod (wrap64 (a2)) (wrap64 ((wrap64 ((t176.length : Int) - (ji23))) + 1))))) ≤ (t181.length : Int))
                        obtain ⟨y204, hy204⟩ : ∃ y_ : List (S32), y_ = ((t181.take ((wrap64 ((ji23) + (Int.tmod (wrap64 (a2)) (wrap64 ((wrap64 ((t176.length : Int) - (ji23))) + 1))))) : Int).toNat).drop ((ji23) : Int).toNat) := ⟨_, rfl⟩
                        replace H : ((slotcoderef08_Words.f k y204).bind fun t208 => ((slices_Equal_string_string.f k t201 t208).bind fun t211 => (some t211))) = some r := by first | (rw [hy204]; with_reducible exact H) | (have H2_ := (Option.bind_some _ _).symm.trans H; rw [hy204]; with_reducible exact H2_) | (have H2_ := (Option.bind_some _ _).symm.trans H; with_reducible exact H2_) | with_reducible exact H | (rw [hy204]; exact H) | exact H
                        have Ny204 := Aside0.mk hy204
                        clear hy204
                        replace H := Option.bind_eq_some_iff.mp H
                        obtain ⟨t208, A400, H⟩ := H
                        replace H : ((slices_Equal_string_string.f k t201 t208).bind fun t211 => (some t211)) = some r := H
                        have A40 := Aside0.mk A400
                        clear A400
                        replace H := Option.bind_eq_some_iff.mp H
                        obtain ⟨t211, A410, H⟩ := H
                        replace H : (some t211) = some r := H
                        have A41 := Aside0.mk A410
                        clear A410
                        obtain rfl := Option.some.inj H
                        go_enter Tryd.func4, Tryd.ntmps4
                        try go_wp2_with (first | ((with_reducible refine gate_callee (f := 10) rfl ?_); refine goesL_ (some 20) rfl rfl Tryd.func10 (by kernel_rfl) rfl #[.string a0] rfl (by (try simp only [List.map_toArray, List.map_cons, List.map_nil]); first | done | rfl | (simp only [List.length_drop, List.length_take]; rfl)) ?_; (with_reducible refine (lex_Tokens.calls a0 t176 t177 t178 _ A7.out ?sideL).mono ?_); (case sideL => exact LaidI.below HL.out (by repeat (first | (with_reducible first | exact HB.out | exact Below.refl _ _ | apply below_alloc | apply pw_below_drewN | apply below_drew1) | refine below_set ?_ (Aside0.out (by assumption)) | exact HB.out | exact Below.refl _ _ | exact pw_below_drewN (Below.refl _ _) _))); rintro e w42 ⟨v179, rfl, ho0, hb⟩; refine ⟨_, rfl, ?_⟩; have n0_ := Aside0.mk (Kd.R_lower ho0 (below_size (by repeat (first | (with_reducible first | exact HB.out | apply below_alloc | apply pw_below_drewN | apply below_drew1) | exact HB.out)))); have n1_ := Aside0.mk (below_step (by repeat (first | (with_reducible first | exact HB.out | apply below_alloc | apply pw_below_drewN | apply below_drew1) | exact HB.out)) hb); clear HB; have HO180 := n0_; have HB := n1_; clear n0_ n1_; (try clear hb); (try clear hb2); (try clear hk); (try clear hi); (try clear ho0)) | ((with_reducible refine gate_callee (f := 11) rfl ?_); refine goesL_ (some 26) rfl rfl Tryd.func11 (by kernel_rfl) rfl #[.string a0] rfl (by (try simp only [List.map_toArray, List.map_cons, List.map_nil]); first | done | rfl | (simp only [List.length_drop, List.length_take]; rfl)) ?_; (with_reducible refine (slotcoderef08_Tokens.calls k a0 t181 t182 _ A8.out).mono ?_); rintro e w43 ⟨v183, rfl, ho0, hb⟩; refine ⟨_, rfl, ?_⟩; have n0_ := Aside0.mk (Kd.R_below (by (with_reducible repeat (first | apply Kd.R_alloc | apply Kd.R_drewN | apply Kd.R_drew)); exact HO180.out) hb); have n1_ := Aside0.mk (Kd.R_lower ho0 (below_size (by repeat (first | (with_reducible first | exact HB.out | apply below_alloc | apply pw_below_drewN | apply below_drew1) | exact HB.out)))); have n2_ := Aside0.mk (below_step (by repeat (first | (with_reducible first | exact HB.out | apply below_alloc | apply pw_below_drewN | apply below_drew1) | exact HB.out)) hb); clear HO180; clear HB; have HO180 := n0_; have HO184 := n1_; have HB := n2_; clear n0_ n1_ n2_; (try clear hb); (try clear hb2); (try clear hk); (try clear hi); (try clear ho0); obtain ⟨Ao44, co44, eo44⟩ := Kd.R_slice HO180.out; subst eo44; obtain ⟨Ao45, co45, eo45⟩ := Kd.R_slice HO184.out; subst eo45))
                        have n0_ := Aside0.mk (Kd.R_drew HO180.out)
                        have n1_ := Aside0.mk (Kd.R_drew HO184.out)
                        have n2_ := Aside0.mk (below_drew1 HB.out)
                        clear HO180
                        clear HO184
                        clear HB
                        have HO180 := n0_
                        have HO184 := n1_
                        have HB := n2_
                        clear n0_ n1_ n2_
                        refine start_ (n := 28) (S := fun w' => True) (ds := []) #[false, false, false, false, false, false, false, false, false, false, false, false, false, false, false, false, false, false, false, false, false, false, false, false, false, false, false, false] (by kernel_rfl) rfl rfl trivial (fun hHeld => ?_); refine with_tabW slotcodelaw08_LexShapes.tab11 slotcodelaw08_LexShapes.bits11 (fun HT_ HW_ => ?_)
                        generalize w43.drew = w46 at HO180 HO184 HB hHeld ⊢
                        refine one_ (i := 0) (N := some 57) #[true, false, false, false, false, false, false, false, false, false, false, false, false, false, false, false, false, false, false, false, false, false, false, false, false, false, false, false] rfl rfl (one_of HT_.out (by kernel_rfl)) (by decide) (fun K hK => ?_)
                        refine goes_ Tryd.func9 (by kernel_rfl) rfl #[] (by rfl) rfl rfl (by (try simp only [List.map_toArray, List.map_cons, List.map_nil]); first | done | rfl | (simp only [List.length_drop, List.length_take]; rfl)) ?_
                        with_reducible refine (slotcodelaw08_alive.calls k  true _ A21.out ?sideL).mono ?_
                        case sideL => exact LaidI.below HL.out (by repeat (first | (with_reducible first | exact HB.out | exact Below.refl _ _ | apply below_alloc | apply pw_below_drewN | apply below_drew1) | refine below_set ?_ (Aside0.out (by assumption)) | exact HB.out | exact Below.refl _ _ | exact pw_below_drewN (Below.refl _ _) _))
                        rintro e w47 ⟨rfl, hb⟩
                        refine ⟨_, rfl, ?_⟩
                        have n0_ := Aside0.mk (Kd.R_below (by (with_reducible repeat (first | apply Kd.R_alloc | apply Kd.R_drewN | apply Kd.R_drew)); exact HO180.out) hb)
                        have n1_ := Aside0.mk (Kd.R_below (by (with_reducible repeat (first | apply Kd.R_alloc | apply Kd.R_drewN | apply Kd.R_drew)); exact HO184.out) hb)
                        have n2_ := Aside0.mk (below_step (by repeat (first | (with_reducible first | exact HB.out | apply below_alloc | apply pw_below_drewN | apply below_drew1) | exact HB.out)) hb)
                        clear HO180
                        clear HO184
                        clear HB
                        have HO180 := n0_
                        have HO184 := n1_
                        have HB := n2_
                        clear n0_ n1_ n2_
                        (try clear hb)
                        (try clear hb2)
                        (try clear hk)
                        (try clear hi)
                        have q48 : ((wrap64 ((ji23) + (Int.tmod (wrap64 (a2)) (wrap64 ((wrap64 ((t176.length : Int) - (ji23))) + 1))))) : Int) ≤ ((t176.length : Int) : Int) := of_decide_eq_true (by first | (with_reducible assumption) | assumption)
                        obtain ⟨i048, hi048, _, hsz48, _⟩ := info_parts info31
                        have hroom48 : t176.length ≤ co44 := (Kd.R_reads' HO180.out).2.1
                        have hC48 : Kd.C k31 _ Ao44 t176.length t176 := (Kd.R_reads' HO180.out).2.2
                        have ql48 : ((ji23) : Int) ≤ ((wrap64 ((ji23) + (Int.tmod (wrap64 (a2)) (wrap64 ((wrap64 ((t176.length : Int) - (ji23))) + 1))))) : Int) := of_decide_eq_true (by first | (with_reducible assumption) | assumption)
                        have q048 : (0 : Int) ≤ ((ji23) : Int) := of_decide_eq_true (by first | (with_reducible assumption) | assumption)
                        have hcut48 := cut_mid (P := Tryd.prog) 23 31 .i64 .i64 Tryd.underlying23 hi048 2 hsz48 Ao44 t176.length co44 (ji23) (wrap64 ((ji23) + (Int.tmod (wrap64 (a2)) (wrap64 ((wrap64 ((t176.length : Int) - (ji23))) + 1))))) q048 ql48 q48 hroom48
                        have hr48 := Kd.C_mid (lo := ((ji23) : Int).toNat) (hi := ((wrap64 ((ji23) + (Int.tmod (wrap64 (a2)) (wrap64 ((wrap64 ((t176.length : Int) - (ji23))) + 1))))) : Int).toNat) (c := co44) hC48 (by omega) (by omega) hroom48
                        obtain ⟨A48, hA48⟩ : ∃ A1, A1 = (if co44 = ((ji23) : Int).toNat then Ao44 else (Ao44 : Option Addr).map (·.add (((ji23) : Int).toNat * 2))) := ⟨_, rfl⟩
                        obtain ⟨c48, hc48⟩ : ∃ c1, c1 = co44 - ((ji23) : Int).toNat := ⟨_, rfl⟩
                        have hy48 : y187.length = ((wrap64 ((ji23) + (Int.tmod (wrap64 (a2)) (wrap64 ((wrap64 ((t176.length : Int) - (ji23))) + 1))))) : Int).toNat - ((ji23) : Int).toNat := (by rw [Ny187.out, List.length_drop, List.length_take] <;> omega)
                        rw [show ((t176).take ((wrap64 ((ji23) + (Int.tmod (wrap64 (a2)) (wrap64 ((wrap64 ((t176.length : Int) - (ji23))) + 1))))) : Int).toNat).drop ((ji23) : Int).toNat = y187 from Ny187.out.symm] at hr48
                        replace hr48 : Kd.C k31 _ A48 y187.length y187 := (by rw [hA48]; exact hr48)
                        rw [← hy48, ← hA48, ← hc48] at hcut48
                        have HR190 := Aside0.mk hr48
                        have HC190 := Aside0.mk (show y187.length ≤ c48 from by rw [hy48, hc48]; exact Nat.sub_le_sub_right (Nat.le_trans (by omega) hroom48) _)
                        clear hr48 hC48 hroom48 hi048 hsz48 hc48
                        have KY48 := Aside0.mk hy48
                        have KA48 := Aside0.mk hA48
                        clear hy48 hA48
                        have KL48 := Aside0.mk (show ((wrap64 ((ji23) + (Int.tmod (wrap64 (a2)) (wrap64 ((wrap64 ((t176.length : Int) - (ji23))) + 1))))) : Int).toNat ≤ t176.length from by omega)
                        have KM48 := Aside0.mk (show ((ji23) : Int).toNat ≤ ((wrap64 ((ji23) + (Int.tmod (wrap64 (a2)) (wrap64 ((wrap64 ((t176.length : Int) - (ji23))) + 1))))) : Int).toNat from by omega)
                        replace q48 := eq_true q48
                        have q50 : ((wrap64 ((ji23) + (Int.tmod (wrap64 (a2)) (wrap64 ((wrap64 ((t176.length : Int) - (ji23))) + 1))))) : Int) ≤ ((t181.length : Int) : Int) := of_decide_eq_true (by first | (with_reducible assumption) | assumption)
                        obtain ⟨i050, hi050, _, hsz50, _⟩ := info_parts info32
                        have hroom50 : t181.length ≤ co45 := (Kd.R_reads' HO184.out).2.1
                        have ql50 : ((ji23) : Int) ≤ ((wrap64 ((ji23) + (Int.tmod (wrap64 (a2)) (wrap64 ((wrap64 ((t176.length : Int) - (ji23))) + 1))))) : Int) := of_decide_eq_true (by first | (with_reducible assumption) | assumption)
                        have q050 : (0 : Int) ≤ ((ji23) : Int) := of_decide_eq_true (by first | (with_reducible assumption) | assumption)
                        have hcut50 := cut_mid (P := Tryd.prog) 27 32 .i64 .i64 Tryd.underlying27 hi050 2 hsz50 Ao45 t181.length co45 (ji23) (wrap64 ((ji23) + (Int.tmod (wrap64 (a2)) (wrap64 ((wrap64 ((t176.length : Int) - (ji23))) + 1))))) q050 ql50 q50 hroom50
                        obtain ⟨A50, hA50⟩ : ∃ A1, A1 = (if co45 = ((ji23) : Int).toNat then Ao45 else (Ao45 : Option Addr).map (·.add (((ji23) : Int).toNat * 2))) := ⟨_, rfl⟩
                        obtain ⟨c50, hc50⟩ : ∃ c1, c1 = co45 - ((ji23) : Int).toNat := ⟨_, rfl⟩
                        have hy50 : y192.length = ((wrap64 ((ji23) + (Int.tmod (wrap64 (a2)) (wrap64 ((wrap64 ((t176.length : Int) - (ji23))) + 1))))) : Int).toNat - ((ji23) : Int).toNat := (by rw [Ny192.out, List.length_drop, List.length_take] <;> omega)
                        rw [← hy50, ← hA50, ← hc50] at hcut50
                        have Xhroom50 := Aside0.mk hroom50
                        have XhA50 := Aside0.mk hA50
                        have Xhc50 := Aside0.mk hc50
                        have Xhy50 := Aside0.mk hy50
                        have Xq50 := Aside0.mk q50
                        clear hroom50 hA50 hc50 hy50 hi050 hsz50
                        replace q50 := eq_true q50
                        refine hK.out _ _ trivial (fun hHeld => ?_)
                        clear hK K
                        refine norm_ (a' := ?_) ?_ ?_
                        rotate_left
                        · show Act.put _ (some 57) _ = _
                          simp only [Act.put, List.setIfInBounds_toArray, List.set_cons_zero, List.set_cons_succ, i64_w, i32_w]
                          rfl
                        refine pure_ (i := 1) (N := some 58) (v := ?_) (a' := ?_) #[true, true, false, false, false, false, false, false, false, false, false, false, false, false, false, false, false, false, false, false, false, false, false, false, false, false, false, false] rfl rfl (any_of HT_.out (by kernel_rfl)) (fun _ _ _ h => h) (Or.inl ⟨by rfl, ?_⟩) ?_ ?_
                        rotate_left
                        · intro w'
                          go_simp
                          with_reducible rfl
                        rotate_left
                        · simp only [Act.put, List.setIfInBounds_toArray, List.set_cons_zero, List.set_cons_succ, i64_w, i32_w]
                          rfl
                        refine pure_ (i := 2) (N := some 59) (v := ?_) (a' := ?_) #[true, true, true, false, false, false, false, false, false, false, false, false, false, false, false, false, false, false, false, false, false, false, false, false, false, false, false, false] rfl rfl (any_of HT_.out (by kernel_rfl)) (fun _ _ _ h => h) (Or.inl ⟨by rfl, ?_⟩) ?_ ?_
                        rotate_left
                        · intro w'
                          go_simp
                          with_reducible rfl
                        rotate_left
                        · simp only [Act.put, List.setIfInBounds_toArray, List.set_cons_zero, List.set_cons_succ, i64_w, i32_w]
                          rfl
                        refine pure_ (i := 3) (N := some 60) (v := ?_) (a' := ?_) #[true, true, true, true, false, false, false, false, false, false, false, false, false, false, false, false, false, false, false, false, false, false, false, false, false, false, false, false] rfl rfl (any_of HT_.out (by kernel_rfl)) (fun _ _ _ h => h) (Or.inl ⟨by rfl, ?_⟩) ?_ ?_
                        rotate_left
                        · intro w'
                          go_simp
                          with_reducible rfl
                        rotate_left
                        · simp only [Act.put, List.setIfInBounds_toArray, List.set_cons_zero, List.set_cons_succ, i64_w, i32_w]
                          rfl
                        refine pure_ (i := 4) (N := some 61) (v := ?_) (a' := ?_) #[true, true, true, true, true, false, false, false, false, false, false, false, false, false, false, false, false, false, false, false, false, false, false, false, false, false, false, false] rfl rfl (any_of HT_.out (by kernel_rfl)) (fun _ _ _ h => h) (Or.inl ⟨by rfl, ?_⟩) ?_ ?_
                        rotate_left
                        · intro w'
                          go_simp
                          with_reducible rfl
                        rotate_left
                        · simp only [Act.put, List.setIfInBounds_toArray, List.set_cons_zero, List.set_cons_succ, i64_w, i32_w]
                          rfl
                        refine pure_ (i := 5) (N := some 62) (v := ?_) (a' := ?_) #[true, true, true, true, true, true, false, false, false, false, false, false, false, false, false, false, false, false, false, false, false, false, false, false, false, false, false, false] rfl rfl (any_of HT_.out (by kernel_rfl)) (fun _ _ _ h => h) (Or.inl ⟨by rfl, ?_⟩) ?_ ?_
                        rotate_left
                        · intro w'
                          go_simp
                          with_reducible rfl
                        rotate_left
                        · simp only [Act.put, List.setIfInBounds_toArray, List.set_cons_zero, List.set_cons_succ, i64_w, i32_w]
                          rfl
                        refine pure_ (i := 7) (N := some 64) (v := ?_) (a' := ?_) #[true, true, true, true, true, true, false, true, false, false, false, false, false, false, false, false, false, false, false, false, false, false, false, false, false, false, false, false] rfl rfl (any_of HT_.out (by kernel_rfl)) (fun _ _ _ h => h) (Or.inl ⟨by rfl, ?_⟩) ?_ ?_
                        rotate_left
                        · intro w'
                          go_simp
                          with_reducible rfl
                        rotate_left
                        · simp only [Act.put, List.setIfInBounds_toArray, List.set_cons_zero, List.set_cons_succ, i64_w, i32_w]
                          rfl
                        refine pure_ (i := 8) (N := some 65) (v := ?_) (a' := ?_) #[true, true, true, true, true, true, false, true, true, false, false, false, false, false, false, false, false, false, false, false, false, false, false, false, false, false, false, false] rfl rfl (any_of HT_.out (by kernel_rfl)) (fun _ _ _ h => h) (Or.inl ⟨by rfl, ?_⟩) ?_ ?_
                        rotate_left
                        · intro w'
                          go_simp
                          with_reducible rfl
                        rotate_left
                        · simp only [Act.put, List.setIfInBounds_toArray, List.set_cons_zero, List.set_cons_succ, i64_w, i32_w]
                          rfl
                        refine pure_ (i := 9) (N := some 66) (v := ?_) (a' := ?_) #[true, true, true, true, true, true, false, true, true, true, false, false, false, false, false, false, false, false, false, false, false, false, false, false, false, false, false, false] rfl rfl (any_of HT_.out (by kernel_rfl)) (fun _ _ _ h => h) (Or.inl ⟨by rfl, ?_⟩) ?_ ?_
                        rotate_left
                        · intro w'
                          go_simp
                          with_reducible rfl
                        rotate_left
                        · simp only [Act.put, List.setIfInBounds_toArray, List.set_cons_zero, List.set_cons_succ, i64_w, i32_w]
                          rfl
                        refine pure_ (i := 10) (N := some 67) (v := ?_) (a' := ?_) #[true, true, true, true, true, true, false, true, true, true, true, false, false, false, false, false, false, false, false, false, false, false, false, false, false, false, false, false] rfl rfl (any_of HT_.out (by kernel_rfl)) (fun _ _ _ h => h) (Or.inl ⟨by rfl, ?_⟩) ?_ ?_
                        rotate_left
                        · intro w'
                          go_simp
                          with_reducible rfl
                        rotate_left
                        · simp only [Act.put, List.setIfInBounds_toArray, List.set_cons_zero, List.set_cons_succ, i64_w, i32_w]
                          rfl
                        refine one_ (i := 6) (N := some 63) #[true, true, true, true, true, true, true, true, true, true, true, false, false, false, false, false, false, false, false, false, false, false, false, false, false, false, false, false] rfl rfl (one_of HT_.out (by kernel_rfl)) (by decide) (fun K hK => ?_)
                        refine goes_ Tryd.func12 (by kernel_rfl) rfl #[.slice A48 y187.length c48] (by rfl) rfl rfl (by (try simp only [List.map_toArray, List.map_cons, List.map_nil]); first | done | rfl | (simp only [List.length_drop, List.length_take]; rfl)) ?_
                        with_reducible refine (lex_Shape.calls _ _ y187 t191 _ ?side1 ?side2 A27.out ?sideL).mono ?_
                        case sideL => exact LaidI.below HL.out (by repeat (first | (with_reducible first | exact HB.out | exact Below.refl _ _ | apply below_alloc | apply pw_below_drewN | apply below_drew1) | refine below_set ?_ (Aside0.out (by assumption)) | exact HB.out | exact Below.refl _ _ | exact pw_below_drewN (Below.refl _ _) _))
                        (case side1 => repeat (first | exact (by repeat (first | (with_reducible exact HR190.out) | (with_reducible refine Kd.C_alloc ?_ _) | (with_reducible refine Kd.C_drewN ?_ _) | (with_reducible refine Kd.C_drew ?_) | exact HR190.out)) | (with_reducible refine Kd.C_alloc ?_ _) | (with_reducible refine Kd.C_drewN ?_ _) | (with_reducible refine Kd.C_drew ?_)))
                        (case side2 => exact HC190.out)
                        rintro e w49 ⟨rfl, hb⟩
                        refine ⟨_, rfl, ?_⟩
                        have n0_ := Aside0.mk (Kd.R_below (by (with_reducible repeat (first | apply Kd.R_alloc | apply Kd.R_drewN | apply Kd.R_drew)); exact HO180.out) hb)
                        have n1_ := Aside0.mk (Kd.R_below (by (with_reducible repeat (first | apply Kd.R_alloc | apply Kd.R_drewN | apply Kd.R_drew)); exact HO184.out) hb)
                        have n2_ := Aside0.mk (Kd.C_below (by repeat (first | (with_reducible exact HR190.out) | (with_reducible refine Kd.C_alloc ?_ _) | (with_reducible refine Kd.C_drewN ?_ _) | (with_reducible refine Kd.C_drew ?_) | exact HR190.out)) hb)
                        have n3_ := Aside0.mk (below_step (by repeat (first | (with_reducible first | exact HB.out | apply below_alloc | apply pw_below_drewN | apply below_drew1) | exact HB.out)) hb)
                        clear HO180
                        clear HO184
                        clear HR190
                        clear HB
                        have HO180 := n0_
                        have HO184 := n1_
                        have HR190 := n2_
                        have HB := n3_
                        clear n0_ n1_ n2_ n3_
                        (try clear hb)
                        (try clear hb2)
                        (try clear hk)
                        (try clear hi)
                        have hroom50 := Xhroom50.out
                        have hA50 := XhA50.out
                        have hc50 := Xhc50.out
                        have hy50 := Xhy50.out
                        have q50_ := Xq50.out
                        have hC50 : Kd.C k32 _ Ao45 t181.length t181 := (Kd.R_reads' HO184.out).2.2
                        have hr50 := Kd.C_mid (lo := ((ji23) : Int).toNat) (hi := ((wrap64 ((ji23) + (Int.tmod (wrap64 (a2)) (wrap64 ((wrap64 ((t176.length : Int) - (ji23))) + 1))))) : Int).toNat) (c := co45) hC50 (by omega) (by omega) hroom50
                        rw [show ((t181).take ((wrap64 ((ji23) + (Int.tmod (wrap64 (a2)) (wrap64 ((wrap64 ((t176.length : Int) - (ji23))) + 1))))) : Int).toNat).drop ((ji23) : Int).toNat = y192 from Ny192.out.symm] at hr50
                        replace hr50 : Kd.C k32 _ A50 y192.length y192 := (by rw [hA50]; exact hr50)
                        have HR195 := Aside0.mk hr50
                        have HC195 := Aside0.mk (show y192.length ≤ c50 from by rw [hy50, hc50]; exact Nat.sub_le_sub_right (Nat.le_trans (by omega) hroom50) _)
                        clear hr50 hC50 hroom50 hc50
                        have KY50 := Aside0.mk hy50
                        have KA50 := Aside0.mk hA50
                        clear hy50 hA50
                        have KL50 := Aside0.mk (show ((wrap64 ((ji23) + (Int.tmod (wrap64 (a2)) (wrap64 ((wrap64 ((t176.length : Int) - (ji23))) + 1))))) : Int).toNat ≤ t181.length from by omega)
                        have KM50 := Aside0.mk (show ((ji23) : Int).toNat ≤ ((wrap64 ((ji23) + (Int.tmod (wrap64 (a2)) (wrap64 ((wrap64 ((t176.length : Int) - (ji23))) + 1))))) : Int).toNat from by omega)
                        clear q50_
                        refine hK.out _ _ trivial (fun hHeld => ?_)
                        clear hK K
                        refine norm_ (a' := ?_) ?_ ?_
                        rotate_left
                        · show Act.put _ (some 63) _ = _
                          simp only [Act.put, List.setIfInBounds_toArray, List.set_cons_zero, List.set_cons_succ, i64_w, i32_w]
                          rfl
                        refine one_ (i := 11) (N := some 68) #[true, true, true, true, true, true, true, true, true, true, true, true, false, false, false, false, false, false, false, false, false, false, false, false, false, false, false, false] rfl rfl (one_of HT_.out (by kernel_rfl)) (by decide) (fun K hK => ?_)
                        refine goes_ Tryd.func13 (by kernel_rfl) rfl #[.slice A50 y192.length c50] (by rfl) rfl rfl (by (try simp only [List.map_toArray, List.map_cons, List.map_nil]); first | done | rfl | (simp only [List.length_drop, List.length_take]; rfl)) ?_
                        with_reducible refine (slotcoderef08_Shape.calls k _ _ y192 t196 _ ?side1 ?side2 A31.out).mono ?_
                        (case side1 => repeat (first | exact (by repeat (first | (with_reducible exact HR195.out) | (with_reducible refine Kd.C_alloc ?_ _) | (with_reducible refine Kd.C_drewN ?_ _) | (with_reducible refine Kd.C_drew ?_) | exact HR195.out)) | (with_reducible refine Kd.C_alloc ?_ _) | (with_reducible refine Kd.C_drewN ?_ _) | (with_reducible refine Kd.C_drew ?_)))
                        (case side2 => exact HC195.out)
                        rintro e w51 ⟨rfl, hb⟩
                        refine ⟨_, rfl, ?_⟩
                        have n0_ := Aside0.mk (Kd.R_below (by (with_reducible repeat (first | apply Kd.R_alloc | apply Kd.R_drewN | apply Kd.R_drew)); exact HO180.out) hb)
                        have n1_ := Aside0.mk (Kd.R_below (by (with_reducible repeat (first | apply Kd.R_alloc | apply Kd.R_drewN | apply Kd.R_drew)); exact HO184.out) hb)
                        have n2_ := Aside0.mk (Kd.C_below (by repeat (first | (with_reducible exact HR190.out) | (with_reducible refine Kd.C_alloc ?_ _) | (with_reducible refine Kd.C_drewN ?_ _) | (with_reducible refine Kd.C_drew ?_) | exact HR190.out)) hb)
                        have n3_ := Aside0.mk (Kd.C_below (by repeat (first | (with_reducible exact HR195.out) | (with_reducible refine Kd.C_alloc ?_ _) | (with_reducible refine Kd.C_drewN ?_ _) | (with_reducible refine Kd.C_drew ?_) | exact HR195.out)) hb)
                        have n4_ := Aside0.mk (below_step (by repeat (first | (with_reducible first | exact HB.out | apply below_alloc | apply pw_below_drewN | apply below_drew1) | exact HB.out)) hb)
                        clear HO180
                        clear HO184
                        clear HR190
                        clear HR195
                        clear HB
                        have HO180 := n0_
                        have HO184 := n1_
                        have HR190 := n2_
                        have HR195 := n3_
                        have HB := n4_
                        clear n0_ n1_ n2_ n3_ n4_
                        (try clear hb)
                        (try clear hb2)
                        (try clear hk)
                        (try clear hi)
                        (try clear hcut48)
                        have q52 : ((wrap64 ((ji23) + (Int.tmod (wrap64 (a2)) (wrap64 ((wrap64 ((t176.length : Int) - (ji23))) + 1))))) : Int) ≤ ((t176.length : Int) : Int) := of_decide_eq_true (by first | (with_reducible assumption) | assumption)
                        obtain ⟨i052, hi052, _, hsz52, _⟩ := info_parts info31
                        have hroom52 : t176.length ≤ co44 := (Kd.R_reads' HO180.out).2.1
                        have hC52 : Kd.C k31 _ Ao44 t176.length t176 := (Kd.R_reads' HO180.out).2.2
                        have ql52 : ((ji23) : Int) ≤ ((wrap64 ((ji23) + (Int.tmod (wrap64 (a2)) (wrap64 ((wrap64 ((t176.length : Int) - (ji23))) + 1))))) : Int) := of_decide_eq_true (by first | (with_reducible assumption) | assumption)
                        have q052 : (0 : Int) ≤ ((ji23) : Int) := of_decide_eq_true (by first | (with_reducible assumption) | assumption)
                        have hcut52 := cut_mid (P := Tryd.prog) 23 31 .i64 .i64 Tryd.underlying23 hi052 2 hsz52 Ao44 t176.length co44 (ji23) (wrap64 ((ji23) + (Int.tmod (wrap64 (a2)) (wrap64 ((wrap64 ((t176.length : Int) - (ji23))) + 1))))) q052 ql52 q52 hroom52
                        have hr52 := Kd.C_mid (lo := ((ji23) : Int).toNat) (hi := ((wrap64 ((ji23) + (Int.tmod (wrap64 (a2)) (wrap64 ((wrap64 ((t176.length : Int) - (ji23))) + 1))))) : Int).toNat) (c := co44) hC52 (by omega) (by omega) hroom52
                        obtain ⟨A52, hA52⟩ : ∃ A1, A1 = (if co44 = ((ji23) : Int).toNat then Ao44 else (Ao44 : Option Addr).map (·.add (((ji23) : Int).toNat * 2))) := ⟨_, rfl⟩
                        obtain ⟨c52, hc52⟩ : ∃ c1, c1 = co44 - ((ji23) : Int).toNat := ⟨_, rfl⟩
                        have hy52 : y197.length = ((wrap64 ((ji23) + (Int.tmod (wrap64 (a2)) (wrap64 ((wrap64 ((t176.length : Int) - (ji23))) + 1))))) : Int).toNat - ((ji23) : Int).toNat := (by rw [Ny197.out, List.length_drop, List.length_take] <;> omega)
                        rw [show ((t176).take ((wrap64 ((ji23) + (Int.tmod (wrap64 (a2)) (wrap64 ((wrap64 ((t176.length : Int) - (ji23))) + 1))))) : Int).toNat).drop ((ji23) : Int).toNat = y197 from Ny197.out.symm] at hr52
                        replace hr52 : Kd.C k31 _ A52 y197.length y197 := (by rw [hA52]; exact hr52)
                        rw [← hy52, ← hA52, ← hc52] at hcut52
                        have HR200 := Aside0.mk hr52
                        have HC200 := Aside0.mk (show y197.length ≤ c52 from by rw [hy52, hc52]; exact Nat.sub_le_sub_right (Nat.le_trans (by omega) hroom52) _)
                        clear hr52 hC52 hroom52 hi052 hsz52 hc52
                        have KY52 := Aside0.mk hy52
                        have KA52 := Aside0.mk hA52
                        clear hy52 hA52
                        have KL52 := Aside0.mk (show ((wrap64 ((ji23) + (Int.tmod (wrap64 (a2)) (wrap64 ((wrap64 ((t176.length : Int) - (ji23))) + 1))))) : Int).toNat ≤ t176.length from by omega)
                        have KM52 := Aside0.mk (show ((ji23) : Int).toNat ≤ ((wrap64 ((ji23) + (Int.tmod (wrap64 (a2)) (wrap64 ((wrap64 ((t176.length : Int) - (ji23))) + 1))))) : Int).toNat from by omega)
                        replace q52 := eq_true q52
                        (try clear hcut50)
                        have q54 : ((wrap64 ((ji23) + (Int.tmod (wrap64 (a2)) (wrap64 ((wrap64 ((t176.length : Int) - (ji23))) + 1))))) : Int) ≤ ((t181.length : Int) : Int) := of_decide_eq_true (by first | (with_reducible assumption) | assumption)
                        obtain ⟨i054, hi054, _, hsz54, _⟩ := info_parts info32
                        have hroom54 : t181.length ≤ co45 := (Kd.R_reads' HO184.out).2.1
                        have ql54 : ((ji23) : Int) ≤ ((wrap64 ((ji23) + (Int.tmod (wrap64 (a2)) (wrap64 ((wrap64 ((t176.length : Int) - (ji23))) + 1))))) : Int) := of_decide_eq_true (by first | (with_reducible assumption) | assumption)
                        have q054 : (0 : Int) ≤ ((ji23) : Int) := of_decide_eq_true (by first | (with_reducible assumption) | assumption)
                        have hcut54 := cut_mid (P := Tryd.prog) 27 32 .i64 .i64 Tryd.underlying27 hi054 2 hsz54 Ao45 t181.length co45 (ji23) (wrap64 ((ji23) + (Int.tmod (wrap64 (a2)) (wrap64 ((wrap64 ((t176.length : Int) - (ji23))) + 1))))) q054 ql54 q54 hroom54
                        obtain ⟨A54, hA54⟩ : ∃ A1, A1 = (if co45 = ((ji23) : Int).toNat then Ao45 else (Ao45 : Option Addr).map (·.add (((ji23) : Int).toNat * 2))) := ⟨_, rfl⟩
                        obtain ⟨c54, hc54⟩ : ∃ c1, c1 = co45 - ((ji23) : Int).toNat := ⟨_, rfl⟩
                        have hy54 : y204.length = ((wrap64 ((ji23) + (Int.tmod (wrap64 (a2)) (wrap64 ((wrap64 ((t176.length : Int) - (ji23))) + 1))))) : Int).toNat - ((ji23) : Int).toNat := (by rw [Ny204.out, List.length_drop, List.length_take] <;> omega)
                        rw [← hy54, ← hA54, ← hc54] at hcut54
                        have Xhroom54 := Aside0.mk hroom54
                        have XhA54 := Aside0.mk hA54
                        have Xhc54 := Aside0.mk hc54
                        have Xhy54 := Aside0.mk hy54
                        have Xq54 := Aside0.mk q54
                        clear hroom54 hA54 hc54 hy54 hi054 hsz54
                        replace q54 := eq_true q54
                        refine hK.out _ _ trivial (fun hHeld => ?_)
                        clear hK K
                        refine norm_ (a' := ?_) ?_ ?_
                        rotate_left
                        · show Act.put _ (some 68) _ = _
                          simp only [Act.put, List.setIfInBounds_toArray, List.set_cons_zero, List.set_cons_succ, i64_w, i32_w]
                          rfl
                        refine pure_ (i := 12) (N := some 69) (v := ?_) (a' := ?_) #[true, true, true, true, true, true, true, true, true, true, true, true, true, false, false, false, false, false, false, false, false, false, false, false, false, false, false, false] rfl rfl (any_of HT_.out (by kernel_rfl)) (fun _ _ _ h => h) (Or.inl ⟨by rfl, ?_⟩) ?_ ?_
                        rotate_left
                        · intro w'
                          go_simp
                          with_reducible rfl
                        rotate_left
                        · simp only [Act.put, List.setIfInBounds_toArray, List.set_cons_zero, List.set_cons_succ, i64_w, i32_w]
                          rfl
                        refine pure_ (i := 13) (N := some 70) (v := ?_) (a' := ?_) #[true, true, true, true, true, true, true, true, true, true, true, true, true, true, false, false, false, false, false, false, false, false, false, false, false, false, false, false] rfl rfl (any_of HT_.out (by kernel_rfl)) (fun _ _ _ h => h) (Or.inl ⟨by rfl, ?_⟩) ?_ ?_
                        rotate_left
                        · intro w'
                          go_simp
                          with_reducible rfl
                        rotate_left
                        · simp only [Act.put, List.setIfInBounds_toArray, List.set_cons_zero, List.set_cons_succ, i64_w, i32_w]
                          rfl
                        refine pure_ (i := 14) (N := some 71) (v := ?_) (a' := ?_) #[true, true, true, true, true, true, true, true, true, true, true, true, true, true, true, false, false, false, false, false, false, false, false, false, false, false, false, false] rfl rfl (any_of HT_.out (by kernel_rfl)) (fun _ _ _ h => h) (Or.inl ⟨by rfl, ?_⟩) ?_ ?_
                        rotate_left
                        · intro w'
                          go_simp
                          with_reducible rfl
                        rotate_left
                        · simp only [Act.put, List.setIfInBounds_toArray, List.set_cons_zero, List.set_cons_succ, i64_w, i32_w]
                          rfl
                        refine pure_ (i := 15) (N := some 72) (v := ?_) (a' := ?_) #[true, true, true, true, true, true, true, true, true, true, true, true, true, true, true, true, false, false, false, false, false, false, false, false, false, false, false, false] rfl rfl (any_of HT_.out (by kernel_rfl)) (fun _ _ _ h => h) (Or.inl ⟨by rfl, ?_⟩) ?_ ?_
                        rotate_left
                        · intro w'
                          go_simp
                          with_reducible rfl
                        rotate_left
                        · simp only [Act.put, List.setIfInBounds_toArray, List.set_cons_zero, List.set_cons_succ, i64_w, i32_w]
                          rfl
                        refine pure_ (i := 16) (N := some 73) (v := ?_) (a' := ?_) #[true, true, true, true, true, true, true, true, true, true, true, true, true, true, true, true, true, false, false, false, false, false, false, false, false, false, false, false] rfl rfl (any_of HT_.out (by kernel_rfl)) (fun _ _ _ h => h) (Or.inl ⟨by rfl, ?_⟩) ?_ ?_
                        rotate_left
                        · intro w'
                          go_simp
                          with_reducible rfl
                        rotate_left
                        · simp only [Act.put, List.setIfInBounds_toArray, List.set_cons_zero, List.set_cons_succ, i64_w, i32_w]
                          rfl
                        refine pure_ (i := 17) (N := some 74) (v := ?_) (a' := ?_) #[true, true, true, true, true, true, true, true, true, true, true, true, true, true, true, true, true, true, false, false, false, false, false, false, false, false, false, false] rfl rfl (any_of HT_.out (by kernel_rfl)) (fun _ _ _ h => h) (Or.inl ⟨by rfl, ?_⟩) ?_ ?_
                        rotate_left
                        · intro w'
                          go_simp
                          with_reducible rfl
                        rotate_left
                        · simp only [Act.put, List.setIfInBounds_toArray, List.set_cons_zero, List.set_cons_succ, i64_w, i32_w]
                          rfl
                        refine pure_ (i := 18) (N := some 75) (v := ?_) (a' := ?_) #[true, true, true, true, true, true, true, true, true, true, true, true, true, true, true, true, true, true, true, false, false, false, false, false, false, false, false, false] rfl rfl (any_of HT_.out (by kernel_rfl)) (fun _ _ _ h => h) (Or.inl ⟨by rfl, ?_⟩) ?_ ?_
                        rotate_left
                        · intro w'
                          go_simp
                          with_reducible rfl
                        rotate_left
                        · simp only [Act.put, List.setIfInBounds_toArray, List.set_cons_zero, List.set_cons_succ, i64_w, i32_w]
                          rfl
                        refine pure_ (i := 20) (N := some 77) (v := ?_) (a' := ?_) #[true, true, true, true, true, true, true, true, true, true, true, true, true, true, true, true, true, true, true, false, true, false, false, false, false, false, false, false] rfl rfl (any_of HT_.out (by kernel_rfl)) (fun _ _ _ h => h) (Or.inl ⟨by rfl, ?_⟩) ?_ ?_
                        rotate_left
                        · intro w'
                          go_simp
                          with_reducible rfl
                        rotate_left
                        · simp only [Act.put, List.setIfInBounds_toArray, List.set_cons_zero, List.set_cons_succ, i64_w, i32_w]
                          rfl
                        refine pure_ (i := 21) (N := some 78) (v := ?_) (a' := ?_) #[true, true, true, true, true, true, true, true, true, true, true, true, true, true, true, true, true, true, true, false, true, true, false, false, false, false, false, false] rfl rfl (any_of HT_.out (by kernel_rfl)) (fun _ _ _ h => h) (Or.inl ⟨by rfl, ?_⟩) ?_ ?_
                        rotate_left
                        · intro w'
                          go_simp
                          with_reducible rfl
                        rotate_left
                        · simp only [Act.put, List.setIfInBounds_toArray, List.set_cons_zero, List.set_cons_succ, i64_w, i32_w]
                          rfl
                        refine pure_ (i := 22) (N := some 79) (v := ?_) (a' := ?_) #[true, true, true, true, true, true, true, true, true, true, true, true, true, true, true, true, true, true, true, false, true, true, true, false, false, false, false, false] rfl rfl (any_of HT_.out (by kernel_rfl)) (fun _ _ _ h => h) (Or.inl ⟨by rfl, ?_⟩) ?_ ?_
                        rotate_left
                        · intro w'
                          go_simp
                          with_reducible rfl
                        rotate_left
                        · simp only [Act.put, List.setIfInBounds_toArray, List.set_cons_zero, List.set_cons_succ, i64_w, i32_w]
                          rfl
                        refine pure_ (i := 23) (N := some 80) (v := ?_) (a' := ?_) #[true, true, true, true, true, true, true, true, true, true, true, true, true, true, true, true, true, true, true, false, true, true, true, true, false, false, false, false] rfl rfl (any_of HT_.out (by kernel_rfl)) (fun _ _ _ h => h) (Or.inl ⟨by rfl, ?_⟩) ?_ ?_
                        rotate_left
                        · intro w'
                          go_simp
                          with_reducible rfl
                        rotate_left
                        · simp only [Act.put, List.setIfInBounds_toArray, List.set_cons_zero, List.set_cons_succ, i64_w, i32_w]
                          rfl
                        refine one_ (i := 19) (N := some 76) #[true, true, true, true, true, true, true, true, true, true, true, true, true, true, true, true, true, true, true, true, true, true, true, true, false, false, false, false] rfl rfl (one_of HT_.out (by kernel_rfl)) (by decide) (fun K hK => ?_)
                        refine goes_ Tryd.func15 (by kernel_rfl) rfl #[.slice A52 y197.length c52] (by rfl) rfl rfl (by (try simp only [List.map_toArray, List.map_cons, List.map_nil]); first | done | rfl | (simp only [List.length_drop, List.length_take]; rfl)) ?_
                        with_reducible refine (lex_Words.calls k _ _ y197 t201 _ ?side1 ?side2 A36.out ?sideL).mono ?_
                        case sideL => exact LaidI.below HL.out (by repeat (first | (with_reducible first | exact HB.out | exact Below.refl _ _ | apply below_alloc | apply pw_below_drewN | apply below_drew1) | refine below_set ?_ (Aside0.out (by assumption)) | exact HB.out | exact Below.refl _ _ | exact pw_below_drewN (Below.refl _ _) _))
                        (case side1 => repeat (first | exact (by repeat (first | (with_reducible exact HR200.out) | (with_reducible refine Kd.C_alloc ?_ _) | (with_reducible refine Kd.C_drewN ?_ _) | (with_reducible refine Kd.C_drew ?_) | exact HR200.out)) | (with_reducible refine Kd.C_alloc ?_ _) | (with_reducible refine Kd.C_drewN ?_ _) | (with_reducible refine Kd.C_drew ?_)))
                        (case side2 => exact HC200.out)
                        rintro e w53 ⟨v202, rfl, ho0, hb⟩
                        refine ⟨_, rfl, ?_⟩
                        have n0_ := Aside0.mk (Kd.R_below (by (with_reducible repeat (first | apply Kd.R_alloc | apply Kd.R_drewN | apply Kd.R_drew)); exact HO180.out) hb)
                        have n1_ := Aside0.mk (Kd.R_below (by (with_reducible repeat (first | apply Kd.R_alloc | apply Kd.R_drewN | apply Kd.R_drew)); exact HO184.out) hb)
                        have n2_ := Aside0.mk (Kd.R_lower ho0 (below_size (by repeat (first | (with_reducible first | exact HB.out | apply below_alloc | apply pw_below_drewN | apply below_drew1) | exact HB.out))))
                        have n3_ := Aside0.mk (Kd.C_below (by repeat (first | (with_reducible exact HR190.out) | (with_reducible refine Kd.C_alloc ?_ _) | (with_reducible refine Kd.C_drewN ?_ _) | (with_reducible refine Kd.C_drew ?_) | exact HR190.out)) hb)
                        have n4_ := Aside0.mk (Kd.C_below (by repeat (first | (with_reducible exact HR195.out) | (with_reducible refine Kd.C_alloc ?_ _) | (with_reducible refine Kd.C_drewN ?_ _) | (with_reducible refine Kd.C_drew ?_) | exact HR195.out)) hb)
                        have n5_ := Aside0.mk (Kd.C_below (by repeat (first | (with_reducible exact HR200.out) | (with_reducible refine Kd.C_alloc ?_ _) | (with_reducible refine Kd.C_drewN ?_ _) | (with_reducible refine Kd.C_drew ?_) | exact HR200.out)) hb)
                        have n6_ := Aside0.mk (below_step (by repeat (first | (with_reducible first | exact HB.out | apply below_alloc | apply pw_below_drewN | apply below_drew1) | exact HB.out)) hb)
                        clear HO180
                        clear HO184
                        clear HR190
                        clear HR195
                        clear HR200
                        clear HB
                        have HO180 := n0_
                        have HO184 := n1_
                        have HO203 := n2_
                        have HR190 := n3_
                        have HR195 := n4_
                        have HR200 := n5_
                        have HB := n6_
                        clear n0_ n1_ n2_ n3_ n4_ n5_ n6_
                        (try clear hb)
                        (try clear hb2)
                        (try clear hk)
                        (try clear hi)
                        (try clear ho0)
                        have hroom54 := Xhroom54.out
                        have hA54 := XhA54.out
                        have hc54 := Xhc54.out
                        have hy54 := Xhy54.out
                        have q54_ := Xq54.out
                        have hC54 : Kd.C k32 _ Ao45 t181.length t181 := (Kd.R_reads' HO184.out).2.2
                        have hr54 := Kd.C_mid (lo := ((ji23) : Int).toNat) (hi := ((wrap64 ((ji23) + (Int.tmod (wrap64 (a2)) (wrap64 ((wrap64 ((t176.length : Int) - (ji23))) + 1))))) : Int).toNat) (c := co45) hC54 (by omega) (by omega) hroom54
                        rw [show ((t181).take ((wrap64 ((ji23) + (Int.tmod (wrap64 (a2)) (wrap64 ((wrap64 ((t176.length : Int) - (ji23))) + 1))))) : Int).toNat).drop ((ji23) : Int).toNat = y204 from Ny204.out.symm] at hr54
                        replace hr54 : Kd.C k32 _ A54 y204.length y204 := (by rw [hA54]; exact hr54)
                        have HR207 := Aside0.mk hr54
                        have HC207 := Aside0.mk (show y204.length ≤ c54 from by rw [hy54, hc54]; exact Nat.sub_le_sub_right (Nat.le_trans (by omega) hroom54) _)
                        clear hr54 hC54 hroom54 hc54
                        have KY54 := Aside0.mk hy54
                        have KA54 := Aside0.mk hA54
                        clear hy54 hA54
                        have KL54 := Aside0.mk (show ((wrap64 ((ji23) + (Int.tmod (wrap64 (a2)) (wrap64 ((wrap64 ((t176.length : Int) - (ji23))) + 1))))) : Int).toNat ≤ t181.length from by omega)
                        have KM54 := Aside0.mk (show ((ji23) : Int).toNat ≤ ((wrap64 ((ji23) + (Int.tmod (wrap64 (a2)) (wrap64 ((wrap64 ((t176.length : Int) - (ji23))) + 1))))) : Int).toNat from by omega)
                        clear q54_
                        refine hK.out _ _ trivial (fun hHeld => ?_)
                        clear hK K
                        refine norm_ (a' := ?_) ?_ ?_
                        rotate_left
                        · show Act.put _ (some 76) _ = _
                          simp only [Act.put, List.setIfInBounds_toArray, List.set_cons_zero, List.set_cons_succ, i64_w, i32_w]
                          rfl
                        refine one_ (i := 24) (N := some 81) #[true, true, true, true, true, true, true, true, true, true, true, true, true, true, true, true, true, true, true, true, true, true, true, true, true, false, false, false] rfl rfl (one_of HT_.out (by kernel_rfl)) (by decide) (fun K hK => ?_)
                        refine goes_ Tryd.func16 (by kernel_rfl) rfl #[.slice A54 y204.length c54] (by rfl) rfl rfl (by (try simp only [List.map_toArray, List.map_cons, List.map_nil]); first | done | rfl | (simp only [List.length_drop, List.length_take]; rfl)) ?_
                        with_reducible refine (slotcoderef08_Words.calls k _ _ y204 t208 _ ?side1 ?side2 A40.out).mono ?_
                        (case side1 => repeat (first | exact (by repeat (first | (with_reducible exact HR207.out) | (with_reducible refine Kd.C_alloc ?_ _) | (with_reducible refine Kd.C_drewN ?_ _) | (with_reducible refine Kd.C_drew ?_) | exact HR207.out)) | (with_reducible refine Kd.C_alloc ?_ _) | (with_reducible refine Kd.C_drewN ?_ _) | (with_reducible refine Kd.C_drew ?_)))
                        (case side2 => exact HC207.out)
                        rintro e w55 ⟨v209, rfl, ho0, hb⟩
                        refine ⟨_, rfl, ?_⟩
                        have n0_ := Aside0.mk (Kd.R_below (by (with_reducible repeat (first | apply Kd.R_alloc | apply Kd.R_drewN | apply Kd.R_drew)); exact HO180.out) hb)
                        have n1_ := Aside0.mk (Kd.R_below (by (with_reducible repeat (first | apply Kd.R_alloc | apply Kd.R_drewN | apply Kd.R_drew)); exact HO184.out) hb)
                        have n2_ := Aside0.mk (Kd.R_elder' (by (with_reducible repeat (first | apply Kd.R_alloc | apply Kd.R_drewN | apply Kd.R_drew)); exact HO203.out) (Kd.R_base ho0) hb)
                        have n3_ := Aside0.mk (Kd.R_lower (Kd.R_new' ho0 (Kd.R_lt (by (with_reducible repeat (first | apply Kd.R_alloc | apply Kd.R_drewN | apply Kd.R_drew)); exact HO203.out))) (below_size (by repeat (first | (with_reducible first | exact HB.out | apply below_alloc | apply pw_below_drewN | apply below_drew1) | exact HB.out))))
                        have n4_ := Aside0.mk (Kd.C_below (by repeat (first | (with_reducible exact HR190.out) | (with_reducible refine Kd.C_alloc ?_ _) | (with_reducible refine Kd.C_drewN ?_ _) | (with_reducible refine Kd.C_drew ?_) | exact HR190.out)) hb)
                        have n5_ := Aside0.mk (Kd.C_below (by repeat (first | (with_reducible exact HR195.out) | (with_reducible refine Kd.C_alloc ?_ _) | (with_reducible refine Kd.C_drewN ?_ _) | (with_reducible refine Kd.C_drew ?_) | exact HR195.out)) hb)
                        have n6_ := Aside0.mk (Kd.C_below (by repeat (first | (with_reducible exact HR200.out) | (with_reducible refine Kd.C_alloc ?_ _) | (with_reducible refine Kd.C_drewN ?_ _) | (with_reducible refine Kd.C_drew ?_) | exact HR200.out)) hb)
                        have n7_ := Aside0.mk (Kd.C_below (by repeat (first | (with_reducible exact HR207.out) | (with_reducible refine Kd.C_alloc ?_ _) | (with_reducible refine Kd.C_drewN ?_ _) | (with_reducible refine Kd.C_drew ?_) | exact HR207.out)) hb)
                        have n8_ := Aside0.mk (below_step (by repeat (first | (with_reducible first | exact HB.out | apply below_alloc | apply pw_below_drewN | apply below_drew1) | exact HB.out)) hb)
                        clear HO180
                        clear HO184
                        clear HO203
                        clear HR190
                        clear HR195
                        clear HR200
                        clear HR207
                        clear HB
                        have HO180 := n0_
                        have HO184 := n1_
                        have HO203 := n2_
                        have HO210 := n3_
                        have HR190 := n4_
                        have HR195 := n5_
                        have HR200 := n6_
                        have HR207 := n7_
                        have HB := n8_
                        clear n0_ n1_ n2_ n3_ n4_ n5_ n6_ n7_ n8_
                        (try clear hb)
                        (try clear hb2)
                        (try clear hk)
                        (try clear hi)
                        (try clear ho0)
                        obtain ⟨Ao56, co56, eo56⟩ := Kd.R_slice HO203.out
                        (first | subst eo56 | (injection eo56 with f1_ f2_ f3_; have f4_ := f1_.symm; have f5_ := f3_.symm; clear f1_ f2_ f3_; subst f4_; subst f5_))
                        obtain ⟨Ao57, co57, eo57⟩ := Kd.R_slice HO210.out
                        (first | subst eo57 | (injection eo57 with f1_ f2_ f3_; have f4_ := f1_.symm; have f5_ := f3_.symm; clear f1_ f2_ f3_; subst f4_; subst f5_))
                        refine hK.out _ _ trivial (fun hHeld => ?_)
                        clear hK K
                        refine norm_ (a' := ?_) ?_ ?_
                        rotate_left
                        · show Act.put _ (some 81) _ = _
                          simp only [Act.put, List.setIfInBounds_toArray, List.set_cons_zero, List.set_cons_succ, i64_w, i32_w]
                          rfl
                        refine one_ (i := 25) (N := some 82) #[true, true, true, true, true, true, true, true, true, true, true, true, true, true, true, true, true, true, true, true, true, true, true, true, true, true, false, false] rfl rfl (one_of HT_.out (by kernel_rfl)) (by decide) (fun K hK => ?_)
                        refine goes_ Tryd.func14 (by kernel_rfl) rfl #[.slice Ao56 t201.length co56, .slice Ao57 t208.length co57] (by rfl) rfl rfl (by (try simp only [List.map_toArray, List.map_cons, List.map_nil]); first | done | rfl | (simp only [List.length_drop, List.length_take]; rfl)) ?_
                        with_reducible refine (slices_Equal_string_string.calls k _ _ t201 _ _ t208 t211 _ ?side1 ?side2 ?side3 ?side4 A41.out).mono ?_
                        (case side1 => repeat (first | exact (Kd.R_reads' HO203.out).2.2 | (with_reducible refine Kd.C_alloc ?_ _) | (with_reducible refine Kd.C_drewN ?_ _) | (with_reducible refine Kd.C_drew ?_)))
                        (case side2 => exact (Kd.R_reads' HO203.out).2.1)
                        (case side3 => repeat (first | exact (Kd.R_reads' HO210.out).2.2 | (with_reducible refine Kd.C_alloc ?_ _) | (with_reducible refine Kd.C_drewN ?_ _) | (with_reducible refine Kd.C_drew ?_)))
                        (case side4 => exact (Kd.R_reads' HO210.out).2.1)
                        rintro e w' ⟨rfl, ⟨nd, rfl⟩⟩
                        refine ⟨_, rfl, ?_⟩
                        refine hK.out _ _ trivial (fun hHeld => ?_)
                        clear hK K
                        refine norm_ (a' := ?_) ?_ ?_
                        rotate_left
                        · show Act.put _ (some 82) _ = _
                          simp only [Act.put, List.setIfInBounds_toArray, List.set_cons_zero, List.set_cons_succ, i64_w, i32_w]
                          rfl
                        refine pure_ (i := 26) (N := some 83) (v := ?_) (a' := ?_) #[true, true, true, true, true, true, true, true, true, true, true, true, true, true, true, true, true, true, true, true, true, true, true, true, true, true, true, false] rfl rfl (any_of HT_.out (by kernel_rfl)) (fun _ _ _ h => h) (Or.inl ⟨by rfl, ?_⟩) ?_ ?_
                        rotate_left
                        · intro w'
                          go_simp
                          with_reducible rfl
                        rotate_left
                        · simp only [Act.put, List.setIfInBounds_toArray, List.set_cons_zero, List.set_cons_succ, i64_w, i32_w]
                          rfl
                        refine pure_ (i := 27) (N := some 6) (v := ?_) (a' := ?_) #[true, true, true, true, true, true, true, true, true, true, true, true, true, true, true, true, true, true, true, true, true, true, true, true, true, true, true, true] rfl rfl (any_of HT_.out (by kernel_rfl)) (fun _ _ _ h => h) (Or.inl ⟨by rfl, ?_⟩) ?_ ?_
                        rotate_left
                        · intro w'
                          go_simp
                          with_reducible rfl
                        rotate_left
                        · simp only [Act.put, List.setIfInBounds_toArray, List.set_cons_zero, List.set_cons_succ, i64_w, i32_w]
                          rfl
                        refine done_ (done_of HT_.out (by kernel_rfl)) ?_
                        try go_wp2
                        go_ret
                        exact ⟨by first | rfl | (simp [errW_none, errW_some] <;> rfl) | (simp only [← hji23]; first | rfl | (simp [errW_none, errW_some] <;> rfl)) | (simp [*, errW_none, errW_some] <;> rfl), by repeat (first | (with_reducible first | exact HB.out | apply below_alloc | apply pw_below_drewN | apply below_drew1) | exact HB.out)⟩
                      · rw [if_neg c32] at H
                        have c32b0 : (t191.toList == t196.toList) = false := beq_eq_false_iff_ne.mpr c32
                        have c32b1 : (t191.toList != t196.toList) = true := bne_iff_ne.mpr c32
                        obtain rfl := Option.some.inj H
                        go_enter Tryd.func4, Tryd.ntmps4
                        try go_wp2_with (first | ((with_reducible refine gate_callee (f := 10) rfl ?_); refine goesL_ (some 20) rfl rfl Tryd.func10 (by kernel_rfl) rfl #[.string a0] rfl (by (try simp only [List.map_toArray, List.map_cons, List.map_nil]); first | done | rfl | (simp only [List.length_drop, List.length_take]; rfl)) ?_; (with_reducible refine (lex_Tokens.calls a0 t176 t177 t178 _ A7.out ?sideL).mono ?_); (case sideL => exact LaidI.below HL.out (by repeat (first | (with_reducible first | exact HB.out | exact Below.refl _ _ | apply below_alloc | apply pw_below_drewN | apply below_drew1) | refine below_set ?_ (Aside0.out (by assumption)) | exact HB.out | exact Below.refl _ _ | exact pw_below_drewN (Below.refl _ _) _))); rintro e w58 ⟨v179, rfl, ho0, hb⟩; refine ⟨_, rfl, ?_⟩; have n0_ := Aside0.mk (Kd.R_lower ho0 (below_size (by repeat (first | (with_reducible first | exact HB.out | apply below_alloc | apply pw_below_drewN | apply below_drew1) | exact HB.out)))); have n1_ := Aside0.mk (below_step (by repeat (first | (with_reducible first | exact HB.out | apply below_alloc | apply pw_below_drewN | apply below_drew1) | exact HB.out)) hb); clear HB; have HO180 := n0_; have HB := n1_; clear n0_ n1_; (try clear hb); (try clear hb2); (try clear hk); (try clear hi); (try clear ho0)) | ((with_reducible refine gate_callee (f := 11) rfl ?_); refine goesL_ (some 26) rfl rfl Tryd.func11 (by kernel_rfl) rfl #[.string a0] rfl (by (try simp only [List.map_toArray, List.map_cons, List.map_nil]); first | done | rfl | (simp only [List.length_drop, List.length_take]; rfl)) ?_; (with_reducible refine (slotcoderef08_Tokens.calls k a0 t181 t182 _ A8.out).mono ?_); rintro e w59 ⟨v183, rfl, ho0, hb⟩; refine ⟨_, rfl, ?_⟩; have n0_ := Aside0.mk (Kd.R_below (by (with_reducible repeat (first | apply Kd.R_alloc | apply Kd.R_drewN | apply Kd.R_drew)); exact HO180.out) hb); have n1_ := Aside0.mk (Kd.R_lower ho0 (below_size (by repeat (first | (with_reducible first | exact HB.out | apply below_alloc | apply pw_below_drewN | apply below_drew1) | exact HB.out)))); have n2_ := Aside0.mk (below_step (by repeat (first | (with_reducible first | exact HB.out | apply below_alloc | apply pw_below_drewN | apply below_drew1) | exact HB.out)) hb); clear HO180; clear HB; have HO180 := n0_; have HO184 := n1_; have HB := n2_; clear n0_ n1_ n2_; (try clear hb); (try clear hb2); (try clear hk); (try clear hi); (try clear ho0); obtain ⟨Ao60, co60, eo60⟩ := Kd.R_slice HO180.out; subst eo60; obtain ⟨Ao61, co61, eo61⟩ := Kd.R_slice HO184.out; subst eo61))
                        have n0_ := Aside0.mk (Kd.R_drew HO180.out)
                        have n1_ := Aside0.mk (Kd.R_drew HO184.out)
                        have n2_ := Aside0.mk (below_drew1 HB.out)
                        clear HO180
                        clear HO184
                        clear HB
                        have HO180 := n0_
                        have HO184 := n1_
                        have HB := n2_
                        clear n0_ n1_ n2_
                        refine start_ (n := 28) (S := fun w' => True) (ds := []) #[false, false, false, false, false, false, false, false, false, false, false, false, false, false, false, false, false, false, false, false, false, false, false, false, false, false, false, false] (by kernel_rfl) rfl rfl trivial (fun hHeld => ?_); refine with_tabW slotcodelaw08_LexShapes.tab11 slotcodelaw08_LexShapes.bits11 (fun HT_ HW_ => ?_)
                        generalize w59.drew = w62 at HO180 HO184 HB hHeld ⊢
                        refine one_ (i := 0) (N := some 57) #[true, false, false, false, false, false, false, false, false, false, false, false, false, false, false, false, false, false, false, false, false, false, false, false, false, false, false, false] rfl rfl (one_of HT_.out (by kernel_rfl)) (by decide) (fun K hK => ?_)
                        refine goes_ Tryd.func9 (by kernel_rfl) rfl #[] (by rfl) rfl rfl (by (try simp only [List.map_toArray, List.map_cons, List.map_nil]); first | done | rfl | (simp only [List.length_drop, List.length_take]; rfl)) ?_
                        with_reducible refine (slotcodelaw08_alive.calls k  true _ A21.out ?sideL).mono ?_
                        case sideL => exact LaidI.below HL.out (by repeat (first | (with_reducible first | exact HB.out | exact Below.refl _ _ | apply below_alloc | apply pw_below_drewN | apply below_drew1) | refine below_set ?_ (Aside0.out (by assumption)) | exact HB.out | exact Below.refl _ _ | exact pw_below_drewN (Below.refl _ _) _))
                        rintro e w63 ⟨rfl, hb⟩
                        refine ⟨_, rfl, ?_⟩
                        have n0_ := Aside0.mk (Kd.R_below (by (with_reducible repeat (first | apply Kd.R_alloc | apply Kd.R_drewN | apply Kd.R_drew)); exact HO180.out) hb)
                        have n1_ := Aside0.mk (Kd.R_below (by (with_reducible repeat (first | apply Kd.R_alloc | apply Kd.R_drewN | apply Kd.R_drew)); exact HO184.out) hb)
                        have n2_ := Aside0.mk (below_step (by repeat (first | (with_reducible first | exact HB.out | apply below_alloc | apply pw_below_drewN | apply below_drew1) | exact HB.out)) hb)
                        clear HO180
                        clear HO184
                        clear HB
                        have HO180 := n0_
                        have HO184 := n1_
                        have HB := n2_
                        clear n0_ n1_ n2_
                        (try clear hb)
                        (try clear hb2)
                        (try clear hk)
                        (try clear hi)
                        (try clear hcut52)
                        have q64 : ((wrap64 ((ji23) + (Int.tmod (wrap64 (a2)) (wrap64 ((wrap64 ((t176.length : Int) - (ji23))) + 1))))) : Int) ≤ ((t176.length : Int) : Int) := of_decide_eq_true (by first | (with_reducible assumption) | assumption)
                        obtain ⟨i064, hi064, _, hsz64, _⟩ := info_parts info31
                        have hroom64 : t176.length ≤ co60 := (Kd.R_reads' HO180.out).2.1
                        have hC64 : Kd.C k31 _ Ao60 t176.length t176 := (Kd.R_reads' HO180.out).2.2
                        have ql64 : ((ji23) : Int) ≤ ((wrap64 ((ji23) + (Int.tmod (wrap64 (a2)) (wrap64 ((wrap64 ((t176.length : Int) - (ji23))) + 1))))) : Int) := of_decide_eq_true (by first | (with_reducible assumption) | assumption)
                        have q064 : (0 : Int) ≤ ((ji23) : Int) := of_decide_eq_true (by first | (with_reducible assumption) | assumption)
                        have hcut64 := cut_mid (P := Tryd.prog) 23 31 .i64 .i64 Tryd.underlying23 hi064 2 hsz64 Ao60 t176.length co60 (ji23) (wrap64 ((ji23) + (Int.tmod (wrap64 (a2)) (wrap64 ((wrap64 ((t176.length : Int) - (ji23))) + 1))))) q064 ql64 q64 hroom64
                        have hr64 := Kd.C_mid (lo := ((ji23) : Int).toNat) (hi := ((wrap64 ((ji23) + (Int.tmod (wrap64 (a2)) (wrap64 ((wrap64 ((t176.length : Int) - (ji23))) + 1))))) : Int).toNat) (c := co60) hC64 (by omega) (by omega) hroom64
                        obtain ⟨A64, hA64⟩ : ∃ A1, A1 = (if co60 = ((ji23) : Int).toNat then Ao60 else (Ao60 : Option Addr).map (·.add (((ji23) : Int).toNat * 2))) := ⟨_, rfl⟩
                        obtain ⟨c64, hc64⟩ : ∃ c1, c1 = co60 - ((ji23) : Int).toNat := ⟨_, rfl⟩
                        have hy64 : y187.length = ((wrap64 ((ji23) + (Int.tmod (wrap64 (a2)) (wrap64 ((wrap64 ((t176.length : Int) - (ji23))) + 1))))) : Int).toNat - ((ji23) : Int).toNat := (by rw [Ny187.out, List.length_drop, List.length_take] <;> omega)
                        rw [show ((t176).take ((wrap64 ((ji23) + (Int.tmod (wrap64 (a2)) (wrap64 ((wrap64 ((t176.length : Int) - (ji23))) + 1))))) : Int).toNat).drop ((ji23) : Int).toNat = y187 from Ny187.out.symm] at hr64
                        replace hr64 : Kd.C k31 _ A64 y187.length y187 := (by rw [hA64]; exact hr64)
                        rw [← hy64, ← hA64, ← hc64] at hcut64
                        have HR190 := Aside0.mk hr64
                        have HC190 := Aside0.mk (show y187.length ≤ c64 from by rw [hy64, hc64]; exact Nat.sub_le_sub_right (Nat.le_trans (by omega) hroom64) _)
                        clear hr64 hC64 hroom64 hi064 hsz64 hc64
                        have KY64 := Aside0.mk hy64
                        have KA64 := Aside0.mk hA64
                        clear hy64 hA64
                        have KL64 := Aside0.mk (show ((wrap64 ((ji23) + (Int.tmod (wrap64 (a2)) (wrap64 ((wrap64 ((t176.length : Int) - (ji23))) + 1))))) : Int).toNat ≤ t176.length from by omega)
                        have KM64 := Aside0.mk (show ((ji23) : Int).toNat ≤ ((wrap64 ((ji23) + (Int.tmod (wrap64 (a2)) (wrap64 ((wrap64 ((t176.length : Int) - (ji23))) + 1))))) : Int).toNat from by omega)
                        replace q64 := eq_true q64
                        (try clear hcut54)
                        have q66 : ((wrap64 ((ji23) + (Int.tmod (wrap64 (a2)) (wrap64 ((wrap64 ((t176.length : Int) - (ji23))) + 1))))) : Int) ≤ ((t181.length : Int) : Int) := of_decide_eq_true (by first | (with_reducible assumption) | assumption)
                        obtain ⟨i066, hi066, _, hsz66, _⟩ := info_parts info32
                        have hroom66 : t181.length ≤ co61 := (Kd.R_reads' HO184.out).2.1
                        have ql66 : ((ji23) : Int) ≤ ((wrap64 ((ji23) + (Int.tmod (wrap64 (a2)) (wrap64 ((wrap64 ((t176.length : Int) - (ji23))) + 1))))) : Int) := of_decide_eq_true (by first | (with_reducible assumption) | assumption)
                        have q066 : (0 : Int) ≤ ((ji23) : Int) := of_decide_eq_true (by first | (with_reducible assumption) | assumption)
                        have hcut66 := cut_mid (P := Tryd.prog) 27 32 .i64 .i64 Tryd.underlying27 hi066 2 hsz66 Ao61 t181.length co61 (ji23) (wrap64 ((ji23) + (Int.tmod (wrap64 (a2)) (wrap64 ((wrap64 ((t176.length : Int) - (ji23))) + 1))))) q066 ql66 q66 hroom66
                        obtain ⟨A66, hA66⟩ : ∃ A1, A1 = (if co61 = ((ji23) : Int).toNat then Ao61 else (Ao61 : Option Addr).map (·.add (((ji23) : Int).toNat * 2))) := ⟨_, rfl⟩
                        obtain ⟨c66, hc66⟩ : ∃ c1, c1 = co61 - ((ji23) : Int).toNat := ⟨_, rfl⟩
                        have hy66 : y192.length = ((wrap64 ((ji23) + (Int.tmod (wrap64 (a2)) (wrap64 ((wrap64 ((t176.length : Int) - (ji23))) + 1))))) : Int).toNat - ((ji23) : Int).toNat := (by rw [Ny192.out, List.length_drop, List.length_take] <;> omega)
                        rw [← hy66, ← hA66, ← hc66] at hcut66
                        have Xhroom66 := Aside0.mk hroom66
                        have XhA66 := Aside0.mk hA66
                        have Xhc66 := Aside0.mk hc66
                        have Xhy66 := Aside0.mk hy66
                        have Xq66 := Aside0.mk q66
                        clear hroom66 hA66 hc66 hy66 hi066 hsz66
                        replace q66 := eq_true q66
                        refine hK.out _ _ trivial (fun hHeld => ?_)
                        clear hK K
                        refine norm_ (a' := ?_) ?_ ?_
                        rotate_left
                        · show Act.put _ (some 57) _ = _
                          simp only [Act.put, List.setIfInBounds_toArray, List.set_cons_zero, List.set_cons_succ, i64_w, i32_w]
                          rfl
                        refine pure_ (i := 1) (N := some 58) (v := ?_) (a' := ?_) #[true, true, false, false, false, false, false, false, false, false, false, false, false, false, false, false, false, false, false, false, false, false, false, false, false, false, false, false] rfl rfl (any_of HT_.out (by kernel_rfl)) (fun _ _ _ h => h) (Or.inl ⟨by rfl, ?_⟩) ?_ ?_
                        rotate_left
                        · intro w'
                          go_simp
                          with_reducible rfl
                        rotate_left
                        · simp only [Act.put, List.setIfInBounds_toArray, List.set_cons_zero, List.set_cons_succ, i64_w, i32_w]
                          rfl
                        refine pure_ (i := 2) (N := some 59) (v := ?_) (a' := ?_) #[true, true, true, false, false, false, false, false, false, false, false, false, false, false, false, false, false, false, false, false, false, false, false, false, false, false, false, false] rfl rfl (any_of HT_.out (by kernel_rfl)) (fun _ _ _ h => h) (Or.inl ⟨by rfl, ?_⟩) ?_ ?_
                        rotate_left
                        · intro w'
                          go_simp
                          with_reducible rfl
                        rotate_left
                        · simp only [Act.put, List.setIfInBounds_toArray, List.set_cons_zero, List.set_cons_succ, i64_w, i32_w]
                          rfl
                        refine pure_ (i := 3) (N := some 60) (v := ?_) (a' := ?_) #[true, true, true, true, false, false, false, false, false, false, false, false, false, false, false, false, false, false, false, false, false, false, false, false, false, false, false, false] rfl rfl (any_of HT_.out (by kernel_rfl)) (fun _ _ _ h => h) (Or.inl ⟨by rfl, ?_⟩) ?_ ?_
                        rotate_left
                        · intro w'
                          go_simp
                          with_reducible rfl
                        rotate_left
                        · simp only [Act.put, List.setIfInBounds_toArray, List.set_cons_zero, List.set_cons_succ, i64_w, i32_w]
                          rfl
                        refine pure_ (i := 4) (N := some 61) (v := ?_) (a' := ?_) #[true, true, true, true, true, false, false, false, false, false, false, false, false, false, false, false, false, false, false, false, false, false, false, false, false, false, false, false] rfl rfl (any_of HT_.out (by kernel_rfl)) (fun _ _ _ h => h) (Or.inl ⟨by rfl, ?_⟩) ?_ ?_
                        rotate_left
                        · intro w'
                          go_simp
                          with_reducible rfl
                        rotate_left
                        · simp only [Act.put, List.setIfInBounds_toArray, List.set_cons_zero, List.set_cons_succ, i64_w, i32_w]
                          rfl
                        refine pure_ (i := 5) (N := some 62) (v := ?_) (a' := ?_) #[true, true, true, true, true, true, false, false, false, false, false, false, false, false, false, false, false, false, false, false, false, false, false, false, false, false, false, false] rfl rfl (any_of HT_.out (by kernel_rfl)) (fun _ _ _ h => h) (Or.inl ⟨by rfl, ?_⟩) ?_ ?_
                        rotate_left
                        · intro w'
                          go_simp
                          with_reducible rfl
                        rotate_left
                        · simp only [Act.put, List.setIfInBounds_toArray, List.set_cons_zero, List.set_cons_succ, i64_w, i32_w]
                          rfl
                        refine pure_ (i := 7) (N := some 64) (v := ?_) (a' := ?_) #[true, true, true, true, true, true, false, true, false, false, false, false, false, false, false, false, false, false, false, false, false, false, false, false, false, false, false, false] rfl rfl (any_of HT_.out (by kernel_rfl)) (fun _ _ _ h => h) (Or.inl ⟨by rfl, ?_⟩) ?_ ?_
                        rotate_left
                        · intro w'
                          go_simp
                          with_reducible rfl
                        rotate_left
                        · simp only [Act.put, List.setIfInBounds_toArray, List.set_cons_zero, List.set_cons_succ, i64_w, i32_w]
                          rfl
                        refine pure_ (i := 8) (N := some 65) (v := ?_) (a' := ?_) #[true, true, true, true, true, true, false, true, true, false, false, false, false, false, false, false, false, false, false, false, false, false, false, false, false, false, false, false] rfl rfl (any_of HT_.out (by kernel_rfl)) (fun _ _ _ h => h) (Or.inl ⟨by rfl, ?_⟩) ?_ ?_
                        rotate_left
                        · intro w'
                          go_simp
                          with_reducible rfl
                        rotate_left
                        · simp only [Act.put, List.setIfInBounds_toArray, List.set_cons_zero, List.set_cons_succ, i64_w, i32_w]
                          rfl
                        refine pure_ (i := 9) (N := some 66) (v := ?_) (a' := ?_) #[true, true, true, true, true, true, false, true, true, true, false, false, false, false, false, false, false, false, false, false, false, false, false, false, false, false, false, false] rfl rfl (any_of HT_.out (by kernel_rfl)) (fun _ _ _ h => h) (Or.inl ⟨by rfl, ?_⟩) ?_ ?_
                        rotate_left
                        · intro w'
                          go_simp
                          with_reducible rfl
                        rotate_left
                        · simp only [Act.put, List.setIfInBounds_toArray, List.set_cons_zero, List.set_cons_succ, i64_w, i32_w]
                          rfl
                        refine pure_ (i := 10) (N := some 67) (v := ?_) (a' := ?_) #[true, true, true, true, true, true, false, true, true, true, true, false, false, false, false, false, false, false, false, false, false, false, false, false, false, false, false, false] rfl rfl (any_of HT_.out (by kernel_rfl)) (fun _ _ _ h => h) (Or.inl ⟨by rfl, ?_⟩) ?_ ?_
                        rotate_left
                        · intro w'
                          go_simp
                          with_reducible rfl
                        rotate_left
                        · simp only [Act.put, List.setIfInBounds_toArray, List.set_cons_zero, List.set_cons_succ, i64_w, i32_w]
                          rfl
                        refine one_ (i := 6) (N := some 63) #[true, true, true, true, true, true, true, true, true, true, true, false, false, false, false, false, false, false, false, false, false, false, false, false, false, false, false, false] rfl rfl (one_of HT_.out (by kernel_rfl)) (by decide) (fun K hK => ?_)
                        refine goes_ Tryd.func12 (by kernel_rfl) rfl #[.slice A64 y187.length c64] (by rfl) rfl rfl (by (try simp only [List.map_toArray, List.map_cons, List.map_nil]); first | done | rfl | (simp only [List.length_drop, List.length_take]; rfl)) ?_
                        with_reducible refine (lex_Shape.calls _ _ y187 t191 _ ?side1 ?side2 A27.out ?sideL).mono ?_
                        case sideL => exact LaidI.below HL.out (by repeat (first | (with_reducible first | exact HB.out | exact Below.refl _ _ | apply below_alloc | apply pw_below_drewN | apply below_drew1) | refine below_set ?_ (Aside0.out (by assumption)) | exact HB.out | exact Below.refl _ _ | exact pw_below_drewN (Below.refl _ _) _))
                        (case side1 => repeat (first | exact (by repeat (first | (with_reducible exact HR190.out) | (with_reducible refine Kd.C_alloc ?_ _) | (with_reducible refine Kd.C_drewN ?_ _) | (with_reducible refine Kd.C_drew ?_) | exact HR190.out)) | (with_reducible refine Kd.C_alloc ?_ _) | (with_reducible refine Kd.C_drewN ?_ _) | (with_reducible refine Kd.C_drew ?_)))
                        (case side2 => exact HC190.out)
                        rintro e w65 ⟨rfl, hb⟩
                        refine ⟨_, rfl, ?_⟩
                        have n0_ := Aside0.mk (Kd.R_below (by (with_reducible repeat (first | apply Kd.R_alloc | apply Kd.R_drewN | apply Kd.R_drew)); exact HO180.out) hb)
                        have n1_ := Aside0.mk (Kd.R_below (by (with_reducible repeat (first | apply Kd.R_alloc | apply Kd.R_drewN | apply Kd.R_drew)); exact HO184.out) hb)
                        have n2_ := Aside0.mk (Kd.C_below (by repeat (first | (with_reducible exact HR190.out) | (with_reducible refine Kd.C_alloc ?_ _) | (with_reducible refine Kd.C_drewN ?_ _) | (with_reducible refine Kd.C_drew ?_) | exact HR190.out)) hb)
                        have n3_ := Aside0.mk (below_step (by repeat (first | (with_reducible first | exact HB.out | apply below_alloc | apply pw_below_drewN | apply below_drew1) | exact HB.out)) hb)
                        clear HO180
                        clear HO184
                        clear HR190
                        clear HB
                        have HO180 := n0_
                        have HO184 := n1_
                        have HR190 := n2_
                        have HB := n3_
                        clear n0_ n1_ n2_ n3_
                        (try clear hb)
                        (try clear hb2)
                        (try clear hk)
                        (try clear hi)
                        have hroom66 := Xhroom66.out
                        have hA66 := XhA66.out
                        have hc66 := Xhc66.out
                        have hy66 := Xhy66.out
                        have q66_ := Xq66.out
                        have hC66 : Kd.C k32 _ Ao61 t181.length t181 := (Kd.R_reads' HO184.out).2.2
                        have hr66 := Kd.C_mid (lo := ((ji23) : Int).toNat) (hi := ((wrap64 ((ji23) + (Int.tmod (wrap64 (a2)) (wrap64 ((wrap64 ((t176.length : Int) - (ji23))) + 1))))) : Int).toNat) (c := co61) hC66 (by omega) (by omega) hroom66
                        rw [show ((t181).take ((wrap64 ((ji23) + (Int.tmod (wrap64 (a2)) (wrap64 ((wrap64 ((t176.length : Int) - (ji23))) + 1))))) : Int).toNat).drop ((ji23) : Int).toNat = y192 from Ny192.out.symm] at hr66
                        replace hr66 : Kd.C k32 _ A66 y192.length y192 := (by rw [hA66]; exact hr66)
                        have HR195 := Aside0.mk hr66
                        have HC195 := Aside0.mk (show y192.length ≤ c66 from by rw [hy66, hc66]; exact Nat.sub_le_sub_right (Nat.le_trans (by omega) hroom66) _)
                        clear hr66 hC66 hroom66 hc66
                        have KY66 := Aside0.mk hy66
                        have KA66 := Aside0.mk hA66
                        clear hy66 hA66
                        have KL66 := Aside0.mk (show ((wrap64 ((ji23) + (Int.tmod (wrap64 (a2)) (wrap64 ((wrap64 ((t176.length : Int) - (ji23))) + 1))))) : Int).toNat ≤ t181.length from by omega)
                        have KM66 := Aside0.mk (show ((ji23) : Int).toNat ≤ ((wrap64 ((ji23) + (Int.tmod (wrap64 (a2)) (wrap64 ((wrap64 ((t176.length : Int) - (ji23))) + 1))))) : Int).toNat from by omega)
                        clear q66_
                        refine hK.out _ _ trivial (fun hHeld => ?_)
                        clear hK K
                        refine norm_ (a' := ?_) ?_ ?_
                        rotate_left
                        · show Act.put _ (some 63) _ = _
                          simp only [Act.put, List.setIfInBounds_toArray, List.set_cons_zero, List.set_cons_succ, i64_w, i32_w]
                          rfl
                        refine one_ (i := 11) (N := some 68) #[true, true, true, true, true, true, true, true, true, true, true, true, false, false, false, false, false, false, false, false, false, false, false, false, false, false, false, false] rfl rfl (one_of HT_.out (by kernel_rfl)) (by decide) (fun K hK => ?_)
                        refine goes_ Tryd.func13 (by kernel_rfl) rfl #[.slice A66 y192.length c66] (by rfl) rfl rfl (by (try simp only [List.map_toArray, List.map_cons, List.map_nil]); first | done | rfl | (simp only [List.length_drop, List.length_take]; rfl)) ?_
                        with_reducible refine (slotcoderef08_Shape.calls k _ _ y192 t196 _ ?side1 ?side2 A31.out).mono ?_
                        (case side1 => repeat (first | exact (by repeat (first | (with_reducible exact HR195.out) | (with_reducible refine Kd.C_alloc ?_ _) | (with_reducible refine Kd.C_drewN ?_ _) | (with_reducible refine Kd.C_drew ?_) | exact HR195.out)) | (with_reducible refine Kd.C_alloc ?_ _) | (with_reducible refine Kd.C_drewN ?_ _) | (with_reducible refine Kd.C_drew ?_)))
                        (case side2 => exact HC195.out)
                        rintro e w67 ⟨rfl, hb⟩
                        refine ⟨_, rfl, ?_⟩
                        have n0_ := Aside0.mk (Kd.R_below (by (with_reducible repeat (first | apply Kd.R_alloc | apply Kd.R_drewN | apply Kd.R_drew)); exact HO180.out) hb)
                        have n1_ := Aside0.mk (Kd.R_below (by (with_reducible repeat (first | apply Kd.R_alloc | apply Kd.R_drewN | apply Kd.R_drew)); exact HO184.out) hb)
                        have n2_ := Aside0.mk (Kd.C_below (by repeat (first | (with_reducible exact HR190.out) | (with_reducible refine Kd.C_alloc ?_ _) | (with_reducible refine Kd.C_drewN ?_ _) | (with_reducible refine Kd.C_drew ?_) | exact HR190.out)) hb)
                        have n3_ := Aside0.mk (Kd.C_below (by repeat (first | (with_reducible exact HR195.out) | (with_reducible refine Kd.C_alloc ?_ _) | (with_reducible refine Kd.C_drewN ?_ _) | (with_reducible refine Kd.C_drew ?_) | exact HR195.out)) hb)
                        have n4_ := Aside0.mk (below_step (by repeat (first | (with_reducible first | exact HB.out | apply below_alloc | apply pw_below_drewN | apply below_drew1) | exact HB.out)) hb)
                        clear HO180
                        clear HO184
                        clear HR190
                        clear HR195
                        clear HB
                        have HO180 := n0_
                        have HO184 := n1_
                        have HR190 := n2_
                        have HR195 := n3_
                        have HB := n4_
                        clear n0_ n1_ n2_ n3_ n4_
                        (try clear hb)
                        (try clear hb2)
                        (try clear hk)
                        (try clear hi)
                        refine hK.out _ _ trivial (fun hHeld => ?_)
                        clear hK K
                        refine norm_ (a' := ?_) ?_ ?_
                        rotate_left
                        · show Act.put _ (some 68) _ = _
                          simp only [Act.put, List.setIfInBounds_toArray, List.set_cons_zero, List.set_cons_succ, i64_w, i32_w]
                          rfl
                        refine pure_ (i := 12) (N := some 69) (v := ?_) (a' := ?_) #[true, true, true, true, true, true, true, true, true, true, true, true, true, false, false, false, false, false, false, false, false, false, false, false, false, false, false, false] rfl rfl (any_of HT_.out (by kernel_rfl)) (fun _ _ _ h => h) (Or.inl ⟨by rfl, ?_⟩) ?_ ?_
                        rotate_left
                        · intro w'
                          go_simp
                          with_reducible rfl
                        rotate_left
                        · simp only [Act.put, List.setIfInBounds_toArray, List.set_cons_zero, List.set_cons_succ, i64_w, i32_w]
                          rfl
                        refine pure_ (i := 13) (N := some 70) (v := ?_) (a' := ?_) #[true, true, true, true, true, true, true, true, true, true, true, true, true, true, false, false, false, false, false, false, false, false, false, false, false, false, false, false] rfl rfl (any_of HT_.out (by kernel_rfl)) (fun _ _ _ h => h) (Or.inl ⟨by rfl, ?_⟩) ?_ ?_
                        rotate_left
                        · intro w'
                          go_simp
                          with_reducible rfl
                        rotate_left
                        · simp only [Act.put, List.setIfInBounds_toArray, List.set_cons_zero, List.set_cons_succ, i64_w, i32_w]
                          rfl
                        refine pure_ (i := 14) (N := some 71) (v := ?_) (a' := ?_) #[true, true, true, true, true, true, true, true, true, true, true, true, true, true, true, false, false, false, false, false, false, false, false, false, false, false, false, false] rfl rfl (any_of HT_.out (by kernel_rfl)) (fun _ _ _ h => h) (Or.inl ⟨by rfl, ?_⟩) ?_ ?_
                        rotate_left
                        · intro w'
                          go_simp
                          with_reducible rfl
                        rotate_left
                        · simp only [Act.put, List.setIfInBounds_toArray, List.set_cons_zero, List.set_cons_succ, i64_w, i32_w]
                          rfl
                        refine pure_ (i := 15) (N := some 72) (v := undef) (a' := ?_) #[true, true, true, true, true, true, true, true, true, true, true, true, true, true, true, true, false, false, false, false, false, false, false, false, false, false, false, false] rfl rfl (any_of HT_.out (by kernel_rfl)) (fun _ _ _ h => h) (Or.inr ⟨by rfl, rfl⟩) ?_ ?_
                        rotate_left
                        · simp only [Act.put, List.setIfInBounds_toArray, List.set_cons_zero, List.set_cons_succ, i64_w, i32_w]
                          rfl
                        refine pure_ (i := 16) (N := some 73) (v := undef) (a' := ?_) #[true, true, true, true, true, true, true, true, true, true, true, true, true, true, true, true, true, false, false, false, false, false, false, false, false, false, false, false] rfl rfl (any_of HT_.out (by kernel_rfl)) (fun _ _ _ h => h) (Or.inr ⟨by rfl, rfl⟩) ?_ ?_
                        rotate_left
                        · simp only [Act.put, List.setIfInBounds_toArray, List.set_cons_zero, List.set_cons_succ, i64_w, i32_w]
                          rfl
                        refine pure_ (i := 17) (N := some 74) (v := undef) (a' := ?_) #[true, true, true, true, true, true, true, true, true, true, true, true, true, true, true, true, true, true, false, false, false, false, false, false, false, false, false, false] rfl rfl (any_of HT_.out (by kernel_rfl)) (fun _ _ _ h => h) (Or.inr ⟨by rfl, rfl⟩) ?_ ?_
                        rotate_left
                        · simp only [Act.put, List.setIfInBounds_toArray, List.set_cons_zero, List.set_cons_succ, i64_w, i32_w]
                          rfl
                        refine pure_ (i := 18) (N := some 75) (v := undef) (a' := ?_) #[true, true, true, true, true, true, true, true, true, true, true, true, true, true, true, true, true, true, true, false, false, false, false, false, false, false, false, false] rfl rfl (any_of HT_.out (by kernel_rfl)) (fun _ _ _ h => h) (Or.inr ⟨by rfl, rfl⟩) ?_ ?_
                        rotate_left
                        · simp only [Act.put, List.setIfInBounds_toArray, List.set_cons_zero, List.set_cons_succ, i64_w, i32_w]
                          rfl
                        refine pure_ (i := 19) (N := some 76) (v := undef) (a' := ?_) #[true, true, true, true, true, true, true, true, true, true, true, true, true, true, true, true, true, true, true, true, false, false, false, false, false, false, false, false] rfl rfl (any_of HT_.out (by kernel_rfl)) (fun _ _ _ h => h) (Or.inr ⟨by rfl, rfl⟩) ?_ ?_
                        rotate_left
                        · simp only [Act.put, List.setIfInBounds_toArray, List.set_cons_zero, List.set_cons_succ, i64_w, i32_w]
                          rfl
                        refine pure_ (i := 20) (N := some 77) (v := undef) (a' := ?_) #[true, true, true, true, true, true, true, true, true, true, true, true, true, true, true, true, true, true, true, true, true, false, false, false, false, false, false, false] rfl rfl (any_of HT_.out (by kernel_rfl)) (fun _ _ _ h => h) (Or.inr ⟨by rfl, rfl⟩) ?_ ?_
                        rotate_left
                        · simp only [Act.put, List.setIfInBounds_toArray, List.set_cons_zero, List.set_cons_succ, i64_w, i32_w]
                          rfl
                        refine pure_ (i := 21) (N := some 78) (v := undef) (a' := ?_) #[true, true, true, true, true, true, true, true, true, true, true, true, true, true, true, true, true, true, true, true, true, true, false, false, false, false, false, false] rfl rfl (any_of HT_.out (by kernel_rfl)) (fun _ _ _ h => h) (Or.inr ⟨by rfl, rfl⟩) ?_ ?_
                        rotate_left
                        · simp only [Act.put, List.setIfInBounds_toArray, List.set_cons_zero, List.set_cons_succ, i64_w, i32_w]
                          rfl
                        refine pure_ (i := 22) (N := some 79) (v := undef) (a' := ?_) #[true, true, true, true, true, true, true, true, true, true, true, true, true, true, true, true, true, true, true, true, true, true, true, false, false, false, false, false] rfl rfl (any_of HT_.out (by kernel_rfl)) (fun _ _ _ h => h) (Or.inr ⟨by rfl, rfl⟩) ?_ ?_
                        rotate_left
                        · simp only [Act.put, List.setIfInBounds_toArray, List.set_cons_zero, List.set_cons_succ, i64_w, i32_w]
                          rfl
                        refine pure_ (i := 23) (N := some 80) (v := undef) (a' := ?_) #[true, true, true, true, true, true, true, true, true, true, true, true, true, true, true, true, true, true, true, true, true, true, true, true, false, false, false, false] rfl rfl (any_of HT_.out (by kernel_rfl)) (fun _ _ _ h => h) (Or.inr ⟨by rfl, rfl⟩) ?_ ?_
                        rotate_left
                        · simp only [Act.put, List.setIfInBounds_toArray, List.set_cons_zero, List.set_cons_succ, i64_w, i32_w]
                          rfl
                        refine pure_ (i := 24) (N := some 81) (v := undef) (a' := ?_) #[true, true, true, true, true, true, true, true, true, true, true, true, true, true, true, true, true, true, true, true, true, true, true, true, true, false, false, false] rfl rfl (any_of HT_.out (by kernel_rfl)) (fun _ _ _ h => h) (Or.inr ⟨by rfl, rfl⟩) ?_ ?_
                        rotate_left
                        · simp only [Act.put, List.setIfInBounds_toArray, List.set_cons_zero, List.set_cons_succ, i64_w, i32_w]
                          rfl
                        refine pure_ (i := 25) (N := some 82) (v := undef) (a' := ?_) #[true, true, true, true, true, true, true, true, true, true, true, true, true, true, true, true, true, true, true, true, true, true, true, true, true, true, false, false] rfl rfl (any_of HT_.out (by kernel_rfl)) (fun _ _ _ h => h) (Or.inr ⟨by rfl, rfl⟩) ?_ ?_
                        rotate_left
                        · simp only [Act.put, List.setIfInBounds_toArray, List.set_cons_zero, List.set_cons_succ, i64_w, i32_w]
                          rfl
                        refine pure_ (i := 26) (N := some 83) (v := ?_) (a' := ?_) #[true, true, true, true, true, true, true, true, true, true, true, true, true, true, true, true, true, true, true, true, true, true, true, true, true, true, true, false] rfl rfl (any_of HT_.out (by kernel_rfl)) (fun _ _ _ h => h) (Or.inl ⟨by rfl, ?_⟩) ?_ ?_
                        rotate_left
                        · intro w'
                          go_simp
                          with_reducible rfl
                        rotate_left
                        · simp only [Act.put, List.setIfInBounds_toArray, List.set_cons_zero, List.set_cons_succ, i64_w, i32_w]
                          rfl
                        refine pure_ (i := 27) (N := some 6) (v := ?_) (a' := ?_) #[true, true, true, true, true, true, true, true, true, true, true, true, true, true, true, true, true, true, true, true, true, true, true, true, true, true, true, true] rfl rfl (any_of HT_.out (by kernel_rfl)) (fun _ _ _ h => h) (Or.inl ⟨by rfl, ?_⟩) ?_ ?_
                        rotate_left
                        · intro w'
                          go_simp
                          with_reducible rfl
                        rotate_left
                        · simp only [Act.put, List.setIfInBounds_toArray, List.set_cons_zero, List.set_cons_succ, i64_w, i32_w]
                          rfl
                        refine done_ (done_of HT_.out (by kernel_rfl)) ?_
                        try go_wp2
                        go_ret
                        exact ⟨by first | rfl | (simp [errW_none, errW_some] <;> rfl) | (simp only [← hji23]; first | rfl | (simp [errW_none, errW_some] <;> rfl)) | (simp [*, errW_none, errW_some] <;> rfl), by repeat (first | (with_reducible first | exact HB.out | apply below_alloc | apply pw_below_drewN | apply below_drew1) | exact HB.out)⟩
                    · rw [if_neg c30] at H
                      exact absurd H (by simp)
                  · rw [if_neg c26] at H
                    exact absurd H (by simp)
                · rw [if_neg c25] at H
                  exact absurd H (by simp)
              · rw [if_neg c24] at H
                exact absurd H (by simp)
            · replace c22 := Bool.eq_false_iff.mpr c22
              subst c22
              have H1 : (some false) = some r := by rw [if_neg (show ¬ (false = true) by decide)] at H; exact H
              clear H
              have H := H1
              clear H1
              obtain rfl := Option.some.inj H
              go_enter Tryd.func4, Tryd.ntmps4
              try go_wp2_with (first | ((with_reducible refine gate_callee (f := 10) rfl ?_); refine goesL_ (some 20) rfl rfl Tryd.func10 (by kernel_rfl) rfl #[.string a0] rfl (by (try simp only [List.map_toArray, List.map_cons, List.map_nil]); first | done | rfl | (simp only [List.length_drop, List.length_take]; rfl)) ?_; (with_reducible refine (lex_Tokens.calls a0 t176 t177 t178 _ A7.out ?sideL).mono ?_); (case sideL => exact LaidI.below HL.out (by repeat (first | (with_reducible first | exact HB.out | exact Below.refl _ _ | apply below_alloc | apply pw_below_drewN | apply below_drew1) | refine below_set ?_ (Aside0.out (by assumption)) | exact HB.out | exact Below.refl _ _ | exact pw_below_drewN (Below.refl _ _) _))); rintro e w68 ⟨v179, rfl, ho0, hb⟩; refine ⟨_, rfl, ?_⟩; have n0_ := Aside0.mk (Kd.R_lower ho0 (below_size (by repeat (first | (with_reducible first | exact HB.out | apply below_alloc | apply pw_below_drewN | apply below_drew1) | exact HB.out)))); have n1_ := Aside0.mk (below_step (by repeat (first | (with_reducible first | exact HB.out | apply below_alloc | apply pw_below_drewN | apply below_drew1) | exact HB.out)) hb); clear HB; have HO180 := n0_; have HB := n1_; clear n0_ n1_; (try clear hb); (try clear hb2); (try clear hk); (try clear hi); (try clear ho0)) | ((with_reducible refine gate_callee (f := 11) rfl ?_); refine goesL_ (some 26) rfl rfl Tryd.func11 (by kernel_rfl) rfl #[.string a0] rfl (by (try simp only [List.map_toArray, List.map_cons, List.map_nil]); first | done | rfl | (simp only [List.length_drop, List.length_take]; rfl)) ?_; (with_reducible refine (slotcoderef08_Tokens.calls k a0 t181 t182 _ A8.out).mono ?_); rintro e w69 ⟨v183, rfl, ho0, hb⟩; refine ⟨_, rfl, ?_⟩; have n0_ := Aside0.mk (Kd.R_below (by (with_reducible repeat (first | apply Kd.R_alloc | apply Kd.R_drewN | apply Kd.R_drew)); exact HO180.out) hb); have n1_ := Aside0.mk (Kd.R_lower ho0 (below_size (by repeat (first | (with_reducible first | exact HB.out | apply below_alloc | apply pw_below_drewN | apply below_drew1) | exact HB.out)))); have n2_ := Aside0.mk (below_step (by repeat (first | (with_reducible first | exact HB.out | apply below_alloc | apply pw_below_drewN | apply below_drew1) | exact HB.out)) hb); clear HO180; clear HB; have HO180 := n0_; have HO184 := n1_; have HB := n2_; clear n0_ n1_ n2_; (try clear hb); (try clear hb2); (try clear hk); (try clear hi); (try clear ho0); obtain ⟨Ao70, co70, eo70⟩ := Kd.R_slice HO180.out; subst eo70; obtain ⟨Ao71, co71, eo71⟩ := Kd.R_slice HO184.out; subst eo71))
              have n0_ := Aside0.mk (Kd.R_drew HO180.out)
              have n1_ := Aside0.mk (Kd.R_drew HO184.out)
              have n2_ := Aside0.mk (below_drew1 HB.out)
              clear HO180
              clear HO184
              clear HB
              have HO180 := n0_
              have HO184 := n1_
              have HB := n2_
              clear n0_ n1_ n2_
              refine start_ (n := 28) (S := fun w' => True) (ds := []) #[false, false, false, false, false, false, false, false, false, false, false, false, false, false, false, false, false, false, false, false, false, false, false, false, false, false, false, false] (by kernel_rfl) rfl rfl trivial (fun hHeld => ?_); refine with_tabW slotcodelaw08_LexShapes.tab11 slotcodelaw08_LexShapes.bits11 (fun HT_ HW_ => ?_)
              generalize w69.drew = w72 at HO180 HO184 HB hHeld ⊢
              refine one_ (i := 0) (N := some 57) #[true, false, false, false, false, false, false, false, false, false, false, false, false, false, false, false, false, false, false, false, false, false, false, false, false, false, false, false] rfl rfl (one_of HT_.out (by kernel_rfl)) (by decide) (fun K hK => ?_)
              refine goes_ Tryd.func9 (by kernel_rfl) rfl #[] (by rfl) rfl rfl (by (try simp only [List.map_toArray, List.map_cons, List.map_nil]); first | done | rfl | (simp only [List.length_drop, List.length_take]; rfl)) ?_
              with_reducible refine (slotcodelaw08_alive.calls k  false _ A21.out ?sideL).mono ?_
              case sideL => exact LaidI.below HL.out (by repeat (first | (with_reducible first | exact HB.out | exact Below.refl _ _ | apply below_alloc | apply pw_below_drewN | apply below_drew1) | refine below_set ?_ (Aside0.out (by assumption)) | exact HB.out | exact Below.refl _ _ | exact pw_below_drewN (Below.refl _ _) _))
              rintro e w73 ⟨rfl, hb⟩
              refine ⟨_, rfl, ?_⟩
              have n0_ := Aside0.mk (Kd.R_below (by (with_reducible repeat (first | apply Kd.R_alloc | apply Kd.R_drewN | apply Kd.R_drew)); exact HO180.out) hb)
              have n1_ := Aside0.mk (Kd.R_below (by (with_reducible repeat (first | apply Kd.R_alloc | apply Kd.R_drewN | apply Kd.R_drew)); exact HO184.out) hb)
              have n2_ := Aside0.mk (below_step (by repeat (first | (with_reducible first | exact HB.out | apply below_alloc | apply pw_below_drewN | apply below_drew1) | exact HB.out)) hb)
              clear HO180
              clear HO184
              clear HB
              have HO180 := n0_
              have HO184 := n1_
              have HB := n2_
              clear n0_ n1_ n2_
              (try clear hb)
              (try clear hb2)
              (try clear hk)
              (try clear hi)
              refine hK.out _ _ trivial (fun hHeld => ?_)
              clear hK K
              refine norm_ (a' := ?_) ?_ ?_
              rotate_left
              · show Act.put _ (some 57) _ = _
                simp only [Act.put, List.setIfInBounds_toArray, List.set_cons_zero, List.set_cons_succ, i64_w, i32_w]
                rfl
              refine pure_ (i := 1) (N := some 58) (v := ?_) (a' := ?_) #[true, true, false, false, false, false, false, false, false, false, false, false, false, false, false, false, false, false, false, false, false, false, false, false, false, false, false, false] rfl rfl (any_of HT_.out (by kernel_rfl)) (fun _ _ _ h => h) (Or.inl ⟨by rfl, ?_⟩) ?_ ?_
              rotate_left
              · intro w'
                go_simp
                with_reducible rfl
              rotate_left
              · simp only [Act.put, List.setIfInBounds_toArray, List.set_cons_zero, List.set_cons_succ, i64_w, i32_w]
                rfl
              refine pure_ (i := 2) (N := some 59) (v := undef) (a' := ?_) #[true, true, true, false, false, false, false, false, false, false, false, false, false, false, false, false, false, false, false, false, false, false, false, false, false, false, false, false] rfl rfl (any_of HT_.out (by kernel_rfl)) (fun _ _ _ h => h) (Or.inr ⟨by rfl, rfl⟩) ?_ ?_
              rotate_left
              · simp only [Act.put, List.setIfInBounds_toArray, List.set_cons_zero, List.set_cons_succ, i64_w, i32_w]
                rfl
              refine pure_ (i := 3) (N := some 60) (v := undef) (a' := ?_) #[true, true, true, true, false, false, false, false, false, false, false, false, false, false, false, false, false, false, false, false, false, false, false, false, false, false, false, false] rfl rfl (any_of HT_.out (by kernel_rfl)) (fun _ _ _ h => h) (Or.inr ⟨by rfl, rfl⟩) ?_ ?_
              rotate_left
              · simp only [Act.put, List.setIfInBounds_toArray, List.set_cons_zero, List.set_cons_succ, i64_w, i32_w]
                rfl
              refine pure_ (i := 4) (N := some 61) (v := undef) (a' := ?_) #[true, true, true, true, true, false, false, false, false, false, false, false, false, false, false, false, false, false, false, false, false, false, false, false, false, false, false, false] rfl rfl (any_of HT_.out (by kernel_rfl)) (fun _ _ _ h => h) (Or.inr ⟨by rfl, rfl⟩) ?_ ?_
              rotate_left
              · simp only [Act.put, List.setIfInBounds_toArray, List.set_cons_zero, List.set_cons_succ, i64_w, i32_w]
                rfl
              refine pure_ (i := 5) (N := some 62) (v := undef) (a' := ?_) #[true, true, true, true, true, true, false, false, false, false, false, false, false, false, false, false, false, false, false, false, false, false, false, false, false, false, false, false] rfl rfl (any_of HT_.out (by kernel_rfl)) (fun _ _ _ h => h) (Or.inr ⟨by rfl, rfl⟩) ?_ ?_
              rotate_left
              · simp only [Act.put, List.setIfInBounds_toArray, List.set_cons_zero, List.set_cons_succ, i64_w, i32_w]
                rfl
              refine pure_ (i := 6) (N := some 63) (v := undef) (a' := ?_) #[true, true, true, true, true, true, true, false, false, false, false, false, false, false, false, false, false, false, false, false, false, false, false, false, false, false, false, false] rfl rfl (any_of HT_.out (by kernel_rfl)) (fun _ _ _ h => h) (Or.inr ⟨by rfl, rfl⟩) ?_ ?_
              rotate_left
              · simp only [Act.put, List.setIfInBounds_toArray, List.set_cons_zero, List.set_cons_succ, i64_w, i32_w]
                rfl
              refine pure_ (i := 7) (N := some 64) (v := undef) (a' := ?_) #[true, true, true, true, true, true, true, true, false, false, false, false, false, false, false, false, false, false, false, false, false, false, false, false, false, false, false, false] rfl rfl (any_of HT_.out (by kernel_rfl)) (fun _ _ _ h => h) (Or.inr ⟨by rfl, rfl⟩) ?_ ?_
              rotate_left
              · simp only [Act.put, List.setIfInBounds_toArray, List.set_cons_zero, List.set_cons_succ, i64_w, i32_w]
                rfl
              refine pure_ (i := 8) (N := some 65) (v := undef) (a' := ?_) #[true, true, true, true, true, true, true, true, true, false, false, false, false, false, false, false, false, false, false, false, false, false, false, false, false, false, false, false] rfl rfl (any_of HT_.out (by kernel_rfl)) (fun _ _ _ h => h) (Or.inr ⟨by rfl, rfl⟩) ?_ ?_
              rotate_left
              · simp only [Act.put, List.setIfInBounds_toArray, List.set_cons_zero, List.set_cons_succ, i64_w, i32_w]
                rfl
              refine pure_ (i := 9) (N := some 66) (v := undef) (a' := ?_) #[true, true, true, true, true, true, true, true, true, true, false, false, false, false, false, false, false, false, false, false, false, false, false, false, false, false, false, false] rfl rfl (any_of HT_.out (by kernel_rfl)) (fun _ _ _ h => h) (Or.inr ⟨by rfl, rfl⟩) ?_ ?_
              rotate_left
              · simp only [Act.put, List.setIfInBounds_toArray, List.set_cons_zero, List.set_cons_succ, i64_w, i32_w]
                rfl
              refine pure_ (i := 10) (N := some 67) (v := undef) (a' := ?_) #[true, true, true, true, true, true, true, true, true, true, true, false, false, false, false, false, false, false, false, false, false, false, false, false, false, false, false, false] rfl rfl (any_of HT_.out (by kernel_rfl)) (fun _ _ _ h => h) (Or.inr ⟨by rfl, rfl⟩) ?_ ?_
              rotate_left
              · simp only [Act.put, List.setIfInBounds_toArray, List.set_cons_zero, List.set_cons_succ, i64_w, i32_w]
                rfl
              refine pure_ (i := 11) (N := some 68) (v := undef) (a' := ?_) #[true, true, true, true, true, true, true, true, true, true, true, true, false, false, false, false, false, false, false, false, false, false, false, false, false, false, false, false] rfl rfl (any_of HT_.out (by kernel_rfl)) (fun _ _ _ h => h) (Or.inr ⟨by rfl, rfl⟩) ?_ ?_
              rotate_left
              · simp only [Act.put, List.setIfInBounds_toArray, List.set_cons_zero, List.set_cons_succ, i64_w, i32_w]
                rfl
              refine pure_ (i := 12) (N := some 69) (v := undef) (a' := ?_) #[true, true, true, true, true, true, true, true, true, true, true, true, true, false, false, false, false, false, false, false, false, false, false, false, false, false, false, false] rfl rfl (any_of HT_.out (by kernel_rfl)) (fun _ _ _ h => h) (Or.inr ⟨by rfl, rfl⟩) ?_ ?_
              rotate_left
              · simp only [Act.put, List.setIfInBounds_toArray, List.set_cons_zero, List.set_cons_succ, i64_w, i32_w]
                rfl
              refine pure_ (i := 13) (N := some 70) (v := ?_) (a' := ?_) #[true, true, true, true, true, true, true, true, true, true, true, true, true, true, false, false, false, false, false, false, false, false, false, false, false, false, false, false] rfl rfl (any_of HT_.out (by kernel_rfl)) (fun _ _ _ h => h) (Or.inl ⟨by rfl, ?_⟩) ?_ ?_
              rotate_left
              · intro w'
                go_simp
                with_reducible rfl
              rotate_left
              · simp only [Act.put, List.setIfInBounds_toArray, List.set_cons_zero, List.set_cons_succ, i64_w, i32_w]
                rfl
              refine pure_ (i := 14) (N := some 71) (v := ?_) (a' := ?_) #[true, true, true, true, true, true, true, true, true, true, true, true, true, true, true, false, false, false, false, false, false, false, false, false, false, false, false, false] rfl rfl (any_of HT_.out (by kernel_rfl)) (fun _ _ _ h => h) (Or.inl ⟨by rfl, ?_⟩) ?_ ?_
              rotate_left
              · intro w'
                go_simp
                with_reducible rfl
              rotate_left
              · simp only [Act.put, List.setIfInBounds_toArray, List.set_cons_zero, List.set_cons_succ, i64_w, i32_w]
                rfl
              refine pure_ (i := 15) (N := some 72) (v := undef) (a' := ?_) #[true, true, true, true, true, true, true, true, true, true, true, true, true, true, true, true, false, false, false, false, false, false, false, false, false, false, false, false] rfl rfl (any_of HT_.out (by kernel_rfl)) (fun _ _ _ h => h) (Or.inr ⟨by rfl, rfl⟩) ?_ ?_
              rotate_left
              · simp only [Act.put, List.setIfInBounds_toArray, List.set_cons_zero, List.set_cons_succ, i64_w, i32_w]
                rfl
              refine pure_ (i := 16) (N := some 73) (v := undef) (a' := ?_) #[true, true, true, true, true, true, true, true, true, true, true, true, true, true, true, true, true, false, false, false, false, false, false, false, false, false, false, false] rfl rfl (any_of HT_.out (by kernel_rfl)) (fun _ _ _ h => h) (Or.inr ⟨by rfl, rfl⟩) ?_ ?_
              rotate_left
              · simp only [Act.put, List.setIfInBounds_toArray, List.set_cons_zero, List.set_cons_succ, i64_w, i32_w]
                rfl
              refine pure_ (i := 17) (N := some 74) (v := undef) (a' := ?_) #[true, true, true, true, true, true, true, true, true, true, true, true, true, true, true, true, true, true, false, false, false, false, false, false, false, false, false, false] rfl rfl (any_of HT_.out (by kernel_rfl)) (fun _ _ _ h => h) (Or.inr ⟨by rfl, rfl⟩) ?_ ?_
              rotate_left
              · simp only [Act.put, List.setIfInBounds_toArray, List.set_cons_zero, List.set_cons_succ, i64_w, i32_w]
                rfl
              refine pure_ (i := 18) (N := some 75) (v := undef) (a' := ?_) #[true, true, true, true, true, true, true, true, true, true, true, true, true, true, true, true, true, true, true, false, false, false, false, false, false, false, false, false] rfl rfl (any_of HT_.out (by kernel_rfl)) (fun _ _ _ h => h) (Or.inr ⟨by rfl, rfl⟩) ?_ ?_
              rotate_left
              · simp only [Act.put, List.setIfInBounds_toArray, List.set_cons_zero, List.set_cons_succ, i64_w, i32_w]
                rfl
              refine pure_ (i := 19) (N := some 76) (v := undef) (a' := ?_) #[true, true, true, true, true, true, true, true, true, true, true, true, true, true, true, true, true, true, true, true, false, false, false, false, false, false, false, false] rfl rfl (any_of HT_.out (by kernel_rfl)) (fun _ _ _ h => h) (Or.inr ⟨by rfl, rfl⟩) ?_ ?_
              rotate_left
              · simp only [Act.put, List.setIfInBounds_toArray, List.set_cons_zero, List.set_cons_succ, i64_w, i32_w]
                rfl
              refine pure_ (i := 20) (N := some 77) (v := undef) (a' := ?_) #[true, true, true, true, true, true, true, true, true, true, true, true, true, true, true, true, true, true, true, true, true, false, false, false, false, false, false, false] rfl rfl (any_of HT_.out (by kernel_rfl)) (fun _ _ _ h => h) (Or.inr ⟨by rfl, rfl⟩) ?_ ?_
              rotate_left
              · simp only [Act.put, List.setIfInBounds_toArray, List.set_cons_zero, List.set_cons_succ, i64_w, i32_w]
                rfl
              refine pure_ (i := 21) (N := some 78) (v := undef) (a' := ?_) #[true, true, true, true, true, true, true, true, true, true, true, true, true, true, true, true, true, true, true, true, true, true, false, false, false, false, false, false] rfl rfl (any_of HT_.out (by kernel_rfl)) (fun _ _ _ h => h) (Or.inr ⟨by rfl, rfl⟩) ?_ ?_
              rotate_left
              · simp only [Act.put, List.setIfInBounds_toArray, List.set_cons_zero, List.set_cons_succ, i64_w, i32_w]
                rfl
              refine pure_ (i := 22) (N := some 79) (v := undef) (a' := ?_) #[true, true, true, true, true, true, true, true, true, true, true, true, true, true, true, true, true, true, true, true, true, true, true, false, false, false, false, false] rfl rfl (any_of HT_.out (by kernel_rfl)) (fun _ _ _ h => h) (Or.inr ⟨by rfl, rfl⟩) ?_ ?_
              rotate_left
              · simp only [Act.put, List.setIfInBounds_toArray, List.set_cons_zero, List.set_cons_succ, i64_w, i32_w]
                rfl
              refine pure_ (i := 23) (N := some 80) (v := undef) (a' := ?_) #[true, true, true, true, true, true, true, true, true, true, true, true, true, true, true, true, true, true, true, true, true, true, true, true, false, false, false, false] rfl rfl (any_of HT_.out (by kernel_rfl)) (fun _ _ _ h => h) (Or.inr ⟨by rfl, rfl⟩) ?_ ?_
              rotate_left
              · simp only [Act.put, List.setIfInBounds_toArray, List.set_cons_zero, List.set_cons_succ, i64_w, i32_w]
                rfl
              refine pure_ (i := 24) (N := some 81) (v := undef) (a' := ?_) #[true, true, true, true, true, true, true, true, true, true, true, true, true, true, true, true, true, true, true, true, true, true, true, true, true, false, false, false] rfl rfl (any_of HT_.out (by kernel_rfl)) (fun _ _ _ h => h) (Or.inr ⟨by rfl, rfl⟩) ?_ ?_
              rotate_left
              · simp only [Act.put, List.setIfInBounds_toArray, List.set_cons_zero, List.set_cons_succ, i64_w, i32_w]
                rfl
              refine pure_ (i := 25) (N := some 82) (v := undef) (a' := ?_) #[true, true, true, true, true, true, true, true, true, true, true, true, true, true, true, true, true, true, true, true, true, true, true, true, true, true, false, false] rfl rfl (any_of HT_.out (by kernel_rfl)) (fun _ _ _ h => h) (Or.inr ⟨by rfl, rfl⟩) ?_ ?_
              rotate_left
              · simp only [Act.put, List.setIfInBounds_toArray, List.set_cons_zero, List.set_cons_succ, i64_w, i32_w]
                rfl
              refine pure_ (i := 26) (N := some 83) (v := ?_) (a' := ?_) #[true, true, true, true, true, true, true, true, true, true, true, true, true, true, true, true, true, true, true, true, true, true, true, true, true, true, true, false] rfl rfl (any_of HT_.out (by kernel_rfl)) (fun _ _ _ h => h) (Or.inl ⟨by rfl, ?_⟩) ?_ ?_
              rotate_left
              · intro w'
                go_simp
                with_reducible rfl
              rotate_left
              · simp only [Act.put, List.setIfInBounds_toArray, List.set_cons_zero, List.set_cons_succ, i64_w, i32_w]
                rfl
              refine pure_ (i := 27) (N := some 6) (v := ?_) (a' := ?_) #[true, true, true, true, true, true, true, true, true, true, true, true, true, true, true, true, true, true, true, true, true, true, true, true, true, true, true, true] rfl rfl (any_of HT_.out (by kernel_rfl)) (fun _ _ _ h => h) (Or.inl ⟨by rfl, ?_⟩) ?_ ?_
              rotate_left
              · intro w'
                go_simp
                with_reducible rfl
              rotate_left
              · simp only [Act.put, List.setIfInBounds_toArray, List.set_cons_zero, List.set_cons_succ, i64_w, i32_w]
                rfl
              refine done_ (done_of HT_.out (by kernel_rfl)) ?_
              try go_wp2
              go_ret
              exact ⟨by first | rfl | (simp [errW_none, errW_some] <;> rfl) | (simp [*, errW_none, errW_some] <;> rfl), by repeat (first | (with_reducible first | exact HB.out | apply below_alloc | apply pw_below_drewN | apply below_drew1) | exact HB.out)⟩
      · rw [if_neg c18] at H
        have c18b0 : ((t176.length : Int) == (t181.length : Int)) = false := beq_eq_false_iff_ne.mpr c18
        have c18b1 : ((t176.length : Int) != (t181.length : Int)) = true := bne_iff_ne.mpr c18
        have c18b2 : (t176.length == t181.length) = false := by first | simpa using c18 | (simp at c18 ⊢; omega)
        obtain rfl := Option.some.inj H
        go_enter Tryd.func4, Tryd.ntmps4
        go_wp2_with (first | ((with_reducible refine gate_callee (f := 10) rfl ?_); refine goesL_ (some 20) rfl rfl Tryd.func10 (by kernel_rfl) rfl #[.string a0] rfl (by (try simp only [List.map_toArray, List.map_cons, List.map_nil]); first | done | rfl | (simp only [List.length_drop, List.length_take]; rfl)) ?_; (with_reducible refine (lex_Tokens.calls a0 t176 t177 t178 _ A7.out ?sideL).mono ?_); (case sideL => exact LaidI.below HL.out (by repeat (first | (with_reducible first | exact HB.out | exact Below.refl _ _ | apply below_alloc | apply pw_below_drewN | apply below_drew1) | refine below_set ?_ (Aside0.out (by assumption)) | exact HB.out | exact Below.refl _ _ | exact pw_below_drewN (Below.refl _ _) _))); rintro e w74 ⟨v179, rfl, ho0, hb⟩; refine ⟨_, rfl, ?_⟩; have n0_ := Aside0.mk (Kd.R_lower ho0 (below_size (by repeat (first | (with_reducible first | exact HB.out | apply below_alloc | apply pw_below_drewN | apply below_drew1) | exact HB.out)))); have n1_ := Aside0.mk (below_step (by repeat (first | (with_reducible first | exact HB.out | apply below_alloc | apply pw_below_drewN | apply below_drew1) | exact HB.out)) hb); clear HB; have HO180 := n0_; have HB := n1_; clear n0_ n1_; (try clear hb); (try clear hb2); (try clear hk); (try clear hi); (try clear ho0)) | ((with_reducible refine gate_callee (f := 11) rfl ?_); refine goesL_ (some 26) rfl rfl Tryd.func11 (by kernel_rfl) rfl #[.string a0] rfl (by (try simp only [List.map_toArray, List.map_cons, List.map_nil]); first | done | rfl | (simp only [List.length_drop, List.length_take]; rfl)) ?_; (with_reducible refine (slotcoderef08_Tokens.calls k a0 t181 t182 _ A8.out).mono ?_); rintro e w75 ⟨v183, rfl, ho0, hb⟩; refine ⟨_, rfl, ?_⟩; have n0_ := Aside0.mk (Kd.R_below (by (with_reducible repeat (first | apply Kd.R_alloc | apply Kd.R_drewN | apply Kd.R_drew)); exact HO180.out) hb); have n1_ := Aside0.mk (Kd.R_lower ho0 (below_size (by repeat (first | (with_reducible first | exact HB.out | apply below_alloc | apply pw_below_drewN | apply below_drew1) | exact HB.out)))); have n2_ := Aside0.mk (below_step (by repeat (first | (with_reducible first | exact HB.out | apply below_alloc | apply pw_below_drewN | apply below_drew1) | exact HB.out)) hb); clear HO180; clear HB; have HO180 := n0_; have HO184 := n1_; have HB := n2_; clear n0_ n1_ n2_; (try clear hb); (try clear hb2); (try clear hk); (try clear hi); (try clear ho0); obtain ⟨Ao76, co76, eo76⟩ := Kd.R_slice HO180.out; subst eo76; obtain ⟨Ao77, co77, eo77⟩ := Kd.R_slice HO184.out; subst eo77))
        go_ret
        exact ⟨by first | rfl | (simp [errW_none, errW_some] <;> rfl) | (simp [*, errW_none, errW_some] <;> rfl), by repeat (first | (with_reducible first | exact HB.out | apply below_alloc | apply pw_below_drewN | apply below_drew1) | exact HB.out)⟩

/-- THE ONE PURE STATEMENT of slotcodelaw08_LexShapes: yours. -/
def slotcodelaw08_LexShapes.Pure : Prop := ∀ (a0 : ByteArray) (a1 : Int) (a2 : Int), a0.size ≤ 140737488351232 → (Lit.int .u8 a1).wf = true → (Lit.int .u8 a2).wf = true → ∃ k, slotcodelaw08_LexShapes.f k a0 a1 a2 = some true
theorem slotcodelaw08_LexShapes.walk (P : slotcodelaw08_LexShapes.Pure) (a0 : ByteArray) (a1 : Int) (a2 : Int) (w : World) (w0 : a0.size ≤ 140737488351232) (w1 : (Lit.int .u8 a1).wf = true) (w2 : (Lit.int .u8 a2).wf = true) (hL : LaidI w) :
    Calls Tryd.prog 4 #[.string a0, .int .u8 a1, .int .u8 a2] w fun e w' => e = .returned (.bool true) ∧ Below w.heap.size w w' := by
  obtain ⟨k, h⟩ := P a0 a1 a2 w0 w1 w2
  refine (slotcodelaw08_LexShapes.calls k a0 a1 a2 true w h hL).mono ?_
  rintro e w' ⟨rfl, hd⟩
  exact ⟨rfl, hd⟩

end Go.Proofs.YtdjljggdbflohaaDoor.PAll
