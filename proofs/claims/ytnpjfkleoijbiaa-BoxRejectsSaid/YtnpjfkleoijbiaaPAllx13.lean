-- By a program of this session (xp.py) over the kit's print, with texts of this session.
import Derived.Test.YtnpjfkleoijbiaaPAllx0
import Derived.Test.YtnpjfkleoijbiaaPAllx10
import Derived.Test.YtnpjfkleoijbiaaPAllx11
import Derived.Test.YtnpjfkleoijbiaaPAllx12
import Derived.Lib.SlBytesConst
namespace Go.Proofs.Ytnpjfkleoijbiaa.PAll
open Go.RowKit Go.Proofs.YtnpjfkleoijbiaaW.PrintWords Go.Proofs.YtnpjfkleoijbiaaW.PrintLast Go.Proofs.YtnpjfkleoijbiaaW.PrintMore
attribute [local go_sem] max2_int min2_int max_two min_two max_three min_three max_four min_four   -- for this text's walks alone
set_option linter.unusedVariables false
set_option linter.unusedSimpArgs false

-- EXTERN
-- XIMPORT Derived.Lib.SlBytesConst
/-! ### slotcoderef15_Write: function 17 -/
mutual
def slotcoderef15_Write.l0 : Nat → List (S46) → List Int → Int → Int → Option (List Int)
  | 0, _, _, _, _ => none
  | k + 1, x0, x3, x4, x5 => if x5 < (x0.length : Int) then (if 0 ≤ x5 then ((slotcoderef15_number.f k x3 ((rd_T46 x0 x5).f0) 4).bind fun t153 => ((slotcoderef15_number.f k t153 x4 4).bind fun t156 => ((slotcoderef15_number.f k t156 (((rd_T46 x0 x5).f1).length : Int) 4).bind fun t160 => ((slotcoderef15_up.f (((rd_T46 x0 x5).f1).length : Int)).bind fun t164 => (slotcoderef15_Write.l0 k x0 t160 (wrap64 (x4 + t164)) (wrap64 (x5 + 1))))))) else (none)) else ((slotcoderef15_pad.f k x3).bind fun t165 => (slotcoderef15_Write.l1 k x0 t165 0))
def slotcoderef15_Write.l1 : Nat → List (S46) → List Int → Int → Option (List Int)
  | 0, _, _, _ => none
  | k + 1, x0, x3, x6 => if x6 < (x0.length : Int) then (if 0 ≤ x6 then (if x3.length + ((rd_T46 x0 x6).f1).length < 140737488355328 then ((slotcoderef15_pad.f k (x3 ++ ((rd_T46 x0 x6).f1))).bind fun t172 => (slotcoderef15_Write.l1 k x0 t172 (wrap64 (x6 + 1)))) else (none)) else (none)) else (some x3)
end
def slotcoderef15_Write.f (k : Nat) (l0 : List (S46)) : Option (List Int) := (slotcoderef15_number.f k (([83, 76, 67, 49] : List Int)) 1 2).bind fun t138 => ((slotcoderef15_number.f k t138 (l0.length : Int) 2).bind fun t141 => ((slotcoderef15_Size.f k l0).bind fun t144 => ((slotcoderef15_number.f k t141 t144 4).bind fun t145 => ((slotcoderef15_number.f k t145 0 4).bind fun t148 => ((slotcoderef15_up.f (wrap64 (16 + (wrap64 (12 * (l0.length : Int)))))).bind fun t151 => (slotcoderef15_Write.l0 k l0 t148 t151 0))))))
theorem slotcoderef15_Write.mono_l : ∀ k, (∀ y0 y1 y2 y3, LeO (slotcoderef15_Write.l0 k y0 y1 y2 y3) (slotcoderef15_Write.l0 (k + 1) y0 y1 y2 y3)) ∧ (∀ y0 y1 y2, LeO (slotcoderef15_Write.l1 k y0 y1 y2) (slotcoderef15_Write.l1 (k + 1) y0 y1 y2))
  | 0 => ⟨fun _ _ _ _ r h => by simp [slotcoderef15_Write.l0] at h, fun _ _ _ r h => by simp [slotcoderef15_Write.l1] at h⟩
  | k + 1 => by
    obtain ⟨ih0, ih1⟩ := slotcoderef15_Write.mono_l k
    refine ⟨?_, ?_⟩
    · intro y0 y1 y2 y3
      unfold slotcoderef15_Write.l0
      repeat' first
      | (with_reducible exact ih0 _ _ _ _)
      | (with_reducible exact ih1 _ _ _)
      | (with_reducible exact slotcoderef15_Size.mono _ _)
      | (with_reducible exact slotcoderef15_number.mono _ _ _ _)
      | (with_reducible exact slotcoderef15_pad.mono _ _)
      | (with_reducible exact LeO.refl _)
      | (with_reducible exact LeO.none _)
      | (with_reducible refine LeO.ite ?_ ?_)
      | (with_reducible refine LeO.bind ?_ (fun _ => ?_))
      | exact ih0 _ _ _ _
      | exact ih1 _ _ _
      | exact slotcoderef15_Size.mono _ _
      | exact slotcoderef15_number.mono _ _ _ _
      | exact slotcoderef15_pad.mono _ _
      | exact LeO.none _
      | refine LeO.ite ?_ ?_
      | refine LeO.bind ?_ (fun _ => ?_)
    · intro y0 y1 y2
      unfold slotcoderef15_Write.l1
      repeat' first
      | (with_reducible exact ih0 _ _ _ _)
      | (with_reducible exact ih1 _ _ _)
      | (with_reducible exact slotcoderef15_Size.mono _ _)
      | (with_reducible exact slotcoderef15_number.mono _ _ _ _)
      | (with_reducible exact slotcoderef15_pad.mono _ _)
      | (with_reducible exact LeO.refl _)
      | (with_reducible exact LeO.none _)
      | (with_reducible refine LeO.ite ?_ ?_)
      | (with_reducible refine LeO.bind ?_ (fun _ => ?_))
      | exact ih0 _ _ _ _
      | exact ih1 _ _ _
      | exact slotcoderef15_Size.mono _ _
      | exact slotcoderef15_number.mono _ _ _ _
      | exact slotcoderef15_pad.mono _ _
      | exact LeO.none _
      | refine LeO.ite ?_ ?_
      | refine LeO.bind ?_ (fun _ => ?_)
theorem slotcoderef15_Write.mono : ∀ a0 k, LeO (slotcoderef15_Write.f k a0) (slotcoderef15_Write.f (k + 1) a0) := by
  intro a0 k
  obtain ⟨ih0, ih1⟩ := slotcoderef15_Write.mono_l k
  unfold slotcoderef15_Write.f
  repeat' first
      | (with_reducible exact ih0 _ _ _ _)
      | (with_reducible exact ih1 _ _ _)
      | (with_reducible exact slotcoderef15_Size.mono _ _)
      | (with_reducible exact slotcoderef15_number.mono _ _ _ _)
      | (with_reducible exact slotcoderef15_pad.mono _ _)
      | (with_reducible exact LeO.refl _)
      | (with_reducible exact LeO.none _)
      | (with_reducible refine LeO.ite ?_ ?_)
      | (with_reducible refine LeO.bind ?_ (fun _ => ?_))
      | exact ih0 _ _ _ _
      | exact ih1 _ _ _
      | exact slotcoderef15_Size.mono _ _
      | exact slotcoderef15_number.mono _ _ _ _
      | exact slotcoderef15_pad.mono _ _
      | exact LeO.none _
      | refine LeO.ite ?_ ?_
      | refine LeO.bind ?_ (fun _ => ?_)
theorem lit4 (w : World) : Kd.C (Kd.int .u8) (w.alloc (.cells #[.int .u8 83, .int .u8 76, .int .u8 67, .int .u8 49] 5 (4, 5))) (some ⟨w.heap.size, 0, none⟩) 4 [83, 76, 67, 49] := by
  refine Kd.C_of_reads (d := (0 : Int)) ⟨rfl, by decide, fun _ => ⟨_, rfl, fun j hj => ?_⟩⟩
  rw [add_plain, World.cell?, heap_alloc_new]
  match j, hj with
  | 0, _ => rfl
  | 1, _ => rfl
  | 2, _ => rfl
  | 3, _ => rfl
set_option maxHeartbeats 8000000 in
set_option maxRecDepth 100000 in
theorem slotcoderef15_Write.calls (k : Nat) (A0 : Option Addr) (c0 : Nat) (l0 : List (S46)) (r : List Int) (w : World) (hr0 : Kd.C k46 w A0 l0.length l0) (hc0 : l0.length ≤ c0) (h : slotcoderef15_Write.f k l0 = some r) :
    Calls Try.prog 17 #[.slice A0 l0.length c0] w fun e w' => ∃ v0_ : Value, e = .returned (v0_) ∧ Kd.R (Kd.int .u8) 5 w' w.heap.size (fun _ => True) v0_ r ∧ Below w.heap.size w w' := by
  have HR0 := Aside0.mk hr0
  have HC0 := Aside0.mk hc0
  clear hr0 hc0
  have HB := Aside0.mk (Below.refl w.heap.size w)
  have H : ((slotcoderef15_number.f k (([83, 76, 67, 49] : List Int)) 1 2).bind fun t138 => ((slotcoderef15_number.f k t138 (l0.length : Int) 2).bind fun t141 => ((slotcoderef15_Size.f k l0).bind fun t144 => ((slotcoderef15_number.f k t141 t144 4).bind fun t145 => ((slotcoderef15_number.f k t145 0 4).bind fun t148 => ((slotcoderef15_up.f (wrap64 (16 + (wrap64 (12 * (l0.length : Int)))))).bind fun t151 => (slotcoderef15_Write.l0 k l0 t148 t151 0))))))) = some r := h
  clear h
  obtain ⟨y135, hy135⟩ : ∃ y_ : List Int, y_ = (([83, 76, 67, 49] : List Int)) := ⟨_, rfl⟩
  replace H : ((slotcoderef15_number.f k y135 1 2).bind fun t138 => ((slotcoderef15_number.f k t138 (l0.length : Int) 2).bind fun t141 => ((slotcoderef15_Size.f k l0).bind fun t144 => ((slotcoderef15_number.f k t141 t144 4).bind fun t145 => ((slotcoderef15_number.f k t145 0 4).bind fun t148 => ((slotcoderef15_up.f (wrap64 (16 + (wrap64 (12 * (l0.length : Int)))))).bind fun t151 => (slotcoderef15_Write.l0 k l0 t148 t151 0))))))) = some r := by first | (rw [hy135]; with_reducible exact H) | (have H2_ := (Option.bind_some _ _).symm.trans H; rw [hy135]; with_reducible exact H2_) | (have H2_ := (Option.bind_some _ _).symm.trans H; with_reducible exact H2_) | with_reducible exact H | (rw [hy135]; exact H) | exact H
  have Ny135 := Aside0.mk hy135
  clear hy135
  replace H := Option.bind_eq_some_iff.mp H
  obtain ⟨t138, A20, H⟩ := H
  replace H : ((slotcoderef15_number.f k t138 (l0.length : Int) 2).bind fun t141 => ((slotcoderef15_Size.f k l0).bind fun t144 => ((slotcoderef15_number.f k t141 t144 4).bind fun t145 => ((slotcoderef15_number.f k t145 0 4).bind fun t148 => ((slotcoderef15_up.f (wrap64 (16 + (wrap64 (12 * (l0.length : Int)))))).bind fun t151 => (slotcoderef15_Write.l0 k l0 t148 t151 0)))))) = some r := H
  have A2 := Aside0.mk A20
  clear A20
  replace H := Option.bind_eq_some_iff.mp H
  obtain ⟨t141, A30, H⟩ := H
  replace H : ((slotcoderef15_Size.f k l0).bind fun t144 => ((slotcoderef15_number.f k t141 t144 4).bind fun t145 => ((slotcoderef15_number.f k t145 0 4).bind fun t148 => ((slotcoderef15_up.f (wrap64 (16 + (wrap64 (12 * (l0.length : Int)))))).bind fun t151 => (slotcoderef15_Write.l0 k l0 t148 t151 0))))) = some r := H
  have A3 := Aside0.mk A30
  clear A30
  replace H := Option.bind_eq_some_iff.mp H
  obtain ⟨t144, A40, H⟩ := H
  replace H : ((slotcoderef15_number.f k t141 t144 4).bind fun t145 => ((slotcoderef15_number.f k t145 0 4).bind fun t148 => ((slotcoderef15_up.f (wrap64 (16 + (wrap64 (12 * (l0.length : Int)))))).bind fun t151 => (slotcoderef15_Write.l0 k l0 t148 t151 0)))) = some r := H
  have A4 := Aside0.mk A40
  clear A40
  replace H := Option.bind_eq_some_iff.mp H
  obtain ⟨t145, A50, H⟩ := H
  replace H : ((slotcoderef15_number.f k t145 0 4).bind fun t148 => ((slotcoderef15_up.f (wrap64 (16 + (wrap64 (12 * (l0.length : Int)))))).bind fun t151 => (slotcoderef15_Write.l0 k l0 t148 t151 0))) = some r := H
  have A5 := Aside0.mk A50
  clear A50
  replace H := Option.bind_eq_some_iff.mp H
  obtain ⟨t148, A60, H⟩ := H
  replace H : ((slotcoderef15_up.f (wrap64 (16 + (wrap64 (12 * (l0.length : Int)))))).bind fun t151 => (slotcoderef15_Write.l0 k l0 t148 t151 0)) = some r := H
  have A6 := Aside0.mk A60
  clear A60
  replace H := Option.bind_eq_some_iff.mp H
  obtain ⟨t151, A70, H⟩ := H
  replace H : (slotcoderef15_Write.l0 k l0 t148 t151 0) = some r := H
  have A7 := Aside0.mk A70
  clear A70
  have H' := Aside0.mk H
  clear H
  have HB0 := HB; have hlit_ : Kd.C (Kd.int .u8) (w.alloc (.cells #[.int .u8 83, .int .u8 76, .int .u8 67, .int .u8 49] 5 (4, 5))) (some ⟨w.heap.size, 0, none⟩) 4 [83, 76, 67, 49] := lit4 w
  have HLIT := Aside0.mk hlit_
  clear hlit_
  have kc := fun (w : World) (C : Array Value) (n c : Nat) => Lib.run_convert_bytes_const (P := Try.prog) w 25 5 C n c Try.underlying25 Try.underlying5
  go_enter Try.func17, Try.ntmps17
  go_wp2_with (first | ((with_reducible refine gate_callee (f := 28) rfl ?_); refine goesL_ (some 10) rfl rfl Try.func28 (by kernel_rfl) rfl #[.slice (some ⟨w.heap.size, 0, none⟩) 4 4, .int .i64 1, .int .i64 2] rfl (by (try simp only [List.map_toArray, List.map_cons, List.map_nil]); first | done | rfl) ?_; (with_reducible refine (number_lit k ⟨w.heap.size, 0, none⟩ 4 [83, 76, 67, 49] 1 2 t138 _ rfl ?side1 (by decide) (by have := A2.out; rw [Ny135.out] at this; exact this)).mono ?_); (case side1 => exact HLIT.out); rintro e w11 ⟨v144, rfl, ho0, hb⟩; refine ⟨_, rfl, ?_⟩; have n1_ := Aside0.mk (below_step (below_alloc HB.out (.cells #[.int .u8 83, .int .u8 76, .int .u8 67, .int .u8 49] 5 (4, 5))) hb); have n0_ := Aside0.mk (Kd.R_lower ho0 (show w.heap.size ≤ (w.alloc (.cells #[.int .u8 83, .int .u8 76, .int .u8 67, .int .u8 49] 5 (4, 5))).heap.size by simp)); clear HB; have HO140 := n0_; have HB := n1_; clear n0_ n1_; (try clear hb); (try clear ho0); obtain ⟨Ao12, co12, eo12⟩ := Kd.R_slice HO140.out; subst eo12) | ((with_reducible refine gate_callee (f := 28) rfl ?_); refine goesL_ (some 14) rfl rfl Try.func28 (by kernel_rfl) rfl #[.slice Ao12 t138.length co12, .int .i64 (l0.length : Int), .int .i64 2] rfl (by (try simp only [List.map_toArray, List.map_cons, List.map_nil]); first | done | rfl | (simp only [List.length_drop, List.length_take]; rfl)) ?_; (with_reducible refine (slotcoderef15_number.calls k (fun k_ => some k_ = (.slice Ao12 t138.length co12 : Value).ownBlock) (.slice Ao12 t138.length co12) t138 (l0.length : Int) 2 t141 w _ ?side1 ?side2 A3.out).mono ?_); (case side1 => repeat (first | (with_reducible first | exact HB.out | apply below_alloc | apply pw_below_drewN | apply below_drew1) | exact HB.out)); (case side2 => exact Kd.R_tight rfl HO140.out); rintro e w13 ⟨v142, rfl, ho0, hb, hkp⟩; refine ⟨_, rfl, ?_⟩; have n0_ := Aside0.mk (Kd.R_mono (ok' := fun k_ => True) ho0 (fun k_ hk_ => trivial)); have n1_ := Aside0.mk (hb); clear HB; clear HO140; have HO143 := n0_; have HB := n1_; clear n0_ n1_; (try clear hb); (try clear hkp); (try clear ho0)) | ((with_reducible refine gate_callee (f := 14) rfl ?_); refine goesL_ (some 17) rfl rfl Try.func14 (by kernel_rfl) rfl #[.slice A0 l0.length c0] rfl (by (try simp only [List.map_toArray, List.map_cons, List.map_nil]); first | done | rfl | (simp only [List.length_drop, List.length_take]; rfl)) ?_; (with_reducible refine (slotcoderef15_Size.calls k _ _ l0 t144 _ ?side1 ?side2 A4.out).mono ?_); (case side1 => repeat (first | exact (Kd.C_below HR0.out HB.out) | (with_reducible refine Kd.C_alloc ?_ _) | (with_reducible refine Kd.C_drewN ?_ _) | (with_reducible refine Kd.C_drew ?_))); (case side2 => exact HC0.out); rintro e w' ⟨rfl, ⟨nd, rfl⟩⟩; refine ⟨_, rfl, ?_⟩; obtain ⟨Ao14, co14, eo14⟩ := Kd.R_slice HO143.out; subst eo14) | ((with_reducible refine gate_callee (f := 28) rfl ?_); refine goesL_ (some 18) rfl rfl Try.func28 (by kernel_rfl) rfl #[.slice Ao14 t141.length co14, .int .i64 t144, .int .i64 4] rfl (by (try simp only [List.map_toArray, List.map_cons, List.map_nil]); first | done | rfl | (simp only [List.length_drop, List.length_take]; rfl)) ?_; (with_reducible refine (slotcoderef15_number.calls k (fun k_ => some k_ = (.slice Ao14 t141.length co14 : Value).ownBlock) (.slice Ao14 t141.length co14) t141 t144 4 t145 w _ ?side1 ?side2 A5.out).mono ?_); (case side1 => repeat (first | (with_reducible first | exact HB.out | apply below_alloc | apply pw_below_drewN | apply below_drew1) | exact HB.out)); (case side2 => exact Kd.R_tight rfl HO143.out); rintro e w15 ⟨v146, rfl, ho0, hb, hkp⟩; refine ⟨_, rfl, ?_⟩; have n0_ := Aside0.mk (Kd.R_mono (ok' := fun k_ => True) ho0 (fun k_ hk_ => trivial)); have n1_ := Aside0.mk (hb); clear HB; clear HO143; have HO147 := n0_; have HB := n1_; clear n0_ n1_; (try clear hb); (try clear hkp); (try clear ho0); obtain ⟨Ao16, co16, eo16⟩ := Kd.R_slice HO147.out; subst eo16) | ((with_reducible refine gate_callee (f := 28) rfl ?_); refine goesL_ (some 20) rfl rfl Try.func28 (by kernel_rfl) rfl #[.slice Ao16 t145.length co16, .int .i64 0, .int .i64 4] rfl (by (try simp only [List.map_toArray, List.map_cons, List.map_nil]); first | done | rfl | (simp only [List.length_drop, List.length_take]; rfl)) ?_; (with_reducible refine (slotcoderef15_number.calls k (fun k_ => some k_ = (.slice Ao16 t145.length co16 : Value).ownBlock) (.slice Ao16 t145.length co16) t145 0 4 t148 w _ ?side1 ?side2 A6.out).mono ?_); (case side1 => repeat (first | (with_reducible first | exact HB.out | apply below_alloc | apply pw_below_drewN | apply below_drew1) | exact HB.out)); (case side2 => exact Kd.R_tight rfl HO147.out); rintro e w17 ⟨v149, rfl, ho0, hb, hkp⟩; refine ⟨_, rfl, ?_⟩; have n0_ := Aside0.mk (Kd.R_mono (ok' := fun k_ => True) ho0 (fun k_ hk_ => trivial)); have n1_ := Aside0.mk (hb); clear HB; clear HO147; have HO150 := n0_; have HB := n1_; clear n0_ n1_; (try clear hb); (try clear hkp); (try clear ho0)) | ((with_reducible refine gate_callee (f := 27) rfl ?_); refine goesL_ (some 25) rfl rfl Try.func27 (by kernel_rfl) rfl #[.int .i64 (wrap64 (16 + (wrap64 (12 * (l0.length : Int)))))] rfl (by (try simp only [List.map_toArray, List.map_cons, List.map_nil]); first | done | rfl | (simp only [List.length_drop, List.length_take]; rfl)) ?_; (with_reducible refine (slotcoderef15_up.calls (wrap64 (16 + (wrap64 (12 * (l0.length : Int))))) t151 _ A7.out).mono ?_); rintro e w' ⟨rfl, ⟨nd, rfl⟩⟩; refine ⟨_, rfl, ?_⟩))
  go_loopg [3, 4, 5] k (fun kq v3 v4 v5 w' => ∃ (x3_1 : List Int) (x4_1 : Int) (x5_1 : Int), v4 = .int .i64 x4_1 ∧ v5 = .int .i64 x5_1 ∧ Aside0 (slotcoderef15_Write.l0 kq l0 x3_1 x4_1 x5_1 = some r) ∧ Aside0 (kq ≤ k) ∧ Aside0 (Kd.R (Kd.int .u8) 5 w' w.heap.size (fun _ => True) v3 x3_1) ∧ Aside0 (Below w.heap.size w w'))
  case atStart => exact ⟨(t148), (t151), (0), (by first | rfl | (simp; done) | (simp [*]; done)), (by first | rfl | (simp; done) | (simp [*]; done)), H', ⟨Nat.le_refl _⟩, ⟨by (with_reducible repeat (first | apply Kd.R_alloc | apply Kd.R_drewN | apply Kd.R_drew)); exact HO150.out⟩, ⟨by repeat (first | (with_reducible first | exact HB.out | apply below_alloc | apply pw_below_drewN | apply below_drew1) | exact HB.out)⟩⟩
  case round =>
    clear H'
    try clear c1
    try clear c2
    try clear p2
    try clear p6
    try clear c14
    try clear c17
    obtain ⟨x3_1, x4_1, x5_1, rfl, rfl, HA, HK1, HO_3, HB⟩ := hrel
    cases gk with
    | zero => exact absurd HA.out (by simp [slotcoderef15_Write.l0])
    | succ k1 =>
      have H := HA.out
      clear HA
      simp only [slotcoderef15_Write.l0] at H
      by_cases c18 : x5_1 < (l0.length : Int)
      · rw [if_pos c18] at H
        have c18b0 : decide (x5_1 < (l0.length : Int)) = true := decide_eq_true c18
        clear c18
        by_cases c19 : 0 ≤ x5_1
        · rw [if_pos c19] at H
          have c19b0 : decide (0 ≤ x5_1) = true := decide_eq_true c19
          clear c19
          replace H := Option.bind_eq_some_iff.mp H
          obtain ⟨t153, A200, H⟩ := H
          replace H : ((slotcoderef15_number.f k1 t153 x4_1 4).bind fun t156 => ((slotcoderef15_number.f k1 t156 (((rd_T46 l0 x5_1).f1).length : Int) 4).bind fun t160 => ((slotcoderef15_up.f (((rd_T46 l0 x5_1).f1).length : Int)).bind fun t164 => (slotcoderef15_Write.l0 k1 l0 t160 (wrap64 (x4_1 + t164)) (wrap64 (x5_1 + 1)))))) = some r := H
          have A20 := Aside0.mk A200
          clear A200
          replace H := Option.bind_eq_some_iff.mp H
          obtain ⟨t156, A210, H⟩ := H
          replace H : ((slotcoderef15_number.f k1 t156 (((rd_T46 l0 x5_1).f1).length : Int) 4).bind fun t160 => ((slotcoderef15_up.f (((rd_T46 l0 x5_1).f1).length : Int)).bind fun t164 => (slotcoderef15_Write.l0 k1 l0 t160 (wrap64 (x4_1 + t164)) (wrap64 (x5_1 + 1))))) = some r := H
          have A21 := Aside0.mk A210
          clear A210
          replace H := Option.bind_eq_some_iff.mp H
          obtain ⟨t160, A220, H⟩ := H
          replace H : ((slotcoderef15_up.f (((rd_T46 l0 x5_1).f1).length : Int)).bind fun t164 => (slotcoderef15_Write.l0 k1 l0 t160 (wrap64 (x4_1 + t164)) (wrap64 (x5_1 + 1)))) = some r := H
          have A22 := Aside0.mk A220
          clear A220
          replace H := Option.bind_eq_some_iff.mp H
          obtain ⟨t164, A230, H⟩ := H
          replace H : (slotcoderef15_Write.l0 k1 l0 t160 (wrap64 (x4_1 + t164)) (wrap64 (x5_1 + 1))) = some r := H
          have A23 := Aside0.mk A230
          clear A230
          have H' := Aside0.mk H
          clear H
          have p152 : 0 ≤ (x5_1 : Int) := of_decide_eq_true (by first | (with_reducible assumption) | assumption)
          have q152 : x5_1 < (l0.length : Int) := of_decide_eq_true (by first | (with_reducible assumption) | assumption)
          obtain ⟨ad152, A152_1, c152_1, e152, hx152_0, hx152_1, hl152_1, hi152_1⟩ := at_T46 HR0.out x5_1 p152 q152
          cases e152
          replace hx152_0 := (HB.out.cell (World.block_lt_of_cell? w _ hx152_0)).trans hx152_0
          replace hx152_1 := (HB.out.cell (World.block_lt_of_cell? w _ hx152_1)).trans hx152_1
          have HR152_1 := Aside0.mk hi152_1
          have HC152_1 := Aside0.mk hl152_1
          clear hi152_1 hl152_1
          replace p152 := eq_true p152
          replace q152 := eq_true q152
          obtain ⟨Ao24, co24, eo24⟩ := Kd.R_slice HO_3.out
          subst eo24
          go_wp2_with (first | ((with_reducible refine gate_callee (f := 28) rfl ?_); refine goesL_ (some 38) rfl rfl Try.func28 (by kernel_rfl) rfl #[.slice Ao24 x3_1.length co24, .int .i64 ((rd_T46 l0 x5_1).f0), .int .i64 4] rfl (by (try simp only [List.map_toArray, List.map_cons, List.map_nil]); first | done | rfl | (simp only [List.length_drop, List.length_take]; rfl)) ?_; (with_reducible refine (slotcoderef15_number.calls k1 (fun k_ => some k_ = (.slice Ao24 x3_1.length co24 : Value).ownBlock) (.slice Ao24 x3_1.length co24) x3_1 ((rd_T46 l0 x5_1).f0) 4 t153 w _ ?side1 ?side2 A20.out).mono ?_); (case side1 => repeat (first | (with_reducible first | exact HB.out | apply below_alloc | apply pw_below_drewN | apply below_drew1) | exact HB.out)); (case side2 => exact Kd.R_tight rfl HO_3.out); rintro e w25 ⟨v154, rfl, ho0, hb, hkp⟩; refine ⟨_, rfl, ?_⟩; have n0_ := Aside0.mk (Kd.R_mono (ok' := fun k_ => True) ho0 (fun k_ hk_ => trivial)); have n1_ := Aside0.mk (hb); clear HB; clear HO_3; have HO155 := n0_; have HB := n1_; clear n0_ n1_; (try clear hb); (try clear hkp); (try clear ho0); obtain ⟨Ao26, co26, eo26⟩ := Kd.R_slice HO155.out; subst eo26) | ((with_reducible refine gate_callee (f := 28) rfl ?_); refine goesL_ (some 41) rfl rfl Try.func28 (by kernel_rfl) rfl #[.slice Ao26 t153.length co26, .int .i64 x4_1, .int .i64 4] rfl (by (try simp only [List.map_toArray, List.map_cons, List.map_nil]); first | done | rfl | (simp only [List.length_drop, List.length_take]; rfl)) ?_; (with_reducible refine (slotcoderef15_number.calls k1 (fun k_ => some k_ = (.slice Ao26 t153.length co26 : Value).ownBlock) (.slice Ao26 t153.length co26) t153 x4_1 4 t156 w _ ?side1 ?side2 A21.out).mono ?_); (case side1 => repeat (first | (with_reducible first | exact HB.out | apply below_alloc | apply pw_below_drewN | apply below_drew1) | exact HB.out)); (case side2 => exact Kd.R_tight rfl HO155.out); rintro e w27 ⟨v157, rfl, ho0, hb, hkp⟩; refine ⟨_, rfl, ?_⟩; have n0_ := Aside0.mk (Kd.R_mono (ok' := fun k_ => True) ho0 (fun k_ hk_ => trivial)); have n1_ := Aside0.mk (hb); clear HB; clear HO155; have HO158 := n0_; have HB := n1_; clear n0_ n1_; (try clear hb); (try clear hkp); (try clear ho0); have p159 : 0 ≤ (x5_1 : Int) := of_decide_eq_true (by first | (with_reducible assumption) | assumption); have q159 : x5_1 < (l0.length : Int) := of_decide_eq_true (by first | (with_reducible assumption) | assumption); obtain ⟨ad159, A159_1, c159_1, e159, hx159_0, hx159_1, hl159_1, hi159_1⟩ := at_T46 HR0.out x5_1 p159 q159; obtain rfl : ad152 = ad159 := (by injection e159); replace hx159_0 := (HB.out.cell (World.block_lt_of_cell? w _ hx159_0)).trans hx159_0; replace hx159_1 := (HB.out.cell (World.block_lt_of_cell? w _ hx159_1)).trans hx159_1; have HR159_1 := Aside0.mk hi159_1; have HC159_1 := Aside0.mk hl159_1; clear hi159_1 hl159_1; replace p159 := eq_true p159; replace q159 := eq_true q159; obtain ⟨Ao28, co28, eo28⟩ := Kd.R_slice HO158.out; subst eo28) | ((with_reducible refine gate_callee (f := 28) rfl ?_); refine goesL_ (some 49) rfl rfl Try.func28 (by kernel_rfl) rfl #[.slice Ao28 t156.length co28, .int .i64 (((rd_T46 l0 x5_1).f1).length : Int), .int .i64 4] rfl (by (try simp only [List.map_toArray, List.map_cons, List.map_nil]); first | done | rfl | (simp only [List.length_drop, List.length_take]; rfl)) ?_; (with_reducible refine (slotcoderef15_number.calls k1 (fun k_ => some k_ = (.slice Ao28 t156.length co28 : Value).ownBlock) (.slice Ao28 t156.length co28) t156 (((rd_T46 l0 x5_1).f1).length : Int) 4 t160 w _ ?side1 ?side2 A22.out).mono ?_); (case side1 => repeat (first | (with_reducible first | exact HB.out | apply below_alloc | apply pw_below_drewN | apply below_drew1) | exact HB.out)); (case side2 => exact Kd.R_tight rfl HO158.out); rintro e w29 ⟨v161, rfl, ho0, hb, hkp⟩; refine ⟨_, rfl, ?_⟩; have n0_ := Aside0.mk (Kd.R_mono (ok' := fun k_ => True) ho0 (fun k_ hk_ => trivial)); have n1_ := Aside0.mk (hb); clear HB; clear HO158; have HO162 := n0_; have HB := n1_; clear n0_ n1_; (try clear hb); (try clear hkp); (try clear ho0); have p163 : 0 ≤ (x5_1 : Int) := of_decide_eq_true (by first | (with_reducible assumption) | assumption); have q163 : x5_1 < (l0.length : Int) := of_decide_eq_true (by first | (with_reducible assumption) | assumption); obtain ⟨ad163, A163_1, c163_1, e163, hx163_0, hx163_1, hl163_1, hi163_1⟩ := at_T46 HR0.out x5_1 p163 q163; obtain rfl : ad152 = ad163 := (by injection e163); replace hx163_0 := (HB.out.cell (World.block_lt_of_cell? w _ hx163_0)).trans hx163_0; replace hx163_1 := (HB.out.cell (World.block_lt_of_cell? w _ hx163_1)).trans hx163_1; have HR163_1 := Aside0.mk hi163_1; have HC163_1 := Aside0.mk hl163_1; clear hi163_1 hl163_1; replace p163 := eq_true p163; replace q163 := eq_true q163) | ((with_reducible refine gate_callee (f := 27) rfl ?_); refine goesL_ (some 57) rfl rfl Try.func27 (by kernel_rfl) rfl #[.int .i64 (((rd_T46 l0 x5_1).f1).length : Int)] rfl (by (try simp only [List.map_toArray, List.map_cons, List.map_nil]); first | done | rfl | (simp only [List.length_drop, List.length_take]; rfl)) ?_; (with_reducible refine (slotcoderef15_up.calls (((rd_T46 l0 x5_1).f1).length : Int) t164 _ A23.out).mono ?_); rintro e w' ⟨rfl, ⟨nd, rfl⟩⟩; refine ⟨_, rfl, ?_⟩))
          go_roundg k1
          case measure => have := HK1.out; omega
          case rel => exact ⟨(t160), (wrap64 (x4_1 + t164)), (wrap64 (x5_1 + 1)), (by first | rfl | (simp; done) | (simp [*]; done)), (by first | rfl | (simp; done) | (simp [*]; done)), H', ⟨by have := HK1.out; omega⟩, ⟨by (with_reducible repeat (first | apply Kd.R_alloc | apply Kd.R_drewN | apply Kd.R_drew)); exact HO162.out⟩, ⟨by repeat (first | (with_reducible first | exact HB.out | apply below_alloc | apply pw_below_drewN | apply below_drew1) | exact HB.out)⟩⟩
        · rw [if_neg c19] at H
          exact absurd H (by simp)
      · rw [if_neg c18] at H
        have c18b0 : decide (x5_1 < (l0.length : Int)) = false := decide_eq_false c18
        clear c18
        replace H := Option.bind_eq_some_iff.mp H
        obtain ⟨t165, A300, H⟩ := H
        replace H : (slotcoderef15_Write.l1 k1 l0 t165 0) = some r := H
        have A30 := Aside0.mk A300
        clear A300
        have H' := Aside0.mk H
        clear H
        obtain ⟨Ao31, co31, eo31⟩ := Kd.R_slice HO_3.out
        subst eo31
        go_wp2_with (first | ((with_reducible refine gate_callee (f := 29) rfl ?_); refine goesL_ (some 60) rfl rfl Try.func29 (by kernel_rfl) rfl #[.slice Ao31 x3_1.length co31] rfl (by (try simp only [List.map_toArray, List.map_cons, List.map_nil]); first | done | rfl | (simp only [List.length_drop, List.length_take]; rfl)) ?_; (with_reducible refine (slotcoderef15_pad.calls k1 (fun k_ => some k_ = (.slice Ao31 x3_1.length co31 : Value).ownBlock) (.slice Ao31 x3_1.length co31) x3_1 t165 w _ ?side1 ?side2 A30.out).mono ?_); (case side1 => repeat (first | (with_reducible first | exact HB.out | apply below_alloc | apply pw_below_drewN | apply below_drew1) | exact HB.out)); (case side2 => exact Kd.R_tight rfl HO_3.out); rintro e w32 ⟨v166, rfl, ho0, hb, hkp⟩; refine ⟨_, rfl, ?_⟩; have n0_ := Aside0.mk (Kd.R_mono (ok' := fun k_ => True) ho0 (fun k_ hk_ => trivial)); have n1_ := Aside0.mk (hb); clear HB; clear HO_3; have HO167 := n0_; have HB := n1_; clear n0_ n1_; (try clear hb); (try clear hkp); (try clear ho0)))
        go_loopg [3, 6] k1 (fun kq v3 v6 w' => ∃ (x3_2 : List Int) (x6_2 : Int), v6 = .int .i64 x6_2 ∧ Aside0 (slotcoderef15_Write.l1 kq l0 x3_2 x6_2 = some r) ∧ Aside0 (kq ≤ k1) ∧ Aside0 (Kd.R (Kd.int .u8) 5 w' w.heap.size (fun _ => True) v3 x3_2) ∧ Aside0 (Below w.heap.size w w'))
        case atStart => exact ⟨(t165), (0), (by first | rfl | (simp; done) | (simp [*]; done)), H', ⟨Nat.le_refl _⟩, ⟨by (with_reducible repeat (first | apply Kd.R_alloc | apply Kd.R_drewN | apply Kd.R_drew)); exact HO167.out⟩, ⟨by repeat (first | (with_reducible first | exact HB.out | apply below_alloc | apply pw_below_drewN | apply below_drew1) | exact HB.out)⟩⟩
        case round =>
          clear H'
          try clear c1
          try clear p1
          try clear q1
          try clear hx1
          try clear c2
          try clear p2
          try clear p6
          try clear c14
          try clear c15
          try clear p15
          try clear q15
          try clear hx15
          try clear c16
          try clear p16
          try clear q16
          try clear hx16
          try clear c17
          try clear c18
          try clear c18b0
          try clear c19
          try clear c19b0
          try clear c27
          try clear c28
          try clear c29
          try clear hx152_0
          try clear hx152_1
          try clear hx159_0
          try clear hx159_1
          try clear hx163_0
          try clear hx163_1
          try clear p152
          try clear p159
          try clear p163
          try clear p2
          try clear p6
          try clear q152
          try clear q159
          try clear q163
          obtain ⟨x3_2, x6_2, rfl, HA, HK2, HO_3, HB⟩ := hrel
          cases gk with
          | zero => exact absurd HA.out (by simp [slotcoderef15_Write.l1])
          | succ k2 =>
            have H := HA.out
            clear HA
            simp only [slotcoderef15_Write.l1] at H
            by_cases c33 : x6_2 < (l0.length : Int)
            · rw [if_pos c33] at H
              have c33b0 : decide (x6_2 < (l0.length : Int)) = true := decide_eq_true c33
              clear c33
              by_cases c34 : 0 ≤ x6_2
              · rw [if_pos c34] at H
                have c34b0 : decide (0 ≤ x6_2) = true := decide_eq_true c34
                clear c34
                by_cases c35 : x3_2.length + ((rd_T46 l0 x6_2).f1).length < 140737488355328
                · rw [if_pos c35] at H
                  have LMc35 := Aside0.mk c35
                  clear c35
                  obtain ⟨y169, hy169⟩ : ∃ y_ : List Int, y_ = (x3_2 ++ ((rd_T46 l0 x6_2).f1)) := ⟨_, rfl⟩
                  replace H : ((slotcoderef15_pad.f k2 y169).bind fun t172 => (slotcoderef15_Write.l1 k2 l0 t172 (wrap64 (x6_2 + 1)))) = some r := by first | (rw [hy169]; with_reducible exact H) | (have H2_ := (Option.bind_some _ _).symm.trans H; rw [hy169]; with_reducible exact H2_) | (have H2_ := (Option.bind_some _ _).symm.trans H; with_reducible exact H2_) | with_reducible exact H | (rw [hy169]; exact H) | exact H
                  have Ny169 := Aside0.mk hy169
                  clear hy169
                  replace H := Option.bind_eq_some_iff.mp H
                  obtain ⟨t172, A360, H⟩ := H
                  replace H : (slotcoderef15_Write.l1 k2 l0 t172 (wrap64 (x6_2 + 1))) = some r := H
                  have A36 := Aside0.mk A360
                  clear A360
                  have H' := Aside0.mk H
                  clear H
                  have p168 : 0 ≤ (x6_2 : Int) := of_decide_eq_true (by first | (with_reducible assumption) | assumption)
                  have q168 : x6_2 < (l0.length : Int) := of_decide_eq_true (by first | (with_reducible assumption) | assumption)
                  obtain ⟨ad168, A168_1, c168_1, e168, hx168_0, hx168_1, hl168_1, hi168_1⟩ := at_T46 HR0.out x6_2 p168 q168
                  cases e168
                  replace hx168_0 := (HB.out.cell (World.block_lt_of_cell? w _ hx168_0)).trans hx168_0
                  replace hx168_1 := (HB.out.cell (World.block_lt_of_cell? w _ hx168_1)).trans hx168_1
                  have HR168_1 := Aside0.mk hi168_1
                  have HC168_1 := Aside0.mk hl168_1
                  clear hi168_1 hl168_1
                  replace p168 := eq_true p168
                  replace q168 := eq_true q168
                  go_wp2_with (first | ((with_reducible refine gate_builtin (b := .append) (xs := #[.tmp 67, .tmp 72]) rfl ?_); at_builtin; refine Kd.R_append_rows (Kd.int .u8) (w0 := w) w.heap.size rfl (.tmp 67) (.tmp 72) 25 5 (.int .u8 0) 1 rfl Try.underlying25 info5 rfl (by decide) (by omega) u3 x3_2 ((rd_T46 l0 x6_2).f1) _ _ _ (fun _ => True) (fun _ => False) rfl rfl ?aO ?aR (fun _ _ h => h) (fun _ h => h.elim) ?aF ?aB ?aS ?aL ?_; (case aR => repeat (first | exact (Kd.C_below HR168_1.out HB.out) | (with_reducible refine Kd.C_alloc ?_ _) | (with_reducible refine Kd.C_drewN ?_ _) | (with_reducible refine Kd.C_drew ?_))); (case aB => exact (by repeat (first | (with_reducible first | exact HB.out | apply below_alloc | apply pw_below_drewN | apply below_drew1) | exact HB.out))); (case aF => exact (fun _ _ => trivial)); (case aO => exact (by (with_reducible repeat (first | apply Kd.R_alloc | apply Kd.R_drewN | apply Kd.R_drew)); exact HO_3.out)); (case aS => exact (below_size (by repeat (first | (with_reducible first | exact HB.out | apply below_alloc | apply pw_below_drewN | apply below_drew1) | exact HB.out)))); (case aL => have := LMc35.out; omega); intro v170 w37 ho hb hg hat; rw [← Ny169.out] at ho; have n0_ := Aside0.mk (hb); have n1_ := Aside0.mk (ho); clear HB; clear HO_3; have HB := n0_; have HO171 := n1_; clear n0_ n1_; clear ho hb hg hat; obtain ⟨Ao38, co38, eo38⟩ := Kd.R_slice HO171.out; subst eo38) | ((with_reducible refine gate_callee (f := 29) rfl ?_); refine goesL_ (some 74) rfl rfl Try.func29 (by kernel_rfl) rfl #[.slice Ao38 y169.length co38] rfl (by (try simp only [List.map_toArray, List.map_cons, List.map_nil]); first | done | rfl | (simp only [List.length_drop, List.length_take]; rfl)) ?_; (with_reducible refine (slotcoderef15_pad.calls k2 (fun k_ => some k_ = (.slice Ao38 y169.length co38 : Value).ownBlock) (.slice Ao38 y169.length co38) y169 t172 w _ ?side1 ?side2 A36.out).mono ?_); (case side1 => repeat (first | (with_reducible first | exact HB.out | apply below_alloc | apply pw_below_drewN | apply below_drew1) | exact HB.out)); (case side2 => exact Kd.R_tight rfl HO171.out); rintro e w39 ⟨v173, rfl, ho0, hb, hkp⟩; refine ⟨_, rfl, ?_⟩; have n0_ := Aside0.mk (Kd.R_mono (ok' := fun k_ => True) ho0 (fun k_ hk_ => trivial)); have n1_ := Aside0.mk (hb); clear HB; clear HO171; have HO174 := n0_; have HB := n1_; clear n0_ n1_; (try clear hb); (try clear hkp); (try clear ho0)))
                  go_roundg k2
                  case measure => have := HK1.out; have := HK2.out; omega
                  case rel => exact ⟨(t172), (wrap64 (x6_2 + 1)), (by first | rfl | (simp; done) | (simp [*]; done)), H', ⟨by have := HK1.out; have := HK2.out; omega⟩, ⟨by (with_reducible repeat (first | apply Kd.R_alloc | apply Kd.R_drewN | apply Kd.R_drew)); exact HO174.out⟩, ⟨by repeat (first | (with_reducible first | exact HB.out | apply below_alloc | apply pw_below_drewN | apply below_drew1) | exact HB.out)⟩⟩
                · rw [if_neg c35] at H
                  exact absurd H (by simp)
              · rw [if_neg c34] at H
                exact absurd H (by simp)
            · rw [if_neg c33] at H
              have c33b0 : decide (x6_2 < (l0.length : Int)) = false := decide_eq_false c33
              clear c33
              obtain rfl := Option.some.inj H
              go_wp2
              go_ret
              exact ⟨_, by first | rfl | (simp [errW_none, errW_some] <;> rfl) | (simp [*, errW_none, errW_some] <;> rfl), by (with_reducible repeat (first | apply Kd.R_alloc | apply Kd.R_drewN | apply Kd.R_drew)); exact HO_3.out, by repeat (first | (with_reducible first | exact HB.out | apply below_alloc | apply pw_below_drewN | apply below_drew1) | exact HB.out)⟩

end Go.Proofs.Ytnpjfkleoijbiaa.PAll
