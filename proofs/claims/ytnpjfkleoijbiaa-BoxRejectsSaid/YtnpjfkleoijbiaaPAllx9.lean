-- By a program of this session (xp.py) over the kit's print, with texts of this session.
import Derived.Test.YtnpjfkleoijbiaaPAllx0
import Derived.Test.YtnpjfkleoijbiaaPAllx1
import Derived.Test.YtnpjfkleoijbiaaPAllx3
import Derived.Test.YtnpjfkleoijbiaaPAllx4
import Derived.Test.YtnpjfkleoijbiaaPAllx7
import Derived.Test.YtnpjfkleoijbiaaPAllx8
import Derived.Lib.SlBytesConst
namespace Go.Proofs.Ytnpjfkleoijbiaa.PAll
open Go.RowKit Go.Proofs.YtnpjfkleoijbiaaW.PrintWords Go.Proofs.YtnpjfkleoijbiaaW.PrintLast Go.Proofs.YtnpjfkleoijbiaaW.PrintMore
attribute [local go_sem] max2_int min2_int max_two min_two max_three min_three max_four min_four   -- for this text's walks alone
set_option linter.unusedVariables false
set_option linter.unusedSimpArgs false

-- EXTERN
-- XIMPORT Derived.Lib.SlBytesConst
def exL : List S50 := [⟨7, [5]⟩]
def exB : List Int := wbytes exL
theorem ex1 : box_Write.f [] = some (wbytes [], 0) := by kernel_rfl
theorem ex2 : box_Write.f exL = some (exB, 0) := by kernel_rfl
theorem ex3 : box_Read.f exB = some (exL, 0) := by kernel_rfl
theorem ex4 : box_Read.f [83, 76, 67, 49] = some ([], 19) := by kernel_rfl
theorem ex5 : box_Size.f 9 exL = some 40 := by kernel_rfl
theorem ex6 : slotcoderef01_Same.f 9 [5] [5] = some true := by kernel_rfl
theorem ex7 : box_Get.f 9 exL 7 = some ([5], true) := by kernel_rfl
theorem exlen1 : (wbytes []).length = 16 := by decide +kernel
theorem exlen2 : exB.length = 40 := by decide +kernel
theorem bytes4 (w : World) : Kd.C (Kd.int .u8) (w.alloc (.cells #[.int .u8 83, .int .u8 76, .int .u8 67, .int .u8 49] 5 (4, 5))) (some ⟨w.heap.size, 0, none⟩) 4 [83, 76, 67, 49] := by
  refine Kd.C_of_reads (d := (0 : Int)) ⟨rfl, by decide, fun _ => ⟨_, rfl, fun j hj => ?_⟩⟩
  rw [add_plain, World.cell?, heap_alloc_new]
  match j, hj with
  | 0, _ => rfl
  | 1, _ => rfl
  | 2, _ => rfl
  | 3, _ => rfl
theorem bytes1 (w : World) : Kd.C (Kd.int .u8) (w.alloc (.cells #[.int .u8 5] 5)) (some ⟨w.heap.size, 0, none⟩) 1 [5] := by
  refine Kd.C_of_reads (d := (0 : Int)) ⟨rfl, by decide, fun _ => ⟨_, rfl, fun j hj => ?_⟩⟩
  rw [add_plain, World.cell?, heap_alloc_new]
  match j, hj with
  | 0, _ => rfl
theorem rowL (w : World) : Kd.C k50 ((w.alloc (.cells #[.int .u8 5] 5)).alloc (.cells #[.int .i64 7, .slice (some ⟨w.heap.size, 0, none⟩) 1 1] 50)) (some ⟨w.heap.size + 1, 0, none⟩) 1 exL := by
  refine ⟨rfl, by decide, fun _ => ⟨_, rfl, fun j p hj => ?_⟩⟩
  match j, hj with
  | 0, hj =>
    have hp : (⟨7, [5]⟩ : S50) = p := by simpa [exL] using hj
    subst hp
    refine ⟨[.int .i64 7, .slice (some ⟨w.heap.size, 0, none⟩) 1 1], rfl, k50_mk _ ⟨7, [5]⟩ (Nat.le_refl _) (Kd.C_alloc (bytes1 w) _), fun i u hu => ?_⟩
    have hh := heap_alloc_new (w.alloc (.cells #[.int .u8 5] 5)) (.cells #[.int .i64 7, .slice (some ⟨w.heap.size, 0, none⟩) 1 1] 50)
    have hs : (w.alloc (.cells #[.int .u8 5] 5)).heap.size = w.heap.size + 1 := by simp
    rw [hs] at hh
    rw [add_plain, cell_of_row _ _ _ _ _ _ hh]
    match i, hu with
    | 0, hu => simpa using hu
    | 1, hu => simpa using hu
def slotcodelaw15_alive.f : Option (Bool) := some true
set_option maxHeartbeats 8000000 in
set_option maxRecDepth 100000 in
theorem slotcodelaw15_alive.calls (r : Bool) (w : World) (h : slotcodelaw15_alive.f = some r) :
    Calls Try.prog 10 #[] w fun e w' => e = .returned (.bool r) ∧ Below w.heap.size w w' := by
  obtain rfl := Option.some.inj h
  clear h
  have E1 := Aside0.mk ex1
  have E2 := Aside0.mk ex2
  have E3 := Aside0.mk ex3
  have E4 := Aside0.mk ex4
  have E5 := Aside0.mk ex5
  have E6 := Aside0.mk ex6
  have E7 := Aside0.mk ex7
  have l1 := exlen1
  have l2 := exlen2
  obtain ⟨B0, hB0⟩ : ∃ B0, B0 = wbytes [] := ⟨_, rfl⟩
  obtain ⟨B1, hB1⟩ : ∃ B1, B1 = exB := ⟨_, rfl⟩
  rw [← hB0] at E1 l1
  rw [← hB1] at E2 E3 l2
  have L1 := Aside0.mk l1
  have L2 := Aside0.mk l2
  clear hB0 hB1 l1 l2
  have kc := fun (w : World) (C : Array Value) (n c : Nat) => Lib.run_convert_bytes_const (P := Try.prog) w 25 5 C n c Try.underlying25 Try.underlying5
  go_enter Try.func10, Try.ntmps10
  go_wp2_with (first | ((with_reducible refine gate_callee (f := 11) rfl ?_); refine goesL_ (some 13) rfl rfl Try.func11 (by kernel_rfl) rfl #[.slice none 0 0] rfl (by (try simp only [List.map_toArray, List.map_cons, List.map_nil]); first | done | rfl) ?_; (refine (box_Write.calls none 0 [] B0 0 _ ?side1 ?side2 E1.out).mono ?_); (case side1 => exact Kd.C_nil _ _); (case side2 => exact Nat.le_refl _); rintro e w1 ⟨v1, rfl, ho_, hb_⟩; refine ⟨_, rfl, ?_⟩; have HB1 := Aside0.mk hb_; obtain ⟨A1, c1, e1⟩ := Kd.R_slice ho_; subst e1; have HL := Aside0.mk (rowL w1); clear ho_ hb_) | ((with_reducible refine gate_callee (f := 11) rfl ?_); refine goesL_ (some 21) rfl rfl Try.func11 (by kernel_rfl) rfl #[.slice (some ⟨w1.heap.size + 1, 0, none⟩) 1 1] rfl (by (try simp only [List.map_toArray, List.map_cons, List.map_nil]); first | done | rfl) ?_; (refine (box_Write.calls (some ⟨w1.heap.size + 1, 0, none⟩) 1 exL B1 0 _ ?side1 ?side2 E2.out).mono ?_); (case side1 => exact HL.out); (case side2 => exact Nat.le_refl _); rintro e w2 ⟨v2, rfl, ho_, hb_⟩; refine ⟨_, rfl, ?_⟩; have HL2 := Aside0.mk (Kd.C_below HL.out hb_); have HB2 := Aside0.mk (below_step (below_alloc (below_alloc HB1.out _) _) hb_); have HO2 := Aside0.mk ho_; clear ho_ hb_; obtain ⟨A2, c2, e2⟩ := Kd.R_slice HO2.out; subst e2) | ((with_reducible refine gate_callee (f := 19) rfl ?_); refine goesL_ (some 26) rfl rfl Try.func19 (by kernel_rfl) rfl #[.slice A2 B1.length c2] rfl (by (try simp only [List.map_toArray, List.map_cons, List.map_nil]); first | done | rfl) ?_; (refine (box_Read.calls A2 c2 B1 exL 0 _ ?side1 ?side2 E3.out).mono ?_); (case side1 => exact (Kd.R_reads' HO2.out).2.2); (case side2 => exact (Kd.R_reads' HO2.out).2.1); rintro e w3 ⟨v3, rfl, ho_, hb_⟩; refine ⟨_, rfl, ?_⟩; have HL3 := Aside0.mk (Kd.C_below HL2.out hb_); have HB3 := Aside0.mk (below_step HB2.out hb_); have HV3 := Aside0.mk ho_; clear ho_ hb_; obtain ⟨A3, c3, e3⟩ := Kd.V_slice HV3.out; subst e3) | ((with_reducible refine gate_callee (f := 23) rfl ?_); refine goesL_ (some 31) rfl rfl Try.func23 (by kernel_rfl) rfl #[.slice A3 exL.length c3, .int .i64 7] rfl (by (try simp only [List.map_toArray, List.map_cons, List.map_nil]); first | done | rfl) ?_; (refine (box_Get.calls 9 (fun k => w2.heap.size ≤ k) A3 c3 exL 7 [5] true _ ?side1 E7.out).mono ?_); (case side1 => exact HV3.out); rintro e w4 ⟨v4, rfl, ho_, hb_⟩; refine ⟨_, rfl, ?_⟩; have HL4 := Aside0.mk (Kd.C_below HL3.out hb_); have HB4 := Aside0.mk (below_step HB3.out hb_); have HV4 := Aside0.mk ho_; clear ho_ hb_; obtain ⟨A4, c4, e4⟩ := Kd.V_slice HV4.out; subst e4; have HC4 := Aside0.mk (bytes4 w4)) | ((with_reducible refine gate_callee (f := 19) rfl ?_); refine goesL_ (some 37) rfl rfl Try.func19 (by kernel_rfl) rfl #[.slice (some ⟨w4.heap.size, 0, none⟩) 4 4] rfl (by (try simp only [List.map_toArray, List.map_cons, List.map_nil]); first | done | rfl) ?_; (refine (box_Read.calls (some ⟨w4.heap.size, 0, none⟩) 4 [83, 76, 67, 49] [] 19 _ ?side1 ?side2 E4.out).mono ?_); (case side1 => exact HC4.out); (case side2 => exact Nat.le_refl _); rintro e w5 ⟨v5, rfl, ho_, hb_⟩; refine ⟨_, rfl, ?_⟩; have HL5 := Aside0.mk (Kd.C_below (Kd.C_alloc HL4.out _) hb_); have HB5 := Aside0.mk (below_step (below_alloc HB4.out _) hb_); have HV5 := Aside0.mk (Kd.V_below (Kd.V_alloc HV4.out _) hb_); clear ho_ hb_; have l1 := L1.out; have l2 := L2.out; have HC6 := Aside0.mk (bytes1 w5)) | (go_at_call 16; (refine (slotcoderef01_Same.calls 9 A4 c4 [5] (some ⟨w5.heap.size, 0, none⟩) 1 [5] true _ ?side1 ?side2 ?side3 ?side4 E6.out).mono ?_); (case side1 => exact (Kd.V_reads' (Kd.V_alloc HV5.out _)).2.2); (case side2 => exact (Kd.V_reads' HV5.out).2.1); (case side3 => exact HC6.out); (case side4 => exact Nat.le_refl _); rintro e w6 ⟨rfl, ⟨nd, rfl⟩⟩) | (go_at_call 13; (refine (box_Size.calls 9 (some ⟨w1.heap.size + 1, 0, none⟩) 1 exL 40 _ ?side1 ?side2 E5.out).mono ?_); (case side1 => exact Kd.C_drewN (Kd.C_alloc HL5.out _) nd); (case side2 => exact Nat.le_refl _); rintro e w7 ⟨rfl, hb_⟩; have HB7 := Aside0.mk (below_step (pw_below_drewN (below_alloc HB5.out _) nd) hb_); clear hb_))
  go_ret
  exact ⟨rfl, HB7.out⟩

end Go.Proofs.Ytnpjfkleoijbiaa.PAll
