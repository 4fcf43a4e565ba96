-- By a program of this session (xp.py) over the kit's print, with texts of this session.
import Derived.Test.YtbepheikefkaiaaPAllx0
import Derived.Test.YtbepheikefkaiaaPAllx2
import Derived.Test.YtbepheikefkaiaaPAllx3
import Derived.Test.YtbepheikefkaiaaPAllx6
import Derived.Test.YtbepheikefkaiaaPAllx7
import Derived.WalkSpells
namespace Go.Proofs.Ytbepheikefkaiaa.PAll
open Go.RowKit Go.Proofs.YtbepheikefkaiaaW.PrintWords Go.Proofs.YtbepheikefkaiaaW.PrintLast Go.Proofs.YtbepheikefkaiaaW.PrintMore
attribute [local go_sem] max2_int min2_int max_two min_two max_three min_three max_four min_four   -- for this text's walks alone
set_option linter.unusedVariables false
set_option linter.unusedSimpArgs false

-- EXTERN
-- XIMPORT Derived.WalkSpells
/-! ### strtab.Parse: function 16: where the first byte is missing or is not zero -/
set_option maxHeartbeats 4000000 in
set_option maxRecDepth 100000 in
theorem strtab_Parse.early (A0 : Option Addr) (c0 : Nat) (l0 : List Int) (w : World) (hr0 : Kd.C (Kd.int .u8) w A0 l0.length l0) (hc0 : l0.length ≤ c0) (h : l0.length = 0 ∨ rd l0 0 ≠ 0) :
    Calls Try.prog 16 #[.slice A0 l0.length c0] w fun e w' => e = .returned (.tuple #[.slice none 0 0, .slice none 0 0, .int .i64 19]) ∧ Below w.heap.size w w' := by
  have hB := below_alloc (below_alloc (below_alloc (Below.refl w.heap.size w) (.cells #[.slice none 0 0] 22)) (.cells #[.slice none 0 0] 26)) (.cells #[.int .i64 19] 27)
  by_cases h0 : l0.length = 0
  · rw [h0]
    go_enter Try.func16, Try.ntmps16
    go_wp2
    refine bodyPost_ret (v := .tuple #[.slice none 0 0, .slice none 0 0, .int .i64 19]) ?hr rfl ?_
    case hr => simp [results, Try.f16, go_sem]
    refine ⟨rfl, ?_⟩
    exact hB
  · have hn : rd l0 0 ≠ 0 := by rcases h with h | h; exact absurd h h0; exact h
    have hb1 : ((rd l0 0) != 0) = true := bne_iff_ne.mpr hn
    have hb2 : ((rd l0 0) == 0) = false := beq_eq_false_iff_ne.mpr hn
    obtain ⟨ad, e, hx⟩ := Kd.at_int hr0 0 (Int.le_refl _) (by omega)
    cases e
    have hpos : 0 < l0.length := by omega
    have e0 : ad.add (Int.toNat 0) = ad := by unfold Addr.add; simp
    rw [e0] at hx
    have hx3 : (((w.alloc (.cells #[.slice none 0 0] 22)).alloc (.cells #[.slice none 0 0] 26)).alloc (.cells #[.int .i64 0] 27)).cell? ad = some (.int .u8 (rd l0 0)) := pw_cell_below (below_alloc (below_alloc (below_alloc (Below.refl w.heap.size w) _) _) _) hx
    clear hr0 h hx
    go_enter Try.func16, Try.ntmps16
    go_wp2
    refine bodyPost_ret (v := .tuple #[.slice none 0 0, .slice none 0 0, .int .i64 19]) ?hr rfl ?_
    case hr => simp [results, Try.f16, go_sem]
    refine ⟨rfl, ?_⟩
    exact hB
/-! ### slotcodelaw14.alive: function 10 -/
/-- Behind a call the cell holds some number as before. -/
theorem maxl {w w' : World} (h : ∃ m, w.cell? ⟨0, 0, none⟩ = some (.int .i64 m)) (hb : Below w.heap.size w w') : ∃ m, w'.cell? ⟨0, 0, none⟩ = some (.int .i64 m) := by
  obtain ⟨m, hm⟩ := h
  exact ⟨m, pw_cell_below hb hm⟩
theorem nil_of_C {w : World} {A : Option Addr} {n c : Nat} {xs : List Int} {k : IntKind} (h : Kd.C (Kd.int k) w A n xs) (hn : 0 < n) : A = none → c = 0 := fun e => by
  obtain ⟨ad, e1, _⟩ := h.2.2 hn
  rw [e] at e1; cases e1
def exA : ByteArray := ⟨#[97]⟩
def exBC : ByteArray := ⟨#[98, 99]⟩
def exT : List Int := [0, 97, 0, 98, 99, 0]
theorem ex1 : strtab_Build.f [exA, exBC] = some (exT, [1, 3], 0) := by kernel_rfl
theorem ex2 : strtab_Get.f exT 4 = some (⟨#[99]⟩, 0) := by kernel_rfl
theorem ex3 : strtab_Find.f exT exBC = some (3, true) := by kernel_rfl
theorem ex4 : slotcoderef01_Same.f 9 exT exT = some true := by kernel_rfl
theorem ex5 : slices_Equal_int_int.f 9 [1, 3] [1, 3] = some true := by kernel_rfl
def slotcodelaw14_alive.f : Option (Bool) := some true
theorem strs2 (w : World) : Kd.C Kd.string (w.alloc (.cells #[.string exA, .string exBC] 9)) (some ⟨w.heap.size, 0, none⟩) 2 [exA, exBC] := by
  refine Kd.C_of_reads (d := ByteArray.empty) ⟨rfl, by decide, fun _ => ⟨_, rfl, fun j hj => ?_⟩⟩
  rw [add_plain, World.cell?, heap_alloc_new]
  match j, hj with
  | 0, _ => rfl
  | 1, _ => rfl
theorem byte1 (w : World) : Kd.C (Kd.int .u8) (w.alloc (.cells #[.int .u8 1] 5)) (some ⟨w.heap.size, 0, none⟩) 1 [1] := by
  refine Kd.C_of_reads (d := (0 : Int)) ⟨rfl, by decide, fun _ => ⟨_, rfl, fun j hj => ?_⟩⟩
  rw [add_plain, World.cell?, heap_alloc_new]
  match j, hj with
  | 0, _ => rfl
theorem byte6 (w : World) : Kd.C (Kd.int .u8) (w.alloc (.cells #[.int .u8 0, .int .u8 97, .int .u8 0, .int .u8 98, .int .u8 99, .int .u8 0] 5)) (some ⟨w.heap.size, 0, none⟩) 6 exT := by
  refine Kd.C_of_reads (d := (0 : Int)) ⟨rfl, by decide, fun _ => ⟨_, rfl, fun j hj => ?_⟩⟩
  rw [add_plain, World.cell?, heap_alloc_new]
  match j, hj with
  | 0, _ => rfl
  | 1, _ => rfl
  | 2, _ => rfl
  | 3, _ => rfl
  | 4, _ => rfl
  | 5, _ => rfl
theorem ints2 (w : World) : Kd.C (Kd.int .i64) (w.alloc (.cells #[.int .i64 1, .int .i64 3] 3)) (some ⟨w.heap.size, 0, none⟩) 2 [1, 3] := by
  refine Kd.C_of_reads (d := (0 : Int)) ⟨rfl, by decide, fun _ => ⟨_, rfl, fun j hj => ?_⟩⟩
  rw [add_plain, World.cell?, heap_alloc_new]
  match j, hj with
  | 0, _ => rfl
  | 1, _ => rfl
theorem ints2' (w : World) (o : Obj) (n : Nat) : Kd.C (Kd.int .i64) (((w.alloc o).drewN n).alloc (.cells #[.int .i64 1, .int .i64 3] 3)) (some ⟨w.heap.size + 1, 0, none⟩) 2 [1, 3] := by
  have h := ints2 ((w.alloc o).drewN n)
  rw [show ((w.alloc o).drewN n).heap.size = w.heap.size + 1 from World.size_alloc w o] at h
  exact h
set_option maxHeartbeats 8000000 in
set_option maxRecDepth 100000 in
theorem slotcodelaw14_alive.calls (r : Bool) (w : World) (h : slotcodelaw14_alive.f = some r) (hm : ∃ m, w.cell? ⟨0, 0, none⟩ = some (.int .i64 m)) :
    Calls Try.prog 10 #[] w fun e w' => e = .returned (.bool r) ∧ Below w.heap.size w w' := by
  obtain rfl := Option.some.inj h
  clear h
  have HM := Aside0.mk hm
  clear hm
  have E1 := Aside0.mk ex1
  have E2 := Aside0.mk ex2
  have E3 := Aside0.mk ex3
  have E4 := Aside0.mk ex4
  have E5 := Aside0.mk ex5
  have HL := Aside0.mk (strs2 w)
  have HB0 := Aside0.mk (below_alloc (Below.refl w.heap.size w) (.cells #[.string exA, .string exBC] 9))
  go_enter Try.func10, Try.ntmps10
  go_wp2_with (first
    | ((with_reducible refine gate_callee (f := 11) rfl ?_); refine goesL_ (some 13) rfl rfl Try.func11 (by kernel_rfl) rfl #[.slice (some ⟨w.heap.size, 0, none⟩) 2 2] rfl (by (try simp only [List.map_toArray, List.map_cons, List.map_nil]); first | done | rfl) ?_; (refine (strtab_Build.calls (some ⟨w.heap.size, 0, none⟩) 2 [exA, exBC] exT [1, 3] 0 _ ?side1 ?side2 E1.out).mono ?_); (case side1 => exact HL.out); (case side2 => exact Nat.le_refl _); rintro e w1 ⟨v0, v1, rfl, ho0, ho1, hb_⟩; refine ⟨_, rfl, ?_⟩; have HB1 := Aside0.mk (below_step HB0.out hb_); have HO0 := Aside0.mk ho0; have HO1 := Aside0.mk ho1; clear ho0 ho1 hb_; obtain ⟨A1, c1, e1⟩ := Kd.R_slice HO0.out; subst e1; obtain ⟨A2, c2, e2⟩ := Kd.R_slice HO1.out; subst e2)
    | ((with_reducible refine gate_callee (f := 19) rfl ?_); refine goesL_ (some 19) rfl rfl Try.func19 (by kernel_rfl) rfl #[.slice A1 exT.length c1, .int .i64 4] rfl (by (try simp only [List.map_toArray, List.map_cons, List.map_nil]); first | done | rfl) ?_; (refine (strtab_Get.calls A1 c1 exT 4 ⟨#[99]⟩ 0 _ ?side1 ?side2 E2.out).mono ?_); (case side1 => exact (Kd.R_reads' HO0.out).2.2); (case side2 => exact (Kd.R_reads' HO0.out).2.1); rintro e w2 ⟨rfl, hb_⟩; refine ⟨_, rfl, ?_⟩; have HB2 := Aside0.mk (below_step HB1.out hb_); have HP0 := Aside0.mk (Kd.R_below HO0.out hb_); have HP1 := Aside0.mk (Kd.R_below HO1.out hb_); clear hb_)
    | ((with_reducible refine gate_callee (f := 21) rfl ?_); refine goesL_ (some 24) rfl rfl Try.func21 (by kernel_rfl) rfl #[.slice A1 exT.length c1, .string exBC] rfl (by (try simp only [List.map_toArray, List.map_cons, List.map_nil]); first | done | rfl) ?_; (refine (strtab_Find.calls A1 c1 exT exBC 3 true _ ?side1 ?side2 E3.out (maxl HM.out HB2.out) ?side3).mono ?_); (case side1 => exact (Kd.R_reads' HP0.out).2.2); (case side2 => exact (Kd.R_reads' HP0.out).2.1); (case side3 => exact nil_of_C (Kd.R_reads' HP0.out).2.2 (by decide)); rintro e w3 ⟨rfl, hb_⟩; refine ⟨_, rfl, ?_⟩; have HB3 := Aside0.mk (below_step HB2.out hb_); have HQ0 := Aside0.mk (Kd.R_below HP0.out hb_); have HQ1 := Aside0.mk (Kd.R_below HP1.out hb_); have HY1 := Aside0.mk (byte1 w3); have HB3a := Aside0.mk (below_alloc HB3.out (.cells #[.int .u8 1] 5)); clear hb_)
    | ((with_reducible refine gate_callee (f := 16) rfl ?_); refine goesL_ (some 29) rfl rfl Try.func16 (by kernel_rfl) rfl #[.slice (some ⟨w3.heap.size, 0, none⟩) 1 1] rfl (by (try simp only [List.map_toArray, List.map_cons, List.map_nil]); first | done | rfl) ?_; (refine (strtab_Parse.early (some ⟨w3.heap.size, 0, none⟩) 1 [1] _ ?side1 ?side2 ?side3).mono ?_); (case side1 => exact HY1.out); (case side2 => exact Nat.le_refl _); (case side3 => exact .inr (by decide)); rintro e w4 ⟨rfl, hb_⟩; refine ⟨_, rfl, ?_⟩; have HB4 := Aside0.mk (below_step HB3a.out hb_); have HT0 := Aside0.mk (Kd.R_below (Kd.R_alloc HQ0.out (.cells #[.int .u8 1] 5)) hb_); have HT1 := Aside0.mk (Kd.R_below (Kd.R_alloc HQ1.out (.cells #[.int .u8 1] 5)) hb_); have HY6 := Aside0.mk (byte6 w4); have HB4a := Aside0.mk (below_alloc HB4.out (.cells #[.int .u8 0, .int .u8 97, .int .u8 0, .int .u8 98, .int .u8 99, .int .u8 0] 5)); have HU0 := Aside0.mk (Kd.R_alloc HT0.out (.cells #[.int .u8 0, .int .u8 97, .int .u8 0, .int .u8 98, .int .u8 99, .int .u8 0] 5)); have HU1 := Aside0.mk (Kd.R_alloc HT1.out (.cells #[.int .u8 0, .int .u8 97, .int .u8 0, .int .u8 98, .int .u8 99, .int .u8 0] 5)); clear hb_)
    | ((with_reducible refine gate_callee (f := 14) rfl ?_); refine goesL_ (some 35) rfl rfl Try.func14 (by kernel_rfl) rfl #[.slice A1 exT.length c1, .slice (some ⟨w4.heap.size, 0, none⟩) 6 6] rfl (by (try simp only [List.map_toArray, List.map_cons, List.map_nil]); first | done | rfl) ?_; (refine (slotcoderef01_Same.calls 9 A1 c1 exT (some ⟨w4.heap.size, 0, none⟩) 6 exT true _ ?side1 ?side2 ?side3 ?side4 E4.out).mono ?_); (case side1 => exact (Kd.R_reads' HU0.out).2.2); (case side2 => exact (Kd.R_reads' HU0.out).2.1); (case side3 => exact HY6.out); (case side4 => exact Nat.le_refl _); rintro e w5 ⟨rfl, ⟨n5, rfl⟩⟩; refine ⟨_, rfl, ?_⟩; have HI2 := Aside0.mk (ints2' w4 (.cells #[.int .u8 0, .int .u8 97, .int .u8 0, .int .u8 98, .int .u8 99, .int .u8 0] 5) n5))
    | (go_at_call 15; (refine (slices_Equal_int_int.calls 9 A2 c2 [1, 3] (some ⟨w4.heap.size + 1, 0, none⟩) 2 [1, 3] true _ ?side1 ?side2 ?side3 ?side4 E5.out).mono ?_); (case side1 => exact Kd.C_alloc (Kd.C_drewN (Kd.R_reads' HU1.out).2.2 n5) _); (case side2 => exact (Kd.R_reads' HU1.out).2.1); (case side3 => exact HI2.out); (case side4 => exact Nat.le_refl _); rintro e w6 ⟨rfl, ⟨n6, rfl⟩⟩))
  go_ret
  exact ⟨rfl, by repeat (first | exact HB4a.out | apply below_alloc | apply pw_below_drewN | apply below_drew1)⟩

end Go.Proofs.Ytbepheikefkaiaa.PAll
