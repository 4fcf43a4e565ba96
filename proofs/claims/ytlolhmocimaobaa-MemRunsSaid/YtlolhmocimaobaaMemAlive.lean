/- mem: the example of the chapter. -/
import Derived.Test.YtlolhmocimaobaaMemLaw
import Derived.KernelRfl
set_option linter.unusedVariables false
set_option linter.unusedSimpArgs false
namespace Go.Proofs.Ytlolhmocimaobaa.PAll
open Go.RowKit Go.Shelf Go.Proofs.YtlolhmocimaobaaW.PrintWords Go.Proofs.YtlolhmocimaobaaW.PrintLast Go.Proofs.YtlolhmocimaobaaW.PrintMore
def exL : List Reg := [⟨16, [1, 2, 3, 4]⟩]
def exL2 : List Reg := [⟨16, [52, 18, 3, 4]⟩]
def exL3 : List Reg := [⟨16, [52, 18, 9, 4]⟩]
theorem inv_ex {bs : List Int} (h : bs.length = 4) (hw : ∀ x ∈ bs, 0 ≤ x ∧ x < 256) : Inv [⟨16, bs⟩] := inv_one (by omega) (by decide) (by omega) hw (by omega)
theorem inv2 : Inv exL2 := inv_ex rfl (by decide)
theorem inv3 : Inv exL3 := inv_ex rfl (by decide)
theorem ex_r1 : readF exL 16 4 = (67305985, true) := by kernel_rfl
theorem ex_r2 : readF exL 17 4 = (0, false) := by kernel_rfl
theorem ex_r3 : readF exL 19 1 = (4, true) := by kernel_rfl
theorem ex_b : bytesF exL 17 2 = some [2, 3] := by kernel_rfl
theorem ex_w : writeF exL 16 2 4660 = some exL2 := by kernel_rfl
theorem ex_p : putF exL2 18 [9] = some exL3 := by kernel_rfl
theorem ex_d : remF exL3 16 = some [] := by kernel_rfl
theorem ex_d0 : remF [] 16 = none := by kernel_rfl
set_option maxHeartbeats 4000000 in
set_option maxRecDepth 100000 in
theorem alive_c (X : World) : Calls Try.prog 10 #[] X fun e X' => e = .returned (.bool true) ∧ Below X.heap.size X X' := by
  go_enter Try.func10, Try.ntmps10
  go_wp2_with fail
  refine (new_c X X.heap.size (Nat.le_refl _)).mono ?_
  rintro e w1 ⟨rfl, hm1, hb1⟩
  have HM1 := Aside0.mk hm1
  have HB1 := Aside0.mk hb1
  clear hm1 hb1
  go_wp2_with fail
  refine (add0_c _ X.heap.size X.heap.size 16 _ 4 [1, 2, 3, 4] (HM1.out.below (below_alloc (Below.refl _ _) _)) (by decide) (lit_C w1 [1, 2, 3, 4] _ rfl (by decide)) (by decide) (by decide) (by decide) (by decide) (by decide)).mono ?_
  rintro e w2 ⟨rfl, hm2, hb2⟩
  have HM2 : Aside0 (Mem w2 X.heap.size X.heap.size exL) := ⟨hm2⟩
  have HB2 : Aside0 (Below X.heap.size X w2) := ⟨HB1.out.trans (((below_alloc (Below.refl w1.heap.size w1) _).mono HB1.out.size).trans hb2)⟩
  clear hm2 hb2
  go_wp2_with fail
  refine (read_c w2 X.heap.size X.heap.size exL 16 4 HM2.out (by decide) (by decide) (by decide) (by decide) (by decide) _ _ ex_r1).mono ?_
  rintro e w3 ⟨rfl, hb3⟩
  have HM3 := Aside0.mk (HM2.out.below hb3)
  have HB3 : Aside0 (Below X.heap.size X w3) := ⟨HB2.out.trans (hb3.mono HB2.out.size)⟩
  clear hb3
  go_wp2_with fail
  refine (read_c w3 X.heap.size X.heap.size exL 17 4 HM3.out (by decide) (by decide) (by decide) (by decide) (by decide) _ _ ex_r2).mono ?_
  rintro e w4 ⟨rfl, hb4⟩
  have HM4 := Aside0.mk (HM3.out.below hb4)
  have HB4 : Aside0 (Below X.heap.size X w4) := ⟨HB3.out.trans (hb4.mono HB3.out.size)⟩
  clear hb4
  go_wp2_with fail
  refine (read_c w4 X.heap.size X.heap.size exL 19 1 HM4.out (by decide) (by decide) (by decide) (by decide) (by decide) _ _ ex_r3).mono ?_
  rintro e w5 ⟨rfl, hb5⟩
  have HM5 := Aside0.mk (HM4.out.below hb5)
  have HB5 : Aside0 (Below X.heap.size X w5) := ⟨HB4.out.trans (hb5.mono HB4.out.size)⟩
  clear hb5
  go_wp2_with fail
  refine (bytes_c w5 X.heap.size X.heap.size exL 17 2 HM5.out (by decide) (by decide) (by decide) (by decide) (by decide) _ ex_b).mono ?_
  rintro e w6 ⟨⟨v6, rfl, hr6⟩, hb6⟩
  have HM6 := Aside0.mk (HM5.out.below hb6)
  have HB6 : Aside0 (Below X.heap.size X w6) := ⟨HB5.out.trans (hb6.mono HB5.out.size)⟩
  obtain ⟨A6, c6, rfl, hc6, hC6⟩ := Kd.R_reads hr6
  have HC6 := Aside0.mk hC6
  clear hb6 hr6 hC6
  go_wp2_with fail
  refine (same_c A6 c6 [2, 3] _ 2 [2, 3] _ (Kd.C_below HC6.out (below_alloc (Below.refl _ _) _)) hc6 (lit_C w6 [2, 3] _ rfl (by decide)) (by decide) (by decide) true rfl).mono ?_
  rintro e w7 ⟨rfl, k7, hk7⟩
  have HB67 : Aside0 (Below w6.heap.size w6 w7) := ⟨by rw [hk7]; exact pw_below_drewN (below_alloc (Below.refl _ _) _) _⟩
  have HM7 := Aside0.mk (HM6.out.below HB67.out)
  have HB7 : Aside0 (Below X.heap.size X w7) := ⟨HB6.out.trans (HB67.out.mono HB6.out.size)⟩
  clear hk7
  go_wp2_with fail
  refine (write_c w7 X.heap.size X.heap.size exL 16 2 4660 HM7.out (by decide) (by decide) (by decide) (by decide) (by decide) _ ex_w (fun L' h => by cases h; exact inv2)).mono ?_
  rintro e w8 ⟨rfl, hm8, hb8⟩
  have HM8 : Aside0 (Mem w8 X.heap.size X.heap.size exL2) := ⟨hm8⟩
  have HB8 : Aside0 (Below X.heap.size X w8) := ⟨HB7.out.trans hb8⟩
  clear hm8 hb8
  go_wp2_with fail
  refine (put_c _ X.heap.size X.heap.size exL2 18 _ 1 [9] (HM8.out.below (below_alloc (Below.refl _ _) _)) (by decide) (by decide) (by decide) (lit_C w8 [9] _ rfl (by decide)) (by decide) _ ex_p (fun L' h => by cases h; exact inv3)).mono ?_
  rintro e w9 ⟨rfl, hm9, hb9⟩
  have HM9 : Aside0 (Mem w9 X.heap.size X.heap.size exL3) := ⟨hm9⟩
  have HB9 : Aside0 (Below X.heap.size X w9) := ⟨HB8.out.trans (((below_alloc (Below.refl w8.heap.size w8) _).mono HB8.out.size).trans hb9)⟩
  clear hm9 hb9
  go_wp2_with fail
  refine (len_c w9 X.heap.size X.heap.size exL3 HM9.out).mono ?_
  rintro e w10 ⟨rfl, rfl⟩
  go_wp2_with fail
  refine (rem_c w9 X.heap.size X.heap.size exL3 16 HM9.out (by decide) (by decide) (by decide) _ ex_d (fun L' h => by cases h; exact inv_nil)).mono ?_
  rintro e w11 ⟨rfl, hm11, hb11⟩
  have HM11 : Aside0 (Mem w11 X.heap.size X.heap.size []) := ⟨hm11⟩
  have HB11 : Aside0 (Below X.heap.size X w11) := ⟨HB9.out.trans hb11⟩
  clear hm11 hb11
  go_wp2_with fail
  refine (rem_c w11 X.heap.size X.heap.size [] 16 HM11.out (by decide) (by decide) (by decide) _ ex_d0 (fun L' h => by cases h)).mono ?_
  rintro e w12 ⟨rfl, hm12, hb12⟩
  have HB12 : Aside0 (Below X.heap.size X w12) := ⟨HB11.out.trans hb12⟩
  clear hm12 hb12
  go_wp2_with fail
  go_ret
  exact ⟨rfl, HB12.out⟩
end Go.Proofs.Ytlolhmocimaobaa.PAll
