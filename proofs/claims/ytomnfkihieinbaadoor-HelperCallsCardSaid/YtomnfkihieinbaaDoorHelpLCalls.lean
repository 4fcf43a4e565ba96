/- helper: the law HelperCalls. Written by gen_calls.py. -/
import Derived.Test.YtomnfkihieinbaaDoorGHelpH
import Derived.Test.YtomnfkihieinbaaDoorGHelpD
set_option linter.unusedVariables false
set_option linter.unusedSimpArgs false
namespace Go.Proofs.YtomnfkihieinbaaDoor.PAll
open Go.RowKit Go.Shelf Go.Maps Go.Proofs.YtomnfkihieinbaaDoorW.PrintWords Go.Proofs.YtomnfkihieinbaaDoorW.PrintLast Go.Proofs.YtomnfkihieinbaaDoorW.PrintMore
theorem both_startK {w4 w6 : World} {fr : Nat → Prop} {t m : Nat} {S : List MapS} {K : List Reg} {b mb : Nat} {R : List Reg} {S2 : List MapS} (h : MM w4 fr t m S K) (hb : Below w4.heap.size w4 w6) (hR : RMM w6 (fun k => k < w4.heap.size) b mb S2 R) : Both w6 fr t m b mb S K S2 R := by
  obtain ⟨h0, own, h1, h2⟩ := mres_iff.2 h
  refine Has.swap (Has.join (o1 := own) ((rres_iff.2 hR).weaken (fun k hk => ?_)) (fun k hk => (h1 k hk).1) ((MRes t m S K).keep h2 (fun k hk hlt => hb.block k hlt)))
  rcases hk with hk | hk
  · exact h0 k hk
  · exact (h1 k hk).2
theorem both_radd (X : World) (fr : Nat → Prop) (t m b mb : Nat) (S : List MapS) (K : List Reg) (S2 : List MapS) (R : List Reg) (base : Int) (A0 : Option Addr) (c0 : Nat) (bs : List Int) (h : Both X fr t m b mb S K S2 R) (hl : R.length ≤ 999999) (ha0 : 0 ≤ base) (ha1 : base < 18446744073709551616) (hC : Kd.C (Kd.int .u8) X A0 bs.length bs) (hc0 : bs.length ≤ c0) (hbl : bs.length ≤ 4294967296) (hw : IsBytes bs) :
    Calls Tryd.prog 18 #[.pointer (some ⟨mb, 0, none⟩), .int .u64 base, .slice A0 bs.length c0] X fun e X' => e = .returned (.bool (addOk R base bs.length)) ∧ Both X' fr t m b mb S K S2 (raddG R base bs) ∧ Kept fr X X' := by
  obtain ⟨h0, own, h1, h2⟩ := h
  have hH : Has X fr ((RRes b mb S2 R).and (MRes t m S K)) := Has.swap ⟨h0, own, h1, h2⟩
  refine (frameC hH (E := fun e _ => e = .returned (.bool (addOk R base bs.length))) (R' := RRes b mb S2 (raddG R base bs)) (fun fr' hf hh => ?_)).mono fun e X' ⟨he, hm, hk⟩ => ⟨he, hm.swap, hk⟩
  obtain ⟨v, lvs, qss, g2⟩ := rres_iff.1 hh
  refine (frameC g2.swap (E := fun e _ => e = .returned (.bool (addOk R base bs.length))) (R' := RM mb (raddG R base bs)) (fun fr'' hf' hh' => rm_add X fr'' mb R base A0 c0 bs hh' hl ha0 ha1 hC hc0 hbl hw)).mono ?_
  rintro e X' ⟨he, hm, hk⟩
  exact ⟨he, rres_iff.2 ⟨v, lvs, qss, hm.swap⟩, hk⟩
set_option maxHeartbeats 8000000 in
set_option maxRecDepth 100000 in
theorem helperCalls_c (W : World) (hL : LaidH W) (A0 A1 A2 : Option Addr) (c0 c1 c2 : Nat) (data : List Int) (ds : List S28) (l : List OpH) (hr0 : Kd.C (Kd.int .u8) W A0 data.length data) (hr1 : Kd.C k28 W A1 ds.length ds) (hr2 : OpsAt W A2 l) (hc0 : data.length ≤ c0) (hc1 : ds.length ≤ c1) (hc2 : l.length ≤ c2) (hw0 : IsBytes data) (hok : ∀ o ∈ l, OpHOk o) :
    Calls Tryd.prog 4 #[.slice A0 data.length c0, .slice A1 ds.length c1, .slice A2 l.length c2] W fun e W' => e = .returned (.bool true) ∧ Below W.heap.size W W' := by
  have HL := Aside0.mk hL
  have HR0 := Aside0.mk hr0
  have HR1 := Aside0.mk hr1
  have HR2 := Aside0.mk hr2
  have HC0 := Aside0.mk hc0
  have HC1 := Aside0.mk hc1
  have HW0 := Aside0.mk hw0
  have HOK := Aside0.mk hok
  obtain ⟨b0, hb0⟩ : ∃ b0, rightF data ds l = b0 := ⟨_, rfl⟩
  have HRT := Aside0.mk hb0
  have HRC : Aside0 (Calls Tryd.prog 16 #[.slice A0 data.length c0, .slice A1 ds.length c1, .slice A2 l.length c2] W fun e X' => e = .returned (.bool b0) ∧ Below W.heap.size W X') := ⟨hb0 ▸ hright_c W A0 A1 A2 c0 c1 c2 data ds l hr1 hc1 hr2⟩
  have HAL : Aside0 (∀ w, Below W.heap.size W w → Calls Tryd.prog 14 #[] w fun e w' => e = .returned (.bool true) ∧ Below W.heap.size W w' ∧ Below w.heap.size w w') := ⟨fun w hb => (halive_c w (HL.out.below hb)).mono fun e w' ⟨he, hb'⟩ => ⟨he, below_then hb hb.size hb', hb'⟩⟩
  clear hr0 hr1 hr2 hc0 hc1 hc2 hw0 hok hb0 hL
  cases b0 with
  | false =>
    go_enter Tryd.func4, Tryd.ntmps4
    go_wp2_with fail
    refine HRC.out.mono ?_
    rintro e w1 ⟨rfl, hb1⟩
    have HB1 := Aside0.mk hb1
    clear hb1
    go_wp2_with fail
    refine (HAL.out _ HB1.out).mono ?_
    rintro e w2 ⟨rfl, hb2, _⟩
    have HB2 := Aside0.mk hb2
    clear hb2
    go_wp2_with fail
    go_ret
    exact ⟨rfl, HB2.out⟩
  | true =>
    have HF := Aside0.mk (rightF_facts HRT.out)
    have hd20 : ds.length ≤ 20 := HF.out.2.2.1
    have hl40 : l.length ≤ 40 := HF.out.2.2.2.2.1
    have HD : Aside0 (0 < data.length ∧ data.length ≤ 600) := ⟨HF.out.1, HF.out.2.1⟩
    have HSZ : Aside0 (ds.all sizesB = true) := ⟨HF.out.2.2.2.1⟩
    have HWH : Aside0 (∀ o ∈ l, o.which = 1 ∨ o.which = 2 ∨ o.which = 3) := ⟨HF.out.2.2.2.2.2⟩
    have HST : Aside0 (∀ w, Below W.heap.size W w → Calls Tryd.prog 9 #[.slice A0 data.length c0, .slice A1 ds.length c1] w fun e w' => (∃ t m, e = .returned (.tuple #[.pointer (some ⟨t, 0, none⟩), .pointer (some ⟨m, 0, none⟩)]) ∧ MM w' (fun k => k < W.heap.size) t m (ds.map newS) [⟨4294967296, data⟩]) ∧ Below W.heap.size W w') := ⟨fun w hb => by
      refine (start_c w A0 A1 c0 c1 data ds (Kd.C_below HR0.out hb) HC0.out HD.out.1 (by have := HD.out; omega) HW0.out (Kd.C_below HR1.out hb) (by omega) HSZ.out).mono ?_
      rintro e w' ⟨⟨t, m, rfl, hm⟩, hb'⟩
      exact ⟨⟨t, m, rfl, hm.2.2.2.weaken (fun k hk => Nat.lt_of_lt_of_le hk hb.size)⟩, below_then hb hb.size hb'⟩⟩
    clear HF
    go_enter Tryd.func4, Tryd.ntmps4
    go_wp2_with fail
    refine HRC.out.mono ?_
    rintro e w1 ⟨rfl, hb1⟩
    have HB1 := Aside0.mk hb1
    clear hb1
    go_wp2_with fail
    refine (HST.out _ HB1.out).mono ?_
    rintro e w4 ⟨⟨t, m, rfl, hm4⟩, hb4⟩
    have HB4 := Aside0.mk hb4
    have HM4 := Aside0.mk hm4
    clear hb4 hm4
    go_wp2_with fail
    obtain ⟨w5, hw5⟩ : ∃ w5, w4.alloc (.cells #[.slice none 0 0] 51) = w5 := ⟨_, rfl⟩
    obtain ⟨mb, hmb⟩ : ∃ mb, w4.heap.size = mb := ⟨_, rfl⟩
    have hb45 : Below w4.heap.size w4 w5 := by rw [← hw5]; exact below_alloc (Below.refl _ _) _
    have hm5 : Has w5 (fun k => k < w4.heap.size) (RM mb []) := by rw [← hw5, ← hmb]; exact rm_new w4
    have HB5 := Aside0.mk (below_then HB4.out HB4.out.size hb45)
    have HX5 := Aside0.mk (And.intro hb45 hm5)
    rw [hw5, hmb]
    clear hw5 hmb hb45 hm5
    refine (rnew_c w5 mb A1 c1 ds (Kd.C_below HR1.out HB5.out) (by omega)).mono ?_
    rintro e w6 ⟨⟨v6, rfl, hk6, ho6⟩, hb6⟩
    have hB6 : Below w4.heap.size w4 w6 := below_then HX5.out.1 HX5.out.1.size hb6
    have HT6 := Aside0.mk (both_startK HM4.out hB6 (rmm_new HX5.out.2 hb6 hk6 ho6))
    have HB6 := Aside0.mk (below_then HB5.out HB5.out.size hb6)
    clear hk6 ho6 hb6 hB6
    obtain ⟨b, hb⟩ : ∃ b, w5.heap.size = b := ⟨_, rfl⟩
    rw [hb] at HT6 ⊢
    clear hb HX5 HM4
    have hbc := HT6.out.rblk.1
    go_wp2_with fail
    refine (both_radd w6 _ t m b mb _ _ _ _ 4294967296 A0 c0 data HT6.out (by decide) (by decide) (by decide) (Kd.C_below HR0.out HB6.out) HC0.out (by have := HD.out; omega) HW0.out).mono ?_
    rintro e w7 ⟨rfl, hT7, hk7⟩
    have HAO : Aside0 (raddG [] 4294967296 data = [⟨4294967296, data⟩]) := ⟨by unfold raddG; rw [if_pos (add_one HD.out.1 (by have := HD.out; omega)).1]; rfl⟩
    rw [HAO.out] at hT7
    have HT7 := Aside0.mk hT7
    have HB7 := Aside0.mk (HB6.out.trans (hk7.below HB6.out.size (fun k h => h)))
    have HS7 := Aside0.mk (hsim_new ds data (by omega) HSZ.out)
    clear hT7 hk7 hbc HT6
    go_wp2_with fail
    go_loopw [45] (fun v45 wr => ∃ (k : Nat) (S : List MapS) (K R : List Reg), k ≤ l.length ∧ v45 = .int .i64 k ∧ Aside0 (Both wr (fun k => k < W.heap.size) t m b mb S K (refL S) R) ∧ Aside0 (HSim (k + 1) data S K R) ∧ Aside0 (Below W.heap.size W wr)) (fun v45 _ => l.length - (intOf v45).toNat)
    case atStart => exact ⟨0, ds.map newS, [⟨4294967296, data⟩], [⟨4294967296, data⟩], Nat.zero_le _, rfl, HT7, HS7, HB7⟩
    case round =>
      obtain ⟨k, S, K, R, hk, rfl, HT, HP, HB⟩ := hrel
      by_cases hlt : k < l.length
      · obtain ⟨o, ho⟩ : ∃ o, l[k]? = some o := ⟨_, List.getElem?_eq_getElem hlt⟩
        have hmem := List.mem_of_getElem? ho
        have hoo := HOK.out o hmem
        have hwh := HWH.out o hmem
        obtain ⟨ad, rfl, x, x0, x1, x2, x3, x4, x5, x6, x7, x8, x9, x10⟩ := (HR2.out.below HB.out).get ho
        obtain ⟨wh, r0, r1, r2, r3, r4, r5, r6, r7, r8, r9, r10⟩ := o
        obtain ⟨hwr, hh1, hh2, hh3⟩ := hoo
        dsimp only at hwh hwr hh1 hh2 hh3 x x0 x1 x2 x3 x4 x5 x6 x7 x8 x9 x10
        obtain ⟨f, y0, y1, y2, y3, y4, y5, y6, y7, y8, y9, y10, S', K', R', hs', hl', hA, hR⟩ := call_both HP.out (by omega) HT.out.dl HD.out.2 wh r0 r1 r2 r3 r4 r5 r6 r7 r8 r9 r10 hh1.1 hh1.2 hh2.1 hh2.2 hh3.1 hh3.2 hwh
        have HA := Aside0.mk hA
        have HR := Aside0.mk hR
        have HS' := Aside0.mk hs'
        clear hA hR hs' hl' hmem hwh hwr hh1 hh2 hh3 ho
        obtain ⟨wb, hwb⟩ : ∃ wb, wr.alloc (.cells #[.int .i64 wh, .int .u64 r0, .int .u64 r1, .int .u64 r2, .int .u64 r3, .int .u64 r4, .int .u64 r5, .int .u64 r6, .int .u64 r7, .int .u64 r8, .int .u64 r9, .int .u64 r10] 57) = wb := ⟨_, rfl⟩
        obtain ⟨ob, hob⟩ : ∃ ob, wr.heap.size = ob := ⟨_, rfl⟩
        have HTB : Aside0 (Both wb (fun k => k < W.heap.size ∨ k = ob) t m b mb S K (refL S) R) := ⟨by rw [← hwb, ← hob]; exact HT.out.alloc _⟩
        have HBK : Aside0 (wb.heap[ob]? = some (.cells #[.int .i64 wh, .int .u64 r0, .int .u64 r1, .int .u64 r2, .int .u64 r3, .int .u64 r4, .int .u64 r5, .int .u64 r6, .int .u64 r7, .int .u64 r8, .int .u64 r9, .int .u64 r10] 57 (0, 0))) := ⟨by rw [← hwb, ← hob]; exact heap_alloc_new wr _⟩
        have HBB : Aside0 (Below W.heap.size W wb) := ⟨by rw [← hwb]; exact HB.out.alloc HB.out.size _⟩
        have HWB := Aside0.mk hwb
        have HOB := Aside0.mk hob
        clear hwb hob
        go_upto_region 11 with (fail)
        rw [HWB.out, HOB.out]
        clear x x0 x1 x2 x3 x4 x5 x6 x7 x8 x9 x10
        have u0 : wb.cell? ⟨ob, 0, none⟩ = some (.int .i64 wh) := (blk_cell HBK.out 0).trans rfl
        have u1 : wb.cell? ⟨ob, 1, none⟩ = some (.int .u64 r0) := (blk_cell HBK.out 1).trans rfl
        have u2 : wb.cell? ⟨ob, 2, none⟩ = some (.int .u64 r1) := (blk_cell HBK.out 2).trans rfl
        have u3 : wb.cell? ⟨ob, 3, none⟩ = some (.int .u64 r2) := (blk_cell HBK.out 3).trans rfl
        have u4 : wb.cell? ⟨ob, 4, none⟩ = some (.int .u64 r3) := (blk_cell HBK.out 4).trans rfl
        have u5 : wb.cell? ⟨ob, 5, none⟩ = some (.int .u64 r4) := (blk_cell HBK.out 5).trans rfl
        have u6 : wb.cell? ⟨ob, 6, none⟩ = some (.int .u64 r5) := (blk_cell HBK.out 6).trans rfl
        have u7 : wb.cell? ⟨ob, 7, none⟩ = some (.int .u64 r6) := (blk_cell HBK.out 7).trans rfl
        have u8 : wb.cell? ⟨ob, 8, none⟩ = some (.int .u64 r7) := (blk_cell HBK.out 8).trans rfl
        have u9 : wb.cell? ⟨ob, 9, none⟩ = some (.int .u64 r8) := (blk_cell HBK.out 9).trans rfl
        have u10 : wb.cell? ⟨ob, 10, none⟩ = some (.int .u64 r9) := (blk_cell HBK.out 10).trans rfl
        have u11 : wb.cell? ⟨ob, 11, none⟩ = some (.int .u64 r10) := (blk_cell HBK.out 11).trans rfl
        go_wp2_with fail
        refine (HA.out wb _ t m b mb HTB.out).mono ?_
        rintro e w8 ⟨rfl, hT8, hK8⟩
        have HBK8 : Aside0 (w8.heap[ob]? = some (.cells #[.int .i64 wh, .int .u64 r0, .int .u64 r1, .int .u64 r2, .int .u64 r3, .int .u64 r4, .int .u64 r5, .int .u64 r6, .int .u64 r7, .int .u64 r8, .int .u64 r9, .int .u64 r10] 57 (0, 0))) := ⟨(hK8.block (Array.getElem?_eq_some_iff.1 HBK.out).1 (.inr rfl)).trans HBK.out⟩
        have HB8 : Aside0 (Below W.heap.size W w8) := ⟨HBB.out.trans (hK8.below HBB.out.size (fun k h => .inl h))⟩
        obtain ⟨wc, hwc⟩ : ∃ wc, w8.alloc (.cells #[.int .u64 y0, .int .u64 y1, .int .u64 y2, .int .u64 y3, .int .u64 y4, .int .u64 y5, .int .u64 y6, .int .u64 y7, .int .u64 y8, .int .u64 y9, .int .u64 y10] 33) = wc := ⟨_, rfl⟩
        obtain ⟨ba, hba⟩ : ∃ ba, w8.heap.size = ba := ⟨_, rfl⟩
        have HTC : Aside0 (Both wc (fun k => (k < W.heap.size ∨ k = ob) ∨ k = ba) t m b mb S' K' (refL S) R) := ⟨by rw [← hwc, ← hba]; exact hT8.alloc _⟩
        have HBKC : Aside0 (wc.heap[ob]? = some (.cells #[.int .i64 wh, .int .u64 r0, .int .u64 r1, .int .u64 r2, .int .u64 r3, .int .u64 r4, .int .u64 r5, .int .u64 r6, .int .u64 r7, .int .u64 r8, .int .u64 r9, .int .u64 r10] 57 (0, 0))) := ⟨by rw [← hwc]; exact ((below_alloc (Below.refl w8.heap.size w8) _).block _ (Array.getElem?_eq_some_iff.1 HBK8.out).1).trans HBK8.out⟩
        have HBAC : Aside0 (wc.heap[ba]? = some (.cells #[.int .u64 y0, .int .u64 y1, .int .u64 y2, .int .u64 y3, .int .u64 y4, .int .u64 y5, .int .u64 y6, .int .u64 y7, .int .u64 y8, .int .u64 y9, .int .u64 y10] 33 (0, 0))) := ⟨by rw [← hwc, ← hba]; exact heap_alloc_new w8 _⟩
        have HBC : Aside0 (Below W.heap.size W wc) := ⟨by rw [← hwc]; exact HB8.out.alloc HB8.out.size _⟩
        have HWC := Aside0.mk hwc
        have HBA := Aside0.mk hba
        clear hwc hba hT8 hK8 u0 u1 u2 u3 u4 u5 u6 u7 u8 u9 u10 u11
        go_upto_region 12 with (fail)
        rw [HWC.out, HBA.out]
        have u0 : wc.cell? ⟨ob, 0, none⟩ = some (.int .i64 wh) := (blk_cell HBKC.out 0).trans rfl
        have u1 : wc.cell? ⟨ob, 1, none⟩ = some (.int .u64 r0) := (blk_cell HBKC.out 1).trans rfl
        have u2 : wc.cell? ⟨ob, 2, none⟩ = some (.int .u64 r1) := (blk_cell HBKC.out 2).trans rfl
        have u3 : wc.cell? ⟨ob, 3, none⟩ = some (.int .u64 r2) := (blk_cell HBKC.out 3).trans rfl
        have u4 : wc.cell? ⟨ob, 4, none⟩ = some (.int .u64 r3) := (blk_cell HBKC.out 4).trans rfl
        have u5 : wc.cell? ⟨ob, 5, none⟩ = some (.int .u64 r4) := (blk_cell HBKC.out 5).trans rfl
        have u6 : wc.cell? ⟨ob, 6, none⟩ = some (.int .u64 r5) := (blk_cell HBKC.out 6).trans rfl
        have u7 : wc.cell? ⟨ob, 7, none⟩ = some (.int .u64 r6) := (blk_cell HBKC.out 7).trans rfl
        have u8 : wc.cell? ⟨ob, 8, none⟩ = some (.int .u64 r7) := (blk_cell HBKC.out 8).trans rfl
        have u9 : wc.cell? ⟨ob, 9, none⟩ = some (.int .u64 r8) := (blk_cell HBKC.out 9).trans rfl
        have u10 : wc.cell? ⟨ob, 10, none⟩ = some (.int .u64 r9) := (blk_cell HBKC.out 10).trans rfl
        have u11 : wc.cell? ⟨ob, 11, none⟩ = some (.int .u64 r10) := (blk_cell HBKC.out 11).trans rfl
        go_wp2_with fail
        refine (HR.out wc _ t m b mb HTC.out).mono ?_
        rintro e w9 ⟨rfl, hT9, hK9⟩
        have HBA9 : Aside0 (w9.heap[ba]? = some (.cells #[.int .u64 y0, .int .u64 y1, .int .u64 y2, .int .u64 y3, .int .u64 y4, .int .u64 y5, .int .u64 y6, .int .u64 y7, .int .u64 y8, .int .u64 y9, .int .u64 y10] 33 (0, 0))) := ⟨(hK9.block (Array.getElem?_eq_some_iff.1 HBAC.out).1 (.inr rfl)).trans HBAC.out⟩
        have HB9 : Aside0 (Below W.heap.size W w9) := ⟨HBC.out.trans (hK9.below HBC.out.size (fun k h => .inl (.inl h)))⟩
        obtain ⟨wd, hwd⟩ : ∃ wd, w9.alloc (.cells #[.int .u64 y0, .int .u64 y1, .int .u64 y2, .int .u64 y3, .int .u64 y4, .int .u64 y5, .int .u64 y6, .int .u64 y7, .int .u64 y8, .int .u64 y9, .int .u64 y10] 32) = wd := ⟨_, rfl⟩
        obtain ⟨bb, hbb⟩ : ∃ bb, w9.heap.size = bb := ⟨_, rfl⟩
        have HTD : Aside0 (Both wd (fun k => k < W.heap.size) t m b mb S' K' (refL S') R') := ⟨by rw [← hwd]; exact (hT9.alloc _).weaken (fun k h => .inl (.inl (.inl h)))⟩
        have HBAD : Aside0 (wd.heap[ba]? = some (.cells #[.int .u64 y0, .int .u64 y1, .int .u64 y2, .int .u64 y3, .int .u64 y4, .int .u64 y5, .int .u64 y6, .int .u64 y7, .int .u64 y8, .int .u64 y9, .int .u64 y10] 33 (0, 0))) := ⟨by rw [← hwd]; exact ((below_alloc (Below.refl w9.heap.size w9) _).block _ (Array.getElem?_eq_some_iff.1 HBA9.out).1).trans HBA9.out⟩
        have HBBD : Aside0 (wd.heap[bb]? = some (.cells #[.int .u64 y0, .int .u64 y1, .int .u64 y2, .int .u64 y3, .int .u64 y4, .int .u64 y5, .int .u64 y6, .int .u64 y7, .int .u64 y8, .int .u64 y9, .int .u64 y10] 32 (0, 0))) := ⟨by rw [← hwd, ← hbb]; exact heap_alloc_new w9 _⟩
        have HBD : Aside0 (Below W.heap.size W wd) := ⟨by rw [← hwd]; exact HB9.out.alloc HB9.out.size _⟩
        have HWD := Aside0.mk hwd
        have HBBQ := Aside0.mk hbb
        clear hwd hbb hT9 hK9 u0 u1 u2 u3 u4 u5 u6 u7 u8 u9 u10 u11
        go_upto_region 13 with (fail)
        rw [HWD.out, HBBQ.out]
        have HTE := Aside0.mk (HTD.out.below (below_drew (Below.refl _ _)))
        have HBE := Aside0.mk (below_drew HBD.out)
        obtain ⟨hbc, A6, c6, hbc2⟩ := HTE.out.rblk
        have HLN := Aside0.mk HS'.out.sim.perm.length_eq
        have hne : ((R'.length : Int) != (R'.length : Int)) = false := bne_self_eq_false _
        have hnf : (f != f) = false := bne_self_eq_false _
        obtain ⟨YL, hYL⟩ : ∃ YL : List Value, [.int .u64 y0, .int .u64 y1, .int .u64 y2, .int .u64 y3, .int .u64 y4, .int .u64 y5, .int .u64 y6, .int .u64 y7, .int .u64 y8, .int .u64 y9, .int .u64 y10] = YL := ⟨_, rfl⟩
        have heq : ∀ w : World, (Op.equalIn 10000 33 (.agg YL.toArray) (.agg YL.toArray)).run Tryd.prog w = .ok true w := fun w => by rw [← hYL]; exact eq_regs y0 y1 y2 y3 y4 y5 y6 y7 y8 y9 y10 w
        have hi33 : (Tryd.prog.info? 33).map (·.size) = some YL.length := by rw [← hYL]; kernel_rfl
        have hi32 : (Tryd.prog.info? 32).map (·.size) = some YL.length := by rw [← hYL]; kernel_rfl
        have hu33 := Tryd.underlying33
        have hu32 := Tryd.underlying32
        have ra : wd.drew.rangeAt ba 0 YL := by
          intro j v hv
          rw [← hYL] at hv
          rw [Nat.zero_add]
          exact pw_cell_below (below_drew (Below.refl _ _)) ((blk_cell HBAD.out j).trans (by simpa using hv))
        have rb : wd.drew.rangeAt bb 0 YL := by
          intro j v hv
          rw [← hYL] at hv
          rw [Nat.zero_add]
          exact pw_cell_below (below_drew (Below.refl _ _)) ((blk_cell HBBD.out j).trans (by simpa using hv))
        have HYL := Aside0.mk hYL
        clear hYL
        have hS0 : (fun w' => (w'.rangeAt ba 0 YL ∧ w'.rangeAt bb 0 YL) ∧ w'.cell? ⟨b, 0, none⟩ = some (.pointer (some ⟨mb, 0, none⟩)) ∧ w'.cell? ⟨mb, 0, none⟩ = some (.slice A6 R'.length c6)) wd.drew := ⟨⟨ra, rb⟩, hbc, hbc2⟩
        clear ra rb hbc hbc2
        refine wp_region_held_drew (S := (fun w' => (w'.rangeAt ba 0 YL ∧ w'.rangeAt bb 0 YL) ∧ w'.cell? ⟨b, 0, none⟩ = some (.pointer (some ⟨mb, 0, none⟩)) ∧ w'.cell? ⟨mb, 0, none⟩ = some (.slice A6 R'.length c6))) (by kernel_rfl) hS0 (fun hHeld => ?_)
        refine wpAnyH_take (i := 0) (oi := { dst := some 68, op := Op.load 33 (Operand.tmp 12), type := 33, pos := "law.go:78", after := #[], guard := none }) (v := .agg YL.toArray) rfl (by kernel_rfl) (by kernel_rfl) (by kernel_rfl) (fun _ _ _ h => h) (yieldsIf_load_mid (by rfl) 33 (Operand.tmp 12) rfl ba 0 rfl YL _ (fun w h => h.1.1) hu33 rfl hi33) (by assumption) ?restrr0
        try simp only [Act.put, List.setIfInBounds_toArray, List.set_cons_zero, List.set_cons_succ]
        refine wpAnyH_take (i := 1) (oi := { dst := some 69, op := Op.load 32 (Operand.tmp 14), type := 32, pos := "law.go:78", after := #[], guard := none }) (v := .agg YL.toArray) rfl (by kernel_rfl) (by kernel_rfl) (by kernel_rfl) (fun _ _ _ h => h) (yieldsIf_load_mid (by rfl) 32 (Operand.tmp 14) rfl bb 0 rfl YL _ (fun w h => h.1.2) hu32 rfl hi32) (by assumption) ?restrr1
        try simp only [Act.put, List.setIfInBounds_toArray, List.set_cons_zero, List.set_cons_succ]
        refine wpAnyH_take (i := 2) (oi := { dst := some 70, op := Op.binOp BinOp.neq 33 (Operand.tmp 68) (Operand.tmp 69) 33, type := 4, pos := "law.go:78", after := #[{ on := 0, ground := Ground.data }, { on := 1, ground := Ground.data }], guard := none }) (v := ?vha2) rfl (by kernel_rfl) (by kernel_rfl) (by kernel_rfl) (fun _ _ _ h => h) (Or.inl ⟨by rfl, ?hyha2⟩) (by assumption) ?restha2
        case hyha2 => (intro w hSw; (try dsimp only at hSw); first | (go_simp; done) | (go_simp; with_reducible rfl))
        try simp only [Act.put, List.setIfInBounds_toArray, List.set_cons_zero, List.set_cons_succ]
        refine wpAnyH_take (i := 3) (oi := { dst := some 71, op := Op.move (Operand.tmp 70), type := 4, pos := "law.go:78", after := #[{ on := 2, ground := Ground.data }], guard := none }) (v := ?vha3) rfl (by kernel_rfl) (by kernel_rfl) (by kernel_rfl) (fun _ _ _ h => h) (Or.inl ⟨by rfl, ?hyha3⟩) (by assumption) ?restha3
        case hyha3 => (intro w hSw; (try dsimp only at hSw); first | (go_simp; done) | (go_simp; with_reducible rfl))
        try simp only [Act.put, List.setIfInBounds_toArray, List.set_cons_zero, List.set_cons_succ]
        refine wpAnyH_take (i := 4) (oi := { dst := some 72, op := Op.move (Operand.tmp 13), type := 3, pos := "law.go:78", after := #[{ on := 3, ground := Ground.guard }], guard := some (3, false) }) (v := ?vha4) rfl (by kernel_rfl) (by kernel_rfl) (by kernel_rfl) (fun _ _ _ h => h) (Or.inl ⟨by rfl, ?hyha4⟩) (by assumption) ?restha4
        case hyha4 => (intro w hSw; (try dsimp only at hSw); first | (go_simp; done) | (go_simp; with_reducible rfl))
        try simp only [Act.put, List.setIfInBounds_toArray, List.set_cons_zero, List.set_cons_succ]
        refine wpAnyH_take (i := 5) (oi := { dst := some 73, op := Op.move (Operand.tmp 15), type := 3, pos := "law.go:78", after := #[{ on := 3, ground := Ground.guard }], guard := some (3, false) }) (v := ?vha5) rfl (by kernel_rfl) (by kernel_rfl) (by kernel_rfl) (fun _ _ _ h => h) (Or.inl ⟨by rfl, ?hyha5⟩) (by assumption) ?restha5
        case hyha5 => (intro w hSw; (try dsimp only at hSw); first | (go_simp; done) | (go_simp; with_reducible rfl))
        try simp only [Act.put, List.setIfInBounds_toArray, List.set_cons_zero, List.set_cons_succ]
        refine wpAnyH_take (i := 6) (oi := { dst := some 74, op := Op.binOp BinOp.neq 3 (Operand.tmp 72) (Operand.tmp 73) 3, type := 4, pos := "law.go:78", after := #[{ on := 4, ground := Ground.data }, { on := 5, ground := Ground.data }, { on := 3, ground := Ground.guard }], guard := some (3, false) }) (v := ?vha6) rfl (by kernel_rfl) (by kernel_rfl) (by kernel_rfl) (fun _ _ _ h => h) (Or.inl ⟨by rfl, ?hyha6⟩) (by assumption) ?restha6
        case hyha6 => (intro w hSw; (try dsimp only at hSw); first | (go_simp; done) | (go_simp; with_reducible rfl))
        try simp only [Act.put, List.setIfInBounds_toArray, List.set_cons_zero, List.set_cons_succ]
        refine wpAnyH_take (i := 7) (oi := { dst := some 75, op := Op.pick (Operand.tmp 71) (Operand.const (Value.bool true)) (Operand.tmp 74), type := 4, pos := "law.go:78", after := #[{ on := 3, ground := Ground.data }, { on := 6, ground := Ground.data }], guard := none }) (v := ?vha7) rfl (by kernel_rfl) (by kernel_rfl) (by kernel_rfl) (fun _ _ _ h => h) (Or.inl ⟨by rfl, ?hyha7⟩) (by assumption) ?restha7
        case hyha7 => (intro w hSw; (try dsimp only at hSw); first | (go_simp; done) | (go_simp; with_reducible rfl))
        try simp only [Act.put, List.setIfInBounds_toArray, List.set_cons_zero, List.set_cons_succ]
        refine wpAnyH_take (i := 8) (oi := { dst := some 76, op := Op.move (Operand.tmp 75), type := 4, pos := "law.go:78", after := #[{ on := 7, ground := Ground.data }, { on := 3, ground := Ground.chain }], guard := none }) (v := ?vha8) rfl (by kernel_rfl) (by kernel_rfl) (by kernel_rfl) (fun _ _ _ h => h) (Or.inl ⟨by rfl, ?hyha8⟩) (by assumption) ?restha8
        case hyha8 => (intro w hSw; (try dsimp only at hSw); first | (go_simp; done) | (go_simp; with_reducible rfl))
        try simp only [Act.put, List.setIfInBounds_toArray, List.set_cons_zero, List.set_cons_succ]
        refine wpAnyH_take (i := 9) (oi := { dst := some 77, op := Op.move (Operand.tmp 8), type := 23, pos := "law.go:78", after := #[{ on := 8, ground := Ground.guard }], guard := some (8, false) }) (v := ?vha9) rfl (by kernel_rfl) (by kernel_rfl) (by kernel_rfl) (fun _ _ _ h => h) (Or.inl ⟨by rfl, ?hyha9⟩) (by assumption) ?restha9
        case hyha9 => (intro w hSw; (try dsimp only at hSw); first | (go_simp; done) | (go_simp; with_reducible rfl))
        try simp only [Act.put, List.setIfInBounds_toArray, List.set_cons_zero, List.set_cons_succ]
        refine wpAnyH_take (i := 11) (oi := { dst := some 79, op := Op.move (Operand.tmp 9), type := 46, pos := "law.go:78", after := #[{ on := 8, ground := Ground.guard }], guard := some (8, false) }) (v := ?vha11) rfl (by kernel_rfl) (by kernel_rfl) (by kernel_rfl) (fun _ _ _ h => h) (Or.inl ⟨by rfl, ?hyha11⟩) (by assumption) ?restha11
        case hyha11 => (intro w hSw; (try dsimp only at hSw); first | (go_simp; done) | (go_simp; with_reducible rfl))
        try simp only [Act.put, List.setIfInBounds_toArray, List.set_cons_zero, List.set_cons_succ]
        refine wpAnyH_take (i := 12) (oi := { dst := some 80, op := Op.nilCheck (Operand.tmp 79), type := 0, pos := "law.go:78", after := #[{ on := 11, ground := Ground.data }, { on := 8, ground := Ground.guard }], guard := some (8, false) }) (v := ?vha12) rfl (by kernel_rfl) (by kernel_rfl) (by kernel_rfl) (fun _ _ _ h => h) (Or.inl ⟨by rfl, ?hyha12⟩) (by assumption) ?restha12
        case hyha12 => (intro w hSw; (try dsimp only at hSw); first | (go_simp; done) | (go_simp; with_reducible rfl))
        try simp only [Act.put, List.setIfInBounds_toArray, List.set_cons_zero, List.set_cons_succ]
        refine wpAnyH_take (i := 13) (oi := { dst := some 81, op := Op.fieldAddr 55 (Operand.tmp 80) 0, type := 0, pos := "law.go:78", after := #[{ on := 12, ground := Ground.data }, { on := 8, ground := Ground.guard }], guard := some (8, false) }) (v := ?vha13) rfl (by kernel_rfl) (by kernel_rfl) (by kernel_rfl) (fun _ _ _ h => h) (Or.inl ⟨by rfl, ?hyha13⟩) (by assumption) ?restha13
        case hyha13 => (intro w hSw; (try dsimp only at hSw); first | (go_simp; done) | (go_simp; with_reducible rfl))
        try simp only [Act.put, List.setIfInBounds_toArray, List.set_cons_zero, List.set_cons_succ]
        refine wpAnyH_take (i := 14) (oi := { dst := some 82, op := Op.load 48 (Operand.tmp 81), type := 48, pos := "law.go:78", after := #[{ on := 13, ground := Ground.data }, { on := 8, ground := Ground.guard }], guard := some (8, false) }) (v := ?vha14) rfl (by kernel_rfl) (by kernel_rfl) (by kernel_rfl) (fun _ _ _ h => h) (Or.inl ⟨by rfl, ?hyha14⟩) (by assumption) ?restha14
        case hyha14 => (intro w hSw; (try dsimp only at hSw); first | (go_simp; done) | (go_simp; with_reducible rfl))
        try simp only [Act.put, List.setIfInBounds_toArray, List.set_cons_zero, List.set_cons_succ]
        refine wpAnyH_take (i := 15) (oi := { dst := some 83, op := Op.nilCheck (Operand.tmp 82), type := 0, pos := "law.go:78", after := #[{ on := 14, ground := Ground.data }, { on := 8, ground := Ground.guard }], guard := some (8, false) }) (v := ?vha15) rfl (by kernel_rfl) (by kernel_rfl) (by kernel_rfl) (fun _ _ _ h => h) (Or.inl ⟨by rfl, ?hyha15⟩) (by assumption) ?restha15
        case hyha15 => (intro w hSw; (try dsimp only at hSw); first | (go_simp; done) | (go_simp; with_reducible rfl))
        try simp only [Act.put, List.setIfInBounds_toArray, List.set_cons_zero, List.set_cons_succ]
        refine wpAnyH_take (i := 16) (oi := { dst := some 84, op := Op.fieldAddr 51 (Operand.tmp 83) 0, type := 0, pos := "law.go:78", after := #[{ on := 15, ground := Ground.data }, { on := 8, ground := Ground.guard }], guard := some (8, false) }) (v := ?vha16) rfl (by kernel_rfl) (by kernel_rfl) (by kernel_rfl) (fun _ _ _ h => h) (Or.inl ⟨by rfl, ?hyha16⟩) (by assumption) ?restha16
        case hyha16 => (intro w hSw; (try dsimp only at hSw); first | (go_simp; done) | (go_simp; with_reducible rfl))
        try simp only [Act.put, List.setIfInBounds_toArray, List.set_cons_zero, List.set_cons_succ]
        refine wpAnyH_take (i := 17) (oi := { dst := some 85, op := Op.load 49 (Operand.tmp 84), type := 49, pos := "law.go:78", after := #[{ on := 16, ground := Ground.data }, { on := 8, ground := Ground.guard }], guard := some (8, false) }) (v := ?vha17) rfl (by kernel_rfl) (by kernel_rfl) (by kernel_rfl) (fun _ _ _ h => h) (Or.inl ⟨by rfl, ?hyha17⟩) (by assumption) ?restha17
        case hyha17 => (intro w hSw; (try dsimp only at hSw); first | (go_simp; done) | (go_simp; with_reducible rfl))
        try simp only [Act.put, List.setIfInBounds_toArray, List.set_cons_zero, List.set_cons_succ]
        refine wpAnyH_take (i := 18) (oi := { dst := some 86, op := Op.call { callee := Callee.builtin Builtin.len, args := #[Operand.tmp 85], argTypes := #[49] }, type := 3, pos := "law.go:78", after := #[{ on := 17, ground := Ground.data }, { on := 8, ground := Ground.guard }], guard := some (8, false) }) (v := ?vha18) rfl (by kernel_rfl) (by kernel_rfl) (by kernel_rfl) (fun _ _ _ h => h) (Or.inl ⟨by rfl, ?hyha18⟩) (by assumption) ?restha18
        case hyha18 => (intro w hSw; (try dsimp only at hSw); first | (go_simp; done) | (go_simp; with_reducible rfl))
        try simp only [Act.put, List.setIfInBounds_toArray, List.set_cons_zero, List.set_cons_succ]
        refine wpAnyH_ready (rs := [10]) (by kernel_rfl) (by simp) (AllReadyH.cons (o := { dst := some 78, op := Op.call { callee := Callee.value (Operand.func 20), args := #[Operand.tmp 77], argTypes := #[23] }, type := 3, pos := "law.go:78", after := #[{ on := 9, ground := Ground.data }, { on := 8, ground := Ground.chain }, { on := 8, ground := Ground.guard }], guard := some (8, false) }) rfl (fun K hK => ?stephb10) AllReadyH.nil)
        go_simp
        go_at_call 20
        refine (mm_len _ _ _ _ _ _ HTE.out.mm).mono ?_
        rw [HLN.out]
        rintro e w10 ⟨rfl, rfl⟩
        try dsimp only
        refine hK.out _ _ (by assumption) (fun hHeld => ?_)
        clear hK K
        try simp only [Act.put, List.setIfInBounds_toArray, List.set_cons_zero, List.set_cons_succ]
        refine wpAnyH_take (i := 19) (oi := { dst := some 87, op := Op.binOp BinOp.neq 3 (Operand.tmp 78) (Operand.tmp 86) 3, type := 4, pos := "law.go:78", after := #[{ on := 10, ground := Ground.data }, { on := 18, ground := Ground.data }, { on := 8, ground := Ground.guard }], guard := some (8, false) }) (v := ?vhc19) rfl (by kernel_rfl) (by kernel_rfl) (by kernel_rfl) (fun _ _ _ h => h) (Or.inl ⟨by rfl, ?hyhc19⟩) (by assumption) ?resthc19
        case hyhc19 => (intro w hSw; (try dsimp only at hSw); first | (go_simp; done) | (go_simp; with_reducible rfl))
        try simp only [Act.put, List.setIfInBounds_toArray, List.set_cons_zero, List.set_cons_succ]
        refine wpAnyH_take (i := 20) (oi := { dst := some 88, op := Op.pick (Operand.tmp 76) (Operand.const (Value.bool true)) (Operand.tmp 87), type := 4, pos := "law.go:78", after := #[{ on := 8, ground := Ground.data }, { on := 19, ground := Ground.data }], guard := none }) (v := ?vhc20) rfl (by kernel_rfl) (by kernel_rfl) (by kernel_rfl) (fun _ _ _ h => h) (Or.inl ⟨by rfl, ?hyhc20⟩) (by assumption) ?resthc20
        case hyhc20 => (intro w hSw; (try dsimp only at hSw); first | (go_simp; done) | (go_simp; with_reducible rfl))
        try simp only [Act.put, List.setIfInBounds_toArray, List.set_cons_zero, List.set_cons_succ]
        refine wpAnyH_done (by kernel_rfl) ?_ _
        go_wp2_with fail
        exact ⟨⟨k + 1, S', K', R', by omega, by congr 1, HTE, HS', HBE⟩, by simp [intOf]; omega⟩
      · obtain rfl : k = l.length := by omega
        go_wp2_with fail
        go_loopw [92] (fun v92 wq => ∃ (j : Nat), j ≤ ds.length ∧ v92 = .int .i64 j ∧ Aside0 (Both wq (fun k => k < W.heap.size) t m b mb S K (refL S) R) ∧ Aside0 (Below W.heap.size W wq)) (fun v92 _ => ds.length - (intOf v92).toNat)
        case atStart => exact ⟨0, Nat.zero_le _, rfl, HT, HB⟩
        case round =>
          obtain ⟨j, hj, rfl, HTQ, HBQ⟩ := hrel
          by_cases hjl : j < ds.length
          · obtain ⟨es, hes⟩ : ∃ es, entF S K (j : Int) = es := ⟨_, rfl⟩
            have HSM := Aside0.mk (entF_small HP.out.sim.good (by omega) HTQ.out.dl (j : Int))
            rw [hes] at HSM
            have HES := Aside0.mk hes
            clear hes
            go_wp2_with fail
            refine (both_ents _ _ t m b mb (l.length + 1) S K R j HTQ.out HP.out.sim (by omega)).mono ?_
            rw [HES.out]
            rintro e w6 ⟨⟨vR, vs, rfl, hE6⟩, hb6⟩
            obtain ⟨A7, c7, rfl, hc7, hC7⟩ := hE6.C
            have HC7 := Aside0.mk hC7
            have HK7 := Aside0.mk hc7
            have HT6' := Aside0.mk (HTQ.out.below hb6)
            have HB6' := Aside0.mk (below_then HBQ.out HBQ.out.size hb6)
            clear hE6 hb6 hC7 hc7
            go_wp2_with fail
            refine (both_rents _ _ t m b mb (l.length + 1) S K R j HT6'.out HP.out.sim (by omega)).mono ?_
            rw [HES.out]
            rintro e w7 ⟨⟨vR2, vs2, rfl, hE7⟩, hb7⟩
            obtain ⟨A8, c8, rfl, hc8, hC8⟩ := hE7.C
            have HC8 := Aside0.mk hC8
            have HC7' := Aside0.mk (Kd.C_below HC7.out hb7)
            have HK8 := Aside0.mk hc8
            have HT7' := Aside0.mk (HT6'.out.below hb7)
            have HB7' := Aside0.mk (below_then HB6'.out HB6'.out.size hb7)
            clear hE7 hb7 hC8 hc8
            go_wp2_with fail
            refine (same21_c es HSM.out.1 HSM.out.2 A7 A8 c7 c8 _ HC7'.out HK7.out HC8.out HK8.out).mono ?_
            rintro e w8 ⟨rfl, kk, rfl⟩
            have HT8' := Aside0.mk (HT7'.out.below (pw_below_drewN (Below.refl _ _) kk))
            have HB8' := Aside0.mk (pw_below_drewN HB7'.out kk)
            go_wp2_with fail
            exact ⟨⟨j + 1, by omega, by congr 1, HT8', HB8'⟩, by simp [intOf]; omega⟩
          · have HBY := Aside0.mk (HP.out.bytes HTQ.out.dl HD.out.1)
            go_wp2_with fail
            refine (mm_bytes _ _ t m S K 4294967296 data.length HTQ.out.mm (Nat.le_trans HP.out.sim.len (by omega)) (by decide) (by decide) (by omega) (by have := HD.out; omega)).mono ?_
            rintro e w8 ⟨hb8, v8, rfl, hR8⟩
            rw [HBY.out] at hR8
            obtain ⟨A9, c9, rfl, hc9, hC9⟩ := (byteS_R hR8).C
            simp only [HBY.out, Option.isSome_some, Option.getD_some] at hc9 hC9 ⊢
            have HC9 := Aside0.mk hC9
            have HK9 := Aside0.mk hc9
            have HB8 := Aside0.mk (below_then HBQ.out HBQ.out.size hb8)
            clear hb8 hR8 hC9 hc9
            go_wp2_with fail
            refine (HAL.out _ HB8.out).mono ?_
            rintro e w9 ⟨rfl, hb9, hb9'⟩
            have HB9 := Aside0.mk hb9
            have HC9' := Aside0.mk (Kd.C_below HC9.out hb9')
            have HD9 := Aside0.mk (Kd.C_below HR0.out hb9)
            clear hb9 hb9'
            go_wp2_with fail
            refine (same_c A9 c9 data A0 c0 data _ HC9'.out HK9.out HD9.out HC0.out (by have := HD.out; omega) true (by simp)).mono ?_
            rintro e w10 ⟨rfl, kk, rfl⟩
            have HB10 := Aside0.mk (pw_below_drewN HB9.out kk)
            go_wp2_with fail
            go_ret
            exact ⟨rfl, HB10.out⟩
end Go.Proofs.YtomnfkihieinbaaDoor.PAll
