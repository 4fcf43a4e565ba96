/- The texts MapsLRun of this claim, joined. -/
import Derived.Test.YtmkmldpcoonepaaGRMapD
/- maps: the law MapsRun's walk. -/
set_option linter.unusedVariables false
set_option linter.unusedSimpArgs false
namespace Go.Proofs.Ytmkmldpcoonepaa.PAll
open Go.RowKit Go.Shelf Go.Maps Go.Proofs.YtmkmldpcoonepaaW.PrintWords Go.Proofs.YtmkmldpcoonepaaW.PrintLast Go.Proofs.YtmkmldpcoonepaaW.PrintMore
set_option maxHeartbeats 8000000 in
set_option maxRecDepth 100000 in
theorem mapsRun_c (W : World) (A0 A1 : Option Addr) (c0 c1 : Nat) (ds : List S42) (l : List S66) (hr0 : Kd.C k42 W A0 ds.length ds) (hc0 : ds.length ≤ c0) (hr1 : Kd.C k66 W A1 l.length l) (hc1 : l.length ≤ c1) (hok : ∀ o ∈ l, OpOk o) :
    Calls Try.prog 8 #[.slice A0 ds.length c0, .slice A1 l.length c1] W fun e W' => e = .returned (.bool true) ∧ Below W.heap.size W W' := by
  obtain ⟨kf, hkf⟩ := fewM_f ds l
  have HR0 := Aside0.mk hr0
  have HR1 := Aside0.mk hr1
  have HOK := Aside0.mk hok
  have HFEW : Aside0 (∀ w, Below W.heap.size W w → Calls Try.prog 27 #[.slice A0 ds.length c0, .slice A1 l.length c1] w fun e w' => e = .returned (.bool (fewMB ds l)) ∧ Below w.heap.size w w') := ⟨fun w hb => slotcodelaw21_few.calls kf A0 c0 ds A1 c1 l _ w (Kd.C_below HR0.out hb) hc0 (Kd.C_below HR1.out hb) hc1 hkf⟩
  have HAL : Aside0 (∀ w, Below W.heap.size W w → Calls Try.prog 11 #[] w fun e w' => e = .returned (.bool true) ∧ Below W.heap.size W w') := ⟨fun w hb => (alive_c w).mono fun e w' ⟨he, hb'⟩ => ⟨he, below_then hb hb.size hb'⟩⟩
  have HCK : Aside0 (∀ w r, checkF ds = r → Below W.heap.size W w → Calls Try.prog 10 #[.slice A0 ds.length c0] w fun e w' => e = .returned (.int .i64 r) ∧ Below w.heap.size w w') := ⟨fun w r hr hb => check_c ds A0 c0 w (Kd.C_below HR0.out hb) hc0 r hr⟩
  clear hr0 hr1 hok hkf
  cases hfb : fewMB ds l with
  | false =>
    rw [hfb] at HFEW
    clear hc0 hc1 hfb
    go_enter Try.func8, Try.ntmps8
    go_wp2_with fail
    refine (lm_mem W rfl).mono ?_
    rintro e w1 ⟨rfl, hm1, hb1⟩
    have HB1 := Aside0.mk hb1
    clear hb1 hm1
    go_wp2_with fail
    refine (HFEW.out _ HB1.out).mono ?_
    rintro e w2 ⟨rfl, hb2⟩
    have HB2 := Aside0.mk (below_then HB1.out HB1.out.size hb2)
    clear hb2
    go_wp2_with fail
    refine (HAL.out _ HB2.out).mono ?_
    rintro e w3 ⟨rfl, hb3⟩
    have HB3 := Aside0.mk hb3
    clear hb3
    go_wp2_with fail
    go_ret
    exact ⟨rfl, HB3.out⟩
  | true =>
    rw [hfb] at HFEW
    unfold fewMB at hfb
    rw [Bool.and_eq_true, Bool.and_eq_true, decide_eq_true_eq, decide_eq_true_eq] at hfb
    obtain ⟨hd20, hl40, hfl⟩ := hfb
    have HD20 := Aside0.mk hd20
    have HS : Aside0 (∀ o ∈ l, o.f2.length ≤ 300 ∧ o.f3.length ≤ 600) := ⟨fun o ho => by
      have := List.all_eq_true.1 hfl o ho
      rw [Bool.and_eq_true, decide_eq_true_eq, decide_eq_true_eq] at this
      exact this⟩
    have HNEW : Aside0 (∀ w, Below W.heap.size W w → Has w (fun k => k < W.heap.size) (PM W.heap.size []) → Calls Try.prog 12 #[.pointer (some ⟨W.heap.size, 0, none⟩), .slice A0 ds.length c0] w fun e X' => (if ds.all sizesB = true then ∃ t, e = .returned (.tuple #[.pointer (some ⟨t, 0, none⟩), .int .i64 0]) ∧ MM X' (fun k => k < W.heap.size) t W.heap.size (ds.map newS) [] else e = .returned (.tuple #[.pointer none, .int .i64 9])) ∧ Below w.heap.size w X') := ⟨fun w hb hm => mm_new w _ _ _ A0 c0 ds hm (Kd.C_below HR0.out hb) (by have := HD20.out; omega)⟩
    have hck : checkF ds = if ds.all sizesB = true then 0 else 9 := by unfold checkF; rw [if_neg (by omega)]
    have HCK2 := Aside0.mk hck
    clear hfl hc0 hc1 hd20 hck
    by_cases hsz : ds.all sizesB = true
    · have HSZ := Aside0.mk hsz
      have HCK3 : Aside0 (checkF ds = 0) := ⟨by rw [HCK2.out, if_pos hsz]⟩
      clear hsz
      go_enter Try.func8, Try.ntmps8
      go_wp2_with fail
      refine (lm_mem W rfl).mono ?_
      rintro e w1 ⟨rfl, hm1, hb1⟩
      have HB1 := Aside0.mk hb1
      have HM1 := Aside0.mk hm1
      clear hb1 hm1
      go_wp2_with fail
      refine (HFEW.out _ HB1.out).mono ?_
      rintro e w2 ⟨rfl, hb2⟩
      have HB2 := Aside0.mk (below_then HB1.out HB1.out.size hb2)
      have HM2 := Aside0.mk (HM1.out.below hb2)
      clear hb2
      go_wp2_with fail
      refine (HNEW.out _ HB2.out HM2.out).mono ?_
      rintro e w3 ⟨hp3, hb3⟩
      rw [if_pos HSZ.out] at hp3
      obtain ⟨t, rfl, hm3⟩ := hp3
      have HB3 := Aside0.mk (below_then HB2.out HB2.out.size hb3)
      have HM3 := Aside0.mk hm3
      clear hb3 hm3
      go_wp2_with fail
      refine (HCK.out _ _ HCK3.out HB3.out).mono ?_
      rintro e w4 ⟨rfl, hb4⟩
      have HB4 := Aside0.mk (below_then HB3.out HB3.out.size hb4)
      have HM4 := Aside0.mk (HM3.out.below hb4)
      clear hb4
      go_wp2_with fail
      obtain ⟨w5, hw5⟩ : ∃ w5, w4.alloc (.cells #[.slice none 0 0] 37) = w5 := ⟨_, rfl⟩
      obtain ⟨mb, hmb⟩ : ∃ mb, w4.heap.size = mb := ⟨_, rfl⟩
      have hb45 : Below w4.heap.size w4 w5 := by rw [← hw5]; exact below_alloc (Below.refl _ _) _
      have hm5 : Has w5 (fun k => k < w4.heap.size) (RM mb []) := by rw [← hw5, ← hmb]; exact rm_new w4
      have HB5 := Aside0.mk (below_then HB4.out HB4.out.size hb45)
      have HX5 := Aside0.mk (And.intro hb45 hm5)
      rw [hw5, hmb]
      clear hw5 hmb hb45 hm5
      refine (rnew_c w5 mb A0 c0 ds (Kd.C_below HR0.out HB5.out) (by have := HD20.out; omega)).mono ?_
      rintro e w6 ⟨⟨v6, rfl, hk6, ho6⟩, hb6⟩
      have hB6 : Below w4.heap.size w4 w6 := below_then HX5.out.1 HX5.out.1.size hb6
      have HT6 := Aside0.mk (both_start (v6 := 0) HM4.out hB6 (rmm_new HX5.out.2 hb6 hk6 ho6))
      have HB6 := Aside0.mk (below_then HB5.out HB5.out.size hb6)
      clear hk6 ho6 hb6 hB6
      obtain ⟨b, hb⟩ : ∃ b, w5.heap.size = b := ⟨_, rfl⟩
      rw [hb] at HT6 ⊢
      have HS7 := Aside0.mk (sim_new ds (by have := HD20.out; omega) HSZ.out)
      clear hb HX5 HM4 HM3 HM2 HM1
      have hd20 := HD20.out
      go_wp2_with fail
      go_loopw [53] (fun v53 wr => ∃ (k : Nat) (S : List MapS) (K R : List Reg), k ≤ l.length ∧ v53 = .int .i64 k ∧ Aside0 (Both wr (fun k => k < W.heap.size) t W.heap.size b mb S K (refL S) R) ∧ Aside0 (Sim k S K R) ∧ Aside0 (Below W.heap.size W wr)) (fun v53 _ => l.length - (intOf v53).toNat)
      case atStart => exact ⟨0, ds.map newS, [], [], Nat.zero_le _, rfl, HT6, HS7, HB6⟩
      case round =>
        obtain ⟨k, S, K, R, hk, rfl, HT, HP, HB⟩ := hrel
        by_cases hlt : k < l.length
        · obtain ⟨ad, A4, c4, A5, c5, rfl, g0, g1, g2, g3, hcap4, hC4, hcap5, hC5⟩ := at_T66 HR1.out (k : Int) (by omega) (by omega)
          have hmem : rd_T66 l (k : Int) ∈ l := by
            unfold rd_T66
            rw [Int.toNat_natCast, List.getD_eq_getElem?_getD, List.getElem?_eq_getElem hlt]
            exact List.getElem_mem hlt
          obtain ⟨o, ho⟩ : ∃ o, rd_T66 l (k : Int) = o := ⟨_, rfl⟩
          rw [ho] at g0 g1 g2 g3 hcap4 hC4 hcap5 hC5 hmem
          have hoo := HOK.out o hmem
          have hos := HS.out o hmem
          rw [Int.toNat_natCast] at g0 g1 g2 g3
          replace g0 := pw_cell_below HB.out g0
          replace g1 := pw_cell_below HB.out g1
          replace g2 := pw_cell_below HB.out g2
          replace g3 := pw_cell_below HB.out g3
          have hA5 : 0 < o.f3.length → ∀ ad', A5 = some ad' → ad'.block < W.heap.size := fun hp ad' e => by
            obtain ⟨ad2, e2, hx⟩ := Kd.at_int hC5 (0 : Int) (by omega) (by omega)
            rw [e] at e2
            cases e2
            have := World.block_lt_of_cell? W _ hx
            have hb' : (ad'.add (0 : Int).toNat).block = ad'.block := by unfold Addr.add; split <;> rfl
            rw [hb'] at this
            exact this
          obtain ⟨wb, hwb⟩ : ∃ wb, wr.alloc (.cells #[.int .i64 o.f0, .int .i64 o.f1, .slice A4 o.f2.length c4, .slice A5 o.f3.length c5] 66) = wb := ⟨_, rfl⟩
          obtain ⟨ob, hob⟩ : ∃ ob, wr.heap.size = ob := ⟨_, rfl⟩
          have hTb : Both wb (fun k => k < W.heap.size ∨ k = ob) t W.heap.size b mb S K (refL S) R := by rw [← hwb, ← hob]; exact HT.out.alloc _
          have hbk : wb.heap[ob]? = some (.cells #[.int .i64 o.f0, .int .i64 o.f1, .slice A4 o.f2.length c4, .slice A5 o.f3.length c5] 66 (0, 0)) := by rw [← hwb, ← hob]; exact heap_alloc_new wr _
          have hBb : Below W.heap.size W wb := by rw [← hwb]; exact HB.out.alloc HB.out.size _
          have HDO : Aside0 (∀ w, Below wb.heap.size wb w → Calls Try.prog 28 #[.pointer (some ⟨t, 0, none⟩), .pointer (some ⟨W.heap.size, 0, none⟩), .pointer (some ⟨b, 0, none⟩), .agg #[.int .i64 o.f0, .int .i64 o.f1, .slice A4 o.f2.length c4, .slice A5 o.f3.length c5]] w fun e w' => e = .returned (.bool false) ∧ ∃ S' K' R', Both w' (fun k => k < W.heap.size) t W.heap.size b mb S' K' (refL S') R' ∧ Sim (k + 1) S' K' R' ∧ Below W.heap.size W w') := ⟨fun w hb => by
            have hBw := below_then hBb hBb.size hb
            refine (do_c w (fun k => k < W.heap.size) t W.heap.size b mb k S K R o hoo A4 A5 c4 c5 ((hTb.weaken (fun k h => .inl h)).below hb) HP.out (by omega) hcap4 hos.1 hcap5 hos.2 (fun W' hO => Kd.C_below hC4 (hBw.trans (hO.below hBw.size (fun k h => h)))) (fun W' hO => Kd.C_below hC5 (hBw.trans (hO.below hBw.size (fun k h => h)))) hA5).mono ?_
            rintro e w' ⟨he, S', K', R', hT', hp', hl', hO'⟩
            exact ⟨he, S', K', R', hT', hp', hBw.trans (hO'.below hBw.size (fun k h => h))⟩⟩
          have hc0 : wb.drew.cell? ⟨ob, 0, none⟩ = some (.int .i64 o.f0) := (blk_cell hbk 0).trans rfl
          have hc1 : wb.drew.cell? ⟨ob, 1, none⟩ = some (.int .i64 o.f1) := (blk_cell hbk 1).trans rfl
          have hc2 : wb.drew.cell? ⟨ob, 2, none⟩ = some (.slice A4 o.f2.length c4) := (blk_cell hbk 2).trans rfl
          have hc3 : wb.drew.cell? ⟨ob, 3, none⟩ = some (.slice A5 o.f3.length c5) := (blk_cell hbk 3).trans rfl
          have HWB := Aside0.mk hwb
          have HOB := Aside0.mk hob
          clear hmem ho hoo hos hA5 hC4 hcap4 hC5 hcap5 hwb hob hTb hbk hBb
          go_wp2_with fail
          rw [HWB.out, HOB.out]
          go_region_with (first | (go_at_call 28; refine (HDO.out _ (below_drew (Below.refl _ _))).mono ?_; rintro e w4 ⟨rfl, S', K', R', hT4, hp4, hb4⟩; obtain ⟨hbc, A6, c6, hbc2⟩ := hT4.rblk; have HT4 := Aside0.mk hT4; have HP4 := Aside0.mk hp4; have HB4 := Aside0.mk hb4; have HLN := Aside0.mk hp4.perm.length_eq; have hne : ((R'.length : Int) != (R'.length : Int)) = false := bne_self_eq_false _; clear hT4 hp4 hb4) | (go_at_call 26; refine (mm_len _ _ _ _ _ _ HT4.out.mm).mono ?_; rw [HLN.out]; rintro e w5 ⟨rfl, rfl⟩))
          all_goals
            go_wp2_with fail
            go_loopw [12] (fun v12 wq => ∃ (j : Int), -1 ≤ j ∧ j ≤ ds.length + 1 ∧ v12 = .int .i64 j ∧ Aside0 (Both wq (fun k => k < W.heap.size) t W.heap.size b mb S' K' (refL S') R') ∧ Aside0 (Below W.heap.size W wq)) (fun v12 _ => ((ds.length : Int) + 1 - intOf v12).toNat)
            case atStart => exact ⟨-1, by omega, by omega, rfl, HT4, HB4⟩
            case round =>
              obtain ⟨j, hj0, hj1, rfl, HTQ, HBQ⟩ := hrel
              by_cases hjl : j ≤ ds.length
              · obtain ⟨es, hes⟩ : ∃ es, entF S' K' j = es := ⟨_, rfl⟩
                have HSM := Aside0.mk (entF_small HP4.out.good (by omega) HTQ.out.dl j)
                rw [hes] at HSM
                have HES := Aside0.mk hes
                clear hes
                go_wp2_with fail
                refine (both_ents _ _ t W.heap.size b mb (k + 1) S' K' R' j HTQ.out HP4.out (by omega)).mono ?_
                rw [HES.out]
                rintro e w6 ⟨⟨vR, vs, rfl, hE6⟩, hb6⟩
                obtain ⟨A7, c7, rfl, hc7, hC7⟩ := hE6.C
                have HC7 := Aside0.mk hC7
                have HK7 := Aside0.mk hc7
                have HT6' := Aside0.mk (HTQ.out.below hb6)
                have HB6' := Aside0.mk (below_then HBQ.out HBQ.out.size hb6)
                clear hE6 hb6 hC7 hc7
                go_wp2_with fail
                refine (both_rents _ _ t W.heap.size b mb (k + 1) S' K' R' j HT6'.out HP4.out (by omega)).mono ?_
                rw [HES.out]
                rintro e w7 ⟨⟨vR2, vs2, rfl, hE7⟩, hb7⟩
                obtain ⟨A8, c8, rfl, hc8, hC8⟩ := hE7.C
                have HC8 := Aside0.mk hC8
                have HC7' := Aside0.mk (Kd.C_below HC7.out hb7)
                have HK8 := Aside0.mk hc8
                have HT7' := Aside0.mk (HT6'.out.below hb7)
                have HB7' := Aside0.mk (below_then HB6'.out HB6'.out.size hb7)
                clear hE7 hb7 hC8 hc8
                go_wp2_with fail
                refine (same21_c es HSM.out.1 HSM.out.2 A7 A8 c7 c8 _ HC7'.out HK7.out HC8.out HK8.out).mono ?_
                rintro e w8 ⟨rfl, kk, rfl⟩
                have HT8' := Aside0.mk (HT7'.out.below (pw_below_drewN (Below.refl _ _) kk))
                have HB8' := Aside0.mk (pw_below_drewN HB7'.out kk)
                go_wp2_with fail
                exact ⟨⟨j + 1, by omega, by omega, rfl, HT8', HB8'⟩, by simp [intOf]; omega⟩
              · go_wp2_with fail
                exact ⟨⟨k + 1, S', K', R', by omega, by congr 1, HTQ, HP4, HBQ⟩, by simp [intOf]; omega⟩
        · have HB9 := Aside0.mk HB.out
          go_wp2_with fail
          refine (HAL.out _ HB9.out).mono ?_
          rintro e w9 ⟨rfl, hb9⟩
          have HB10 := Aside0.mk hb9
          clear hb9
          go_wp2_with fail
          go_ret
          exact ⟨rfl, HB10.out⟩
    · have HSZ := Aside0.mk hsz
      have HCK3 : Aside0 (checkF ds = 9) := ⟨by rw [HCK2.out, if_neg hsz]⟩
      clear hsz
      go_enter Try.func8, Try.ntmps8
      go_wp2_with fail
      refine (lm_mem W rfl).mono ?_
      rintro e w1 ⟨rfl, hm1, hb1⟩
      have HB1 := Aside0.mk hb1
      have HM1 := Aside0.mk hm1
      clear hb1 hm1
      go_wp2_with fail
      refine (HFEW.out _ HB1.out).mono ?_
      rintro e w2 ⟨rfl, hb2⟩
      have HB2 := Aside0.mk (below_then HB1.out HB1.out.size hb2)
      have HM2 := Aside0.mk (HM1.out.below hb2)
      clear hb2
      go_wp2_with fail
      refine (HNEW.out _ HB2.out HM2.out).mono ?_
      rintro e w3 ⟨hp3, hb3⟩
      rw [if_neg HSZ.out] at hp3
      subst hp3
      have HB3 := Aside0.mk (below_then HB2.out HB2.out.size hb3)
      clear hb3
      go_wp2_with fail
      refine (HCK.out _ _ HCK3.out HB3.out).mono ?_
      rintro e w4 ⟨rfl, hb4⟩
      have HB4 := Aside0.mk (below_then HB3.out HB3.out.size hb4)
      clear hb4
      go_wp2_with fail
      refine (HAL.out _ HB4.out).mono ?_
      rintro e w5 ⟨rfl, hb5⟩
      have HB5 := Aside0.mk hb5
      clear hb5
      go_wp2_with fail
      go_ret
      exact ⟨rfl, HB5.out⟩
end Go.Proofs.Ytmkmldpcoonepaa.PAll
