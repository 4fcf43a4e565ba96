/- mem: the law MemCopies, its walk. -/
import Derived.Test.YtlolhmocimaobaaMemAlive
set_option linter.unusedVariables false
set_option linter.unusedSimpArgs false
namespace Go.Proofs.Ytlolhmocimaobaa.PAll
open Go.RowKit Go.Shelf Go.Proofs.YtlolhmocimaobaaW.PrintWords Go.Proofs.YtlolhmocimaobaaW.PrintLast Go.Proofs.YtlolhmocimaobaaW.PrintMore
theorem wf_byte (x : Int) (h : (Lit.int .u8 x).wf = true) : 0 ≤ x ∧ x < 256 := by
  have h' : (decide ((IntKind.u8).min ≤ x) && decide (x ≤ (IntKind.u8).max)) = true := h
  rw [show (IntKind.u8).min = 0 by decide, show (IntKind.u8).max = 255 by decide, Bool.and_eq_true, decide_eq_true_eq, decide_eq_true_eq] at h'
  omega
/-- The whole of a region is read. -/
theorem bytes_all (b : Int) (bs : List Int) (h0 : 0 < bs.length) : bytesF [⟨b, bs⟩] b bs.length = some bs := by
  unfold bytesF
  have h : hitR b bs.length ⟨b, bs⟩ = true := hit_iff.2 ⟨by omega, by simp, by simp⟩
  simp [List.findIdx?_cons, h]
set_option maxHeartbeats 8000000 in
set_option maxRecDepth 100000 in
theorem memCopies_c (X : World) (A0 : Option Addr) (c0 : Nat) (l0 : List Int) (hr0 : Kd.C (Kd.int .u8) X A0 l0.length l0) (hc0 : l0.length ≤ c0) (hw : ∀ x ∈ l0, (Lit.int .u8 x).wf = true) :
    Calls Try.prog 7 #[.slice A0 l0.length c0] X fun e X' => e = .returned (.bool true) ∧ Below X.heap.size X X' := by
  have HC := Aside0.mk hr0
  by_cases hs : 0 < l0.length ∧ l0.length ≤ 600
  case neg =>
    have hd : (l0.length : Int) = 0 ∨ 600 < (l0.length : Int) := by omega
    obtain ⟨kk, hkk⟩ : ∃ kk, l0.length = kk := ⟨_, rfl⟩
    rw [hkk] at hd ⊢
    clear hr0 hc0 hw hs hkk
    go_enter Try.func7, Try.ntmps7
    go_wp2_with fail
    refine (new_c X X.heap.size (Nat.le_refl _)).mono ?_
    rintro e w1 ⟨rfl, hm1, hb1⟩
    have HB1 := Aside0.mk hb1
    clear hm1 hb1
    rcases hd with hd | hd
    · have hz : ((kk : Int) == 0) = true := beq_iff_eq.mpr hd
      go_wp2_with fail
      refine (alive_c w1).mono ?_
      rintro e w2 ⟨rfl, hb2⟩
      go_wp2_with fail
      go_ret
      exact ⟨rfl, HB1.out.trans (hb2.mono HB1.out.size)⟩
    · have hz : ((kk : Int) == 0) = false := beq_eq_false_iff_ne.mpr (by omega)
      go_wp2_with fail
      refine (alive_c w1).mono ?_
      rintro e w2 ⟨rfl, hb2⟩
      go_wp2_with fail
      go_ret
      exact ⟨rfl, HB1.out.trans (hb2.mono HB1.out.size)⟩
  obtain ⟨h1, h2⟩ := hs
  have HL0 : Aside0 (0 < l0.length) := ⟨h1⟩
  have HW : Aside0 (∀ x ∈ l0, 0 ≤ x ∧ x < 256) := ⟨fun x hx => wf_byte x (hw x hx)⟩
  have hz : ((l0.length : Int) == 0) = false := beq_eq_false_iff_ne.mpr (by omega)
  have HC0 := Aside0.mk hc0
  clear hr0 hw hc0
  go_enter Try.func7, Try.ntmps7
  go_wp2_with fail
  refine (mem_New X).mono ?_
  rintro e w1 ⟨rfl, hm1, hb1⟩
  unfold ptr
  have HM1 := Aside0.mk hm1
  have HB1 := Aside0.mk hb1
  clear hm1 hb1
  go_wp2_with (first | ((with_reducible refine gate_dst (N := 22) rfl ?_); refine Kd.R_lit (Kd.int .u8) _ 5 ?hg (N := 22) ?hd (xs := ([] : List Int)) (inner := []) (ok := fun _ => True) (okp := fun _ => True) ?hr ?hp (fun _ hk => hk) trivial (Below.refl _ _) (Nat.le_refl _) (by simp) ?_; (case hd => rfl); (case hg => rfl); (case hr => first | (go_simp; done) | (go_simp; rfl)); (case hp => exact (Reps.none _ _)); intro v1 w2 ho1 hb1 hg1 hnew1; clear hg1 hnew1; have HO1 := Aside0.mk ho1; have HB2 := Aside0.mk hb1; clear ho1 hb1) | ((with_reducible refine gate_builtin (b := .append) (xs := #[.tmp 22, .tmp 23]) rfl ?_); at_builtin; refine Kd.R_append_rows (Kd.int .u8) (w0 := w1) w1.heap.size rfl (.tmp 22) (.tmp 23) 32 5 (.int .u8 0) 1 rfl Try.underlying32 infoU8 rfl (by decide) (by omega) v1 [] l0 _ _ _ (fun _ => True) (fun _ => False) rfl rfl ?aO ?aR (fun _ _ h => h) (fun _ h => h.elim) ?aF ?aB ?aS ?aL ?_; (case aR => exact Kd.C_below (Kd.C_below HC.out HB1.out) HB2.out); (case aB => exact HB2.out); (case aF => exact (fun _ _ => trivial)); (case aO => exact HO1.out); (case aS => exact HB2.out.size); (case aL => simp only [List.length_nil]; omega); intro v2 w3 ho2 hb2 hg2 hat2; clear hg2 hat2; have HO2 := Aside0.mk ho2; have HB3 := Aside0.mk hb2; clear ho2 hb2))
  obtain ⟨g, cap, rfl, hg1, hg2, cells, hcells⟩ := Kd.R_form HO2.out (show 0 < l0.length from HL0.out)
  have hrow3 : w3.ownsRow w1.heap.size 5 1 (.slice (some ⟨g, 0, none⟩) l0.length cap) l0.length (nums .u8 l0) := by simpa [encs, nums] using Kd.own_of_R HO2.out
  have hC3 := (Kd.R_reads' HO2.out).2.2
  have hcap := (Kd.R_reads' HO2.out).2.1
  have hmg : X.heap.size ≠ g := by have := HM1.out.bound; obtain ⟨v, ps, q⟩ := this; have := q.om.2; omega
  have hXg : X.heap.size ≤ w3.heap.size := Nat.le_trans HB1.out.size HB3.out.size
  have HROW3 := Aside0.mk hrow3
  have HG := Aside0.mk (And.intro hg1 hg2)
  have HADD := Aside0.mk (mem_Add w3 X.heap.size (fun k => k = X.heap.size) X.heap.size [] 64 (some ⟨g, 0, none⟩) cap l0 (HM1.out.below HB3.out) inv_nil (by decide) hXg (by decide) (by decide) hC3 hcap (by omega))
  clear hcells hrow3 hC3 hcap hg1 hg2
  go_wp2_with fail
  refine HADD.out.mono ?_
  intro e w4 hp
  unfold AddPost at hp
  rw [if_pos (show addOk [] 64 l0.length = true from decide_eq_true ⟨HL0.out, by omega, by simp⟩)] at hp
  obtain ⟨rfl, ⟨i, _, hm4⟩, hout4⟩ := hp
  have hm4' : MemAt w4 X.heap.size (orNew (fun k => k = X.heap.size) w3) X.heap.size [⟨64, l0⟩] := by simpa using hm4
  have hrow4 := row_keep HROW3.out (X' := w4) (fun k hk => by cases hk; exact hout4.block g HG.out.2 (fun e => hmg e.symm))
  obtain ⟨g', cap', he', hcell, hfro, _⟩ := row_cell hrow4 (i := 0) (u := .int .u8 (l0[0]'HL0.out)) (by simp [nums, List.getElem?_eq_getElem HL0.out])
  cases he'
  have HM4 := Aside0.mk hm4'
  have HB4 : Aside0 (Below X.heap.size X w4) := ⟨(HB1.out.trans (HB3.out.mono HB1.out.size)).trans (hout4.below hXg (fun k hk => by omega))⟩
  clear hm4 hm4' hout4 hrow4
  go_wp2_with fail
  have HM5' := HM4.out.out (set_out w4 g 0 (.int .u8 ((l0[0]'HL0.out + 1) % 256))) (fun k _ hk e => by
    have h1 := HG.out.2
    rcases hk with hk | hk
    · exact hmg (by rw [← hk, e])
    · rw [e] at hk; omega)
  have HB5' := HB4.out.setCell (p := ⟨g, 0, none⟩) (show X.heap.size ≤ g from Nat.le_trans HB1.out.size HG.out.1) (.int .u8 ((l0[0]'HL0.out + 1) % 256))
  obtain ⟨w5, hw5⟩ : ∃ w5, w4.setCell ⟨g, 0, none⟩ (.int .u8 ((l0[0]'HL0.out + 1) % 256)) = w5 := ⟨_, rfl⟩
  rw [hw5] at HM5' HB5' ⊢
  have HB5 := Aside0.mk HB5'
  have HM5 : Aside0 (Mem w5 X.heap.size X.heap.size [⟨64, l0⟩]) := ⟨HB5'.size, inv_one HL0.out (by decide) (by omega) HW.out (by omega), HM5'.mono (fun k _ hk => by rcases hk with hk | hk; exact Nat.le_of_eq hk.symm; exact Nat.le_trans hXg hk)⟩
  clear HM5' HB5' hw5
  refine (bytes_c w5 X.heap.size X.heap.size _ 64 l0.length HM5.out (show 1 ≤ 999999 by decide) (by decide) (by decide) (by omega) (by omega) _ (bytes_all 64 l0 HL0.out)).mono ?_
  rintro e w6 ⟨⟨v6, rfl, hr6⟩, hb6⟩
  obtain ⟨g6, cap6, rfl, hg6, hg6l, _⟩ := Kd.R_form hr6 (show 0 < l0.length from HL0.out)
  have HR6 := Aside0.mk hr6
  have HB56 := Aside0.mk hb6
  have HB6 : Aside0 (Below X.heap.size X w6) := ⟨HB5.out.trans (hb6.mono HB5.out.size)⟩
  have HG6 := Aside0.mk (And.intro hg6 hg6l)
  clear hr6 hb6 hg6 hg6l
  go_wp2_with fail
  refine (same_c _ cap6 l0 A0 c0 l0 w6 (Kd.R_reads' HR6.out).2.2 (Kd.R_reads' HR6.out).2.1 (Kd.C_below HC.out HB6.out) HC0.out (by omega) true (by simp)).mono ?_
  rintro e w7 ⟨rfl, k7, rfl⟩
  go_wp2_with fail
  have HB7 : Aside0 (Below w5.heap.size w5 (w6.drewN k7)) := ⟨HB56.out.trans (pw_below_drewN (Below.refl _ _) _)⟩
  have HR7 := Aside0.mk (Kd.R_drewN HR6.out k7)
  go_loopw [7, 51] (fun v7 v51 wr => ∃ (k : Nat) (l : List Int), k ≤ l0.length ∧ v51 = .int .i64 k ∧ l.length = l0.length ∧ Aside0 (Kd.R (Kd.int .u8) 5 wr w5.heap.size (fun _ => True) (.slice (some ⟨g6, 0, none⟩) l.length cap6) l) ∧ Aside0 (Below w5.heap.size w5 wr)) (fun _ v51 _ => l0.length - (intOf v51).toNat)
  case atStart => exact ⟨0, l0, Nat.zero_le _, rfl, rfl, HR7, HB7⟩
  case round =>
    obtain ⟨k, l, hk, rfl, hll, HR, HB⟩ := hrel
    by_cases hlt : k < l0.length
    · obtain ⟨hcell, hfro⟩ := Kd.R_cell (0 : Int) HR.out (k : Int) (by omega) (by omega)
      rw [Int.toNat_natCast] at hcell hfro
      have hput := Kd.R_put HR.out (k : Int) (IntKind.u8.wrap (rdOf 0 l k + 1))
      rw [Int.toNat_natCast, IntKind.wrap_u8'] at hput
      have HPUT := Aside0.mk hput.1
      clear hput
      go_wp2
      refine ⟨⟨k + 1, l.set k ((rdOf 0 l k + 1) % 256), by omega, by congr 1, by rw [List.length_set]; exact hll, ⟨?_⟩, ⟨HB.out.setCell (p := ⟨g6, k, none⟩) HG6.out.1 _⟩⟩, by simp [intOf]; omega⟩
      rw [List.length_set]
      exact HPUT.out
    · obtain rfl : k = l0.length := by omega
      go_wp2_with fail
      have HM9 := Aside0.mk (HM5.out.below HB.out)
      refine (bytes_c wr X.heap.size X.heap.size _ 64 l0.length HM9.out (show 1 ≤ 999999 by decide) (by decide) (by decide) (by omega) (by omega) _ (bytes_all 64 l0 HL0.out)).mono ?_
      rintro e w9 ⟨⟨v9, rfl, hr9⟩, hb9⟩
      obtain ⟨A9, c9, rfl, hc9, hC9⟩ := Kd.R_reads hr9
      have HB9 : Aside0 (Below X.heap.size X w9) := ⟨(HB5.out.trans (HB.out.mono HB5.out.size)).trans (hb9.mono (Nat.le_trans HB5.out.size HB.out.size))⟩
      have HC9 := Aside0.mk hC9
      clear hr9 hb9 hC9
      go_wp2_with fail
      refine (alive_c w9).mono ?_
      rintro e w10 ⟨rfl, hb10⟩
      have HB10 := Aside0.mk hb10
      clear hb10
      go_wp2_with fail
      refine (same_c A9 c9 l0 A0 c0 l0 w10 (Kd.C_below HC9.out HB10.out) hc9 (Kd.C_below HC.out (HB9.out.trans (HB10.out.mono HB9.out.size))) HC0.out (by omega) true (by simp)).mono ?_
      rintro e w11 ⟨rfl, k11, rfl⟩
      go_wp2_with fail
      go_ret
      exact ⟨rfl, pw_below_drewN (HB9.out.trans (HB10.out.mono HB9.out.size)) _⟩
end Go.Proofs.Ytlolhmocimaobaa.PAll
