/- The law MemRuns. -/
import Derived.Test.YtlolhmocimaobaaRunDo2
import Derived.Test.YtlolhmocimaobaaPAllx1
set_option linter.unusedVariables false
set_option linter.unusedSimpArgs false
namespace Go.Proofs.Ytlolhmocimaobaa.PAll
open Go.RowKit Go.Shelf Go.Proofs.YtlolhmocimaobaaW.PrintWords Go.Proofs.YtlolhmocimaobaaW.PrintLast Go.Proofs.YtlolhmocimaobaaW.PrintMore
def fewR (l : List S34) : Bool := l.all fun o => decide (o.f4.length ≤ 600)
theorem few_loop (l : List S34) (hl : l.length ≤ 40) : ∀ (n i k : Nat), i + n = l.length → n < k → slotcodelaw20_few.l0 k l (l.length : Int) (i : Int) = some (fewR (l.drop i)) := by
  intro n
  induction n with
  | zero =>
    intro i k hi hk
    obtain ⟨k, rfl⟩ : ∃ j, k = j + 1 := ⟨k - 1, by omega⟩
    unfold slotcodelaw20_few.l0
    rw [if_neg (by omega), List.drop_eq_nil_of_le (by omega)]
    rfl
  | succ n ih =>
    intro i k hi hk
    obtain ⟨k, rfl⟩ : ∃ j, k = j + 1 := ⟨k - 1, by omega⟩
    have hil : i < l.length := by omega
    have hd : l.drop i = l[i] :: l.drop (i + 1) := List.drop_eq_getElem_cons hil
    have hr : rd_T34 l (i : Int) = l[i] := by
      unfold rd_T34
      rw [Int.toNat_natCast, List.getD_eq_getElem?_getD, List.getElem?_eq_getElem hil]
      rfl
    unfold slotcodelaw20_few.l0
    rw [if_pos (by omega), if_pos (by omega), if_pos (by omega), hr, hd]
    have hw : wrap64 ((i : Int) + 1) = ((i + 1 : Nat) : Int) := by unfold wrap64; omega
    by_cases hb : l[i].f4.length > 600
    · rw [if_pos (by omega)]
      have : fewR (l[i] :: l.drop (i + 1)) = false := by
        unfold fewR
        rw [List.all_cons, decide_eq_false (by omega), Bool.false_and]
      rw [this]
    · rw [if_neg (by omega), hw, ih (i + 1) k (by omega) (by omega)]
      unfold fewR
      rw [List.all_cons, decide_eq_true (by omega), Bool.true_and]
def fewB (l : List S34) : Bool := decide (l.length ≤ 40) && fewR l
theorem few_f (l : List S34) : ∃ k, slotcodelaw20_few.f k l = some (fewB l) := by
  refine ⟨l.length + 1, ?_⟩
  unfold slotcodelaw20_few.f fewB
  by_cases h : l.length ≤ 40
  · rw [if_neg (by omega), decide_eq_true h, Bool.true_and]
    exact few_loop l h l.length 0 _ (by omega) (by omega)
  · rw [if_pos (by omega), decide_eq_false h, Bool.false_and]
/-- What is known of an operation that came in. -/
structure OpOk (o : S34) : Prop where
  k0 : -9223372036854775808 ≤ o.f0
  k1 : o.f0 < 9223372036854775808
  a0 : 0 ≤ o.f1
  a1 : o.f1 < 18446744073709551616
  n0 : -9223372036854775808 ≤ o.f2
  n1 : o.f2 < 9223372036854775808
  x0 : 0 ≤ o.f3
  x1 : o.f3 < 18446744073709551616
  b : ∀ y ∈ o.f4, 0 ≤ y ∧ y < 256
theorem do_c (W : World) (n0 : Nat) (fr : Nat → Prop) (m b : Nat) (K R : List Reg) (o : S34) (ho : OpOk o) (A0 : Option Addr) (c0 : Nat) (h : Two W n0 fr m b K R) (hp : K.Perm R) (hl : K.length ≤ 99999) (hc0 : o.f4.length ≤ c0) (hbl : o.f4.length ≤ 600) (hC : ∀ W', Out (fun k => ¬ fr k) W W' → Kd.C (Kd.int .u8) W' A0 o.f4.length o.f4) (hA : 0 < o.f4.length → ∀ ad, A0 = some ad → fr ad.block) :
    Calls Try.prog 12 #[.pointer (some ⟨m, 0, none⟩), .pointer (some ⟨b, 0, none⟩), .agg #[.int .i64 o.f0, .int .u64 o.f1, .int .i64 o.f2, .int .u64 o.f3, .slice A0 o.f4.length c0]] W (DoPost W n0 fr m b K) := by
  obtain ⟨kd, addr, n, x, bs⟩ := o
  obtain ⟨k0, k1, a0, a1, n0', n1', x0, x1, hb⟩ := ho
  dsimp only at k0 k1 a0 a1 n0' n1' x0 x1 hb hc0 hbl hC hA ⊢
  by_cases h0 : kd = 0
  · subst h0; exact do_add W n0 fr m b K R addr n x A0 c0 bs h hp hl a0 a1 hc0 hbl hb hC
  by_cases h1 : kd = 1
  · subst h1; exact do_rem W n0 fr m b K R addr n x A0 c0 bs h hp hl a0 a1 hc0 hbl hb hC
  by_cases h2 : kd = 2
  · subst h2; exact do_read W n0 fr m b K R addr n x A0 c0 bs.length h hp hl a0 a1 n0' n1'
  by_cases h3 : kd = 3
  · subst h3; exact do_write W n0 fr m b K R addr n x A0 c0 bs n0' n1' x0 x1 h hp hl a0 a1 hc0 hbl hb hC
  by_cases h4 : kd = 4
  · subst h4; exact do_bytes W n0 fr m b K R addr n x A0 c0 bs.length h hp hl a0 a1 n0' n1'
  exact do_put W n0 fr m b K R kd addr n x A0 c0 bs (beq_eq_false_iff_ne.mpr h0) (beq_eq_false_iff_ne.mpr h1) (beq_eq_false_iff_ne.mpr h2) (beq_eq_false_iff_ne.mpr h3) (beq_eq_false_iff_ne.mpr h4) hA h hp hl a0 a1 hc0 hbl hb hC
theorem two_blk {X : World} {n0 : Nat} {fr : Nat → Prop} {m b : Nat} {K R : List Reg} (h : Two X n0 fr m b K R) : ∃ A c, X.cell? ⟨b, 0, none⟩ = some (.slice A R.length c) := by
  obtain ⟨o, o', L, h1, hf0, h2, h3, h4, h5, h6, ⟨v, ps, h7⟩, h8⟩ := h
  obtain ⟨A, c, rfl⟩ := own_slice h7.row
  exact ⟨A, c, (blk1 h7.blk).1⟩
/-- The two memories at the start. -/
theorem two_start (X : World) (n0 : Nat) (hn : n0 ≤ X.heap.size) (W1 : World) (hm : MemAt W1 X.heap.size (fun k => k = X.heap.size) X.heap.size []) (hb : Below X.heap.size X W1) : Two (W1.alloc (.cells #[.slice none 0 0] 30)) n0 (fun k => k < n0) X.heap.size W1.heap.size [] [] := by
  have hW : Below W1.heap.size W1 (W1.alloc (.cells #[.slice none 0 0] 30)) := below_alloc (Below.refl _ _) _
  have hs : W1.heap.size < (W1.alloc (.cells #[.slice none 0 0] 30)).heap.size := by simp
  have hlt : X.heap.size < W1.heap.size := by
    obtain ⟨v, ps, q⟩ := hm
    exact (Array.getElem?_eq_some_iff.1 q.blk).1
  refine ⟨fun k => k = X.heap.size, fun k => k = W1.heap.size, [], by omega, fun k hk => by omega, fun k hk => ⟨by omega, by omega, by omega⟩, fun k hk => ⟨by omega, by omega⟩, ?_, inv_nil, List.Perm.refl _, ?_, DL.nil⟩
  · obtain ⟨v, ps, q⟩ := hm.below hW
    exact ⟨v, ps, q.blk, q.om, hn, own_weaken q.row hn, q.orow, q.len, fun i p r hp hr => by simp at hr, q.nd⟩
  · exact ⟨.slice none 0 0, [], heap_alloc_new W1 _, rfl, by omega, World.ownsRow_nil _ _ _ _, fun k hk => by simp [Value.ownBlock] at hk, rfl, fun i p r hp _ => by simp at hp, by simp⟩
set_option maxHeartbeats 4000000 in
set_option maxRecDepth 100000 in
theorem memRuns_c (W : World) (A0 : Option Addr) (c0 : Nat) (l : List S34) (hr0 : Kd.C k34 W A0 l.length l) (hc0 : l.length ≤ c0) (hok : ∀ o ∈ l, OpOk o) :
    Calls Try.prog 3 #[.slice A0 l.length c0] W fun e W' => e = .returned (.bool true) ∧ Below W.heap.size W W' := by
  obtain ⟨kf, hkf⟩ := few_f l
  have HFEW := Aside0.mk (slotcodelaw20_few.calls kf A0 c0 l _ W hr0 hc0 hkf)
  have HAL : Aside0 (∀ w, Below W.heap.size W w → Calls Try.prog 10 #[] w fun e w' => e = .returned (.bool true) ∧ Below W.heap.size W w') := ⟨fun w hb => (alive_c w).mono fun e w' ⟨he, hb'⟩ => ⟨he, below_then hb hb.size hb'⟩⟩
  have HR0 := Aside0.mk hr0
  have HOK := Aside0.mk hok
  cases hfb : fewB l with
  | false =>
    rw [hfb] at HFEW
    clear hkf hr0 hc0 hok hfb
    go_enter Try.func3, Try.ntmps3
    go_wp2_with fail
    refine HFEW.out.mono ?_
    rintro e w1 ⟨rfl, hb1⟩
    have HB1 := Aside0.mk hb1
    clear hb1
    go_wp2_with fail
    refine (HAL.out _ HB1.out).mono ?_
    rintro e w2 ⟨rfl, hb2⟩
    have HB2 := Aside0.mk hb2
    clear hb2
    go_wp2_with fail
    go_ret
    exact ⟨rfl, HB2.out⟩
  | true =>
    rw [hfb] at HFEW
    unfold fewB at hfb
    rw [Bool.and_eq_true, decide_eq_true_eq] at hfb
    have hl40 := hfb.1
    have HS : Aside0 (∀ o ∈ l, o.f4.length ≤ 600) := ⟨fun o ho => by
      have := List.all_eq_true.1 hfb.2 o ho
      simpa using this⟩
    clear hkf hr0 hc0 hok hfb
    go_enter Try.func3, Try.ntmps3
    go_wp2_with fail
    refine HFEW.out.mono ?_
    rintro e w1 ⟨rfl, hb1⟩
    have HB1 := Aside0.mk hb1
    clear hb1
    go_wp2_with fail
    refine (mem_New w1).mono ?_
    rintro e w2 ⟨rfl, hm2, hb2⟩
    have HT3 := Aside0.mk (two_start w1 W.heap.size HB1.out.size w2 hm2 hb2)
    have HB3 : Aside0 (Below W.heap.size W (w2.alloc (.cells #[.slice none 0 0] 30))) := ⟨(below_then HB1.out HB1.out.size hb2).alloc (Nat.le_trans HB1.out.size hb2.size) _⟩
    clear hm2 hb2
    unfold ptr
    go_wp2_with fail
    obtain ⟨m, hm⟩ : ∃ m, w1.heap.size = m := ⟨_, rfl⟩
    obtain ⟨b, hb⟩ : ∃ b, w2.heap.size = b := ⟨_, rfl⟩
    obtain ⟨w3, hw3⟩ : ∃ w3, w2.alloc (.cells #[.slice none 0 0] 30) = w3 := ⟨_, rfl⟩
    rw [hm, hb, hw3]
    rw [hm, hb, hw3] at HT3
    rw [hw3] at HB3
    clear hm hb hw3
    go_loopw [18] (fun v18 wr => ∃ (k : Nat) (K R : List Reg), k ≤ l.length ∧ v18 = .int .i64 k ∧ Aside0 (Two wr W.heap.size (fun k => k < W.heap.size) m b K R) ∧ Aside0 (K.Perm R) ∧ Aside0 (K.length ≤ k) ∧ Aside0 (Below W.heap.size W wr)) (fun v18 _ => l.length - (intOf v18).toNat)
    case atStart => exact ⟨0, [], [], Nat.zero_le _, rfl, HT3, ⟨List.Perm.refl _⟩, ⟨Nat.le_refl _⟩, HB3⟩
    case round =>
      obtain ⟨k, K, R, hk, rfl, HT, HP, HL, HB⟩ := hrel
      by_cases hlt : k < l.length
      · obtain ⟨ad, A4, c4, rfl, g0, g1, g2, g3, g4, hcap, hC4⟩ := at_T34 HR0.out (k : Int) (by omega) (by omega)
        have hmem : rd_T34 l (k : Int) ∈ l := by
          unfold rd_T34
          rw [Int.toNat_natCast, List.getD_eq_getElem?_getD, List.getElem?_eq_getElem hlt]
          exact List.getElem_mem hlt
        obtain ⟨o, ho⟩ : ∃ o, rd_T34 l (k : Int) = o := ⟨_, rfl⟩
        rw [ho] at g0 g1 g2 g3 g4 hcap hC4 hmem
        have hoo := HOK.out o hmem
        have hos := HS.out o hmem
        rw [Int.toNat_natCast] at g0 g1 g2 g3 g4
        replace g0 := pw_cell_below HB.out g0
        replace g1 := pw_cell_below HB.out g1
        replace g2 := pw_cell_below HB.out g2
        replace g3 := pw_cell_below HB.out g3
        replace g4 := pw_cell_below HB.out g4
        have hA4 : 0 < o.f4.length → ∀ ad', A4 = some ad' → ad'.block < W.heap.size := fun hp ad' e => by
          obtain ⟨ad2, e2, hx⟩ := Kd.at_int hC4 (0 : Int) (by omega) (by omega)
          rw [e] at e2
          cases e2
          have := World.block_lt_of_cell? W _ hx
          have hb' : (ad'.add (0 : Int).toNat).block = ad'.block := by unfold Addr.add; split <;> rfl
          rw [hb'] at this
          exact this
        obtain ⟨wb, hwb⟩ : ∃ wb, wr.alloc (.cells #[.int .i64 o.f0, .int .u64 o.f1, .int .i64 o.f2, .int .u64 o.f3, .slice A4 o.f4.length c4] 34) = wb := ⟨_, rfl⟩
        obtain ⟨ob, hob⟩ : ∃ ob, wr.heap.size = ob := ⟨_, rfl⟩
        have hTb : Two wb W.heap.size (fun k => k < W.heap.size ∨ k = ob) m b K R := by rw [← hwb, ← hob]; exact HT.out.alloc _
        have hbk : wb.heap[ob]? = some (.cells #[.int .i64 o.f0, .int .u64 o.f1, .int .i64 o.f2, .int .u64 o.f3, .slice A4 o.f4.length c4] 34 (0, 0)) := by rw [← hwb, ← hob]; exact heap_alloc_new wr _
        have hBb : Below W.heap.size W wb := by rw [← hwb]; exact HB.out.alloc HB.out.size _
        have HDO : Aside0 (∀ w, Below wb.heap.size wb w → Calls Try.prog 12 #[.pointer (some ⟨m, 0, none⟩), .pointer (some ⟨b, 0, none⟩), .agg #[.int .i64 o.f0, .int .u64 o.f1, .int .i64 o.f2, .int .u64 o.f3, .slice A4 o.f4.length c4]] w fun e w' => e = .returned (.bool false) ∧ ∃ K' R', Two w' W.heap.size (fun k => k < W.heap.size) m b K' R' ∧ K'.Perm R' ∧ K'.length ≤ k + 1 ∧ Below W.heap.size W w') := ⟨fun w hb => by
          have hBw := below_then hBb hBb.size hb
          refine (do_c w W.heap.size (fun k => k < W.heap.size) m b K R o hoo A4 c4 ((hTb.weaken (fun k h => .inl h)).below hb) HP.out (by have := HL.out; omega) hcap hos (fun W' hO => Kd.C_below hC4 (hBw.trans (hO.below hBw.size (fun k h => by omega)))) hA4).mono ?_
          rintro e w' ⟨he, K', R', hT', hp', hl', hO'⟩
          exact ⟨he, K', R', hT', hp', by have := HL.out; omega, hBw.trans (hO'.below hBw.size (fun k h => by omega))⟩⟩
        have hc0 : wb.drew.cell? ⟨ob, 0, none⟩ = some (.int .i64 o.f0) := (blk_cell hbk 0).trans rfl
        have hc1 : wb.drew.cell? ⟨ob, 1, none⟩ = some (.int .u64 o.f1) := (blk_cell hbk 1).trans rfl
        have hc2 : wb.drew.cell? ⟨ob, 2, none⟩ = some (.int .i64 o.f2) := (blk_cell hbk 2).trans rfl
        have hc3 : wb.drew.cell? ⟨ob, 3, none⟩ = some (.int .u64 o.f3) := (blk_cell hbk 3).trans rfl
        have hc4 : wb.drew.cell? ⟨ob, 4, none⟩ = some (.slice A4 o.f4.length c4) := (blk_cell hbk 4).trans rfl
        have HWB := Aside0.mk hwb
        have HOB := Aside0.mk hob
        clear hmem ho hoo hos hA4 hC4 hcap hwb hob hTb hbk hBb
        go_wp2_with fail
        rw [HWB.out, HOB.out]
        go_region_with (first | (go_at_call 12; refine (HDO.out _ (below_drew (Below.refl _ _))).mono ?_; rintro e w4 ⟨rfl, K', R', hT4, hp4, hl4, hb4⟩; obtain ⟨A5, c5, hbc⟩ := two_blk hT4; have HT4 := Aside0.mk hT4; have HP4 := Aside0.mk hp4; have HL4 := Aside0.mk hl4; have HB4 := Aside0.mk hb4; have HLN := Aside0.mk hp4.length_eq; have hne : ((R'.length : Int) != (R'.length : Int)) = false := bne_self_eq_false _; clear hT4 hp4 hl4 hb4) | (go_at_call 13; refine (two_len _ _ _ _ _ _ _ HT4.out).mono ?_; rw [HLN.out]; rintro e w5 ⟨rfl, rfl⟩))
        all_goals
          go_wp2_with fail
          exact ⟨⟨k + 1, K', R', by omega, by congr 1, HT4, HP4, HL4, HB4⟩, by simp [intOf]; omega⟩
      · have HB9 := Aside0.mk HB.out
        go_wp2_with fail
        refine (HAL.out _ HB9.out).mono ?_
        rintro e w9 ⟨rfl, hb9⟩
        have HB10 := Aside0.mk hb9
        clear hb9
        go_wp2_with fail
        go_ret
        exact ⟨rfl, HB10.out⟩
end Go.Proofs.Ytlolhmocimaobaa.PAll
