/- The law's do at Remove, Write, Put, Read, Bytes. -/
import Derived.Test.YtlolhmocimaobaaRunDo
import Derived.Test.YtlolhmocimaobaaMemAlive
set_option linter.unusedVariables false
set_option linter.unusedSimpArgs false
namespace Go.Proofs.Ytlolhmocimaobaa.PAll
open Go.RowKit Go.Shelf Go.Proofs.YtlolhmocimaobaaW.PrintWords Go.Proofs.YtlolhmocimaobaaW.PrintLast Go.Proofs.YtlolhmocimaobaaW.PrintMore
theorem wrB_perm {K R : List Reg} (hp : K.Perm R) (a n x : Int) : wrB K a n x = wrB R a n x := by unfold wrB; rw [any_perm hp]
theorem wrG_perm {K R : List Reg} (hp : K.Perm R) (a n x : Int) : (wrG K a n x).Perm (wrG R a n x) := by
  unfold wrG
  by_cases h : numB n = true
  · rw [if_pos h, if_pos h]; exact put_perm hp a _
  · rw [if_neg h, if_neg h]; exact hp
theorem wrG_len (K : List Reg) (a n x : Int) : (wrG K a n x).length ≤ K.length + 1 := by
  unfold wrG
  split
  · exact Nat.le_succ_of_le (by simp [putG])
  · omega
set_option maxHeartbeats 4000000 in
set_option maxRecDepth 100000 in
theorem do_rem (W : World) (n0 : Nat) (fr : Nat → Prop) (m b : Nat) (K R : List Reg) (addr n x : Int) (A0 : Option Addr) (c0 : Nat) (bs : List Int) (h : Two W n0 fr m b K R) (hp : K.Perm R) (hl : K.length ≤ 99999) (ha0 : 0 ≤ addr) (ha1 : addr < 18446744073709551616) (hc0 : bs.length ≤ c0) (hbl : bs.length ≤ 600) (hw : ∀ x ∈ bs, 0 ≤ x ∧ x < 256) (hC : ∀ W', Out (fun k => ¬ fr k) W W' → Kd.C (Kd.int .u8) W' A0 bs.length bs) :
    Calls Try.prog 12 #[.pointer (some ⟨m, 0, none⟩), .pointer (some ⟨b, 0, none⟩), .agg #[.int .i64 1, .int .u64 addr, .int .i64 n, .int .u64 x, .slice A0 bs.length c0]] W (DoPost W n0 fr m b K) := by
  obtain ⟨q, hq⟩ : ∃ q, K.any (fun r => r.base == addr) = q := ⟨_, rfl⟩
  have hq2 : R.any (fun r => r.base == addr) = q := by rw [← any_perm hp]; exact hq
  obtain ⟨W1, hW1⟩ : ∃ W1, W.alloc (.cells #[.int .i64 1, .int .u64 addr, .int .i64 n, .int .u64 x, .slice A0 bs.length c0] 34) = W1 := ⟨_, rfl⟩
  obtain ⟨ob, hob⟩ : ∃ ob, W.heap.size = ob := ⟨_, rfl⟩
  have hT1 : Two W1 n0 (fun k => fr k ∨ k = ob) m b K R := by rw [← hW1, ← hob]; exact h.alloc _
  have hB1 : Below W.heap.size W W1 := by rw [← hW1]; exact below_alloc (Below.refl _ _) _
  have hbk : W1.heap[ob]? = some (.cells #[.int .i64 1, .int .u64 addr, .int .i64 n, .int .u64 x, .slice A0 bs.length c0] 34 (0, 0)) := by rw [← hW1, ← hob]; exact heap_alloc_new W _
  have HA : Aside0 (∀ w R', (w.cell? ⟨ob, 1, none⟩ = some (.int .u64 addr)) → Out (fun k => ¬ (fr k ∨ k = ob)) W1 w → Two w n0 (fun k => fr k ∨ k = ob) m b K R' → Calls Try.prog 19 #[.pointer (some ⟨m, 0, none⟩), .int .u64 addr] w fun e w' => e = .returned (.bool q) ∧ (w'.cell? ⟨ob, 1, none⟩ = some (.int .u64 addr)) ∧ Out (fun k => ¬ (fr k ∨ k = ob)) W1 w' ∧ Two w' n0 (fun k => fr k ∨ k = ob) m b (remR K addr) R') := ⟨fun w R' hS hO hT => by
    refine (two_rem w n0 _ m b K R' addr hT (by omega) ha0 ha1).mono ?_
    rintro e w' ⟨he, hT', hO'⟩
    rw [hq] at he
    exact ⟨he, out_cell hO' (.inr rfl) hS, hO.trans hO' (fun k _ h => h), hT'⟩⟩
  have HR : Aside0 (∀ w K', (w.cell? ⟨ob, 1, none⟩ = some (.int .u64 addr)) → Out (fun k => ¬ (fr k ∨ k = ob)) W1 w → Two w n0 (fun k => fr k ∨ k = ob) m b K' R → Calls Try.prog 23 #[.pointer (some ⟨b, 0, none⟩), .int .u64 addr] w fun e w' => e = .returned (.bool q) ∧ (w'.cell? ⟨ob, 1, none⟩ = some (.int .u64 addr)) ∧ Out (fun k => ¬ (fr k ∨ k = ob)) W1 w' ∧ Two w' n0 (fun k => fr k ∨ k = ob) m b K' (remR R addr)) := ⟨fun w K' hS hO hT => by
    refine (two_rrem w n0 _ m b K' R addr hT (by rw [← hp.length_eq]; omega)).mono ?_
    rintro e w' ⟨he, hT', hO'⟩
    rw [hq2] at he
    exact ⟨he, out_cell hO' (.inr rfl) hS, hO.trans hO' (fun k _ h => h), hT'⟩⟩
  have HFIN : Aside0 (∀ w, Out (fun k => ¬ (fr k ∨ k = ob)) W1 w → Two w n0 (fun k => fr k ∨ k = ob) m b (remR K addr) (remR R addr) → DoPost W n0 fr m b K (.returned (.bool false)) w) := ⟨fun w hO hT => ⟨rfl, _, _, hT.weaken (fun k h => .inl h), rem_perm hp addr, Nat.le_succ_of_le (List.length_filter_le _ _), ((below_out hB1 _).trans hO (fun k _ h => h)).mono (fun k _ h hf => h (.inl hf))⟩⟩
  have hc0' : W1.cell? ⟨ob, 0, none⟩ = some (.int .i64 1) := (blk_cell hbk 0).trans rfl
  have hc1 : W1.drew.cell? ⟨ob, 1, none⟩ = some (.int .u64 addr) := (blk_cell hbk 1).trans rfl
  have hO1 : Out (fun k => ¬ (fr k ∨ k = ob)) W1 W1.drew := (Out.refl _ _).drew
  have hT1d : Two W1.drew n0 (fun k => fr k ∨ k = ob) m b K R := hT1.below (below_drew (Below.refl _ _))
  have HW1 := Aside0.mk hW1
  have HOB := Aside0.mk hob
  clear h hp hq hq2 hC hw hT1 hbk hB1 ha0 ha1 hc0 hbl hl hW1 hob hc0'
  go_enter Try.func12, Try.ntmps12
  cases q
  all_goals
    go_wp2_with fail
    rw [HW1.out, HOB.out]
    go_region_held3 (fun w' => w'.cell? ⟨ob, 1, none⟩ = some (.int .u64 addr)) (assumption) (first | (go_at_call 19; refine (HA.out _ _ (by assumption) (by assumption) (by assumption)).mono ?_; rintro e w1 ⟨rfl, hS1, hOa, hTa⟩) | (go_at_call 23; refine (HR.out _ _ (by assumption) (by assumption) (by assumption)).mono ?_; rintro e w2 ⟨rfl, hS2, hOb, hTb⟩))
  all_goals
    first
      | have HQ := Aside0.mk (HFIN.out _ hOb hTb)
      | have HQ := Aside0.mk (HFIN.out _ hOa hTa)
    go_wp2_with fail
    go_ret
    exact HQ.out
set_option maxHeartbeats 4000000 in
set_option maxRecDepth 100000 in
theorem do_write (W : World) (n0 : Nat) (fr : Nat → Prop) (m b : Nat) (K R : List Reg) (addr n x : Int) (A0 : Option Addr) (c0 : Nat) (bs : List Int) (hn0 : -9223372036854775808 ≤ n) (hn1 : n < 9223372036854775808) (hx0 : 0 ≤ x) (hx1 : x < 18446744073709551616) (h : Two W n0 fr m b K R) (hp : K.Perm R) (hl : K.length ≤ 99999) (ha0 : 0 ≤ addr) (ha1 : addr < 18446744073709551616) (hc0 : bs.length ≤ c0) (hbl : bs.length ≤ 600) (hw : ∀ x ∈ bs, 0 ≤ x ∧ x < 256) (hC : ∀ W', Out (fun k => ¬ fr k) W W' → Kd.C (Kd.int .u8) W' A0 bs.length bs) :
    Calls Try.prog 12 #[.pointer (some ⟨m, 0, none⟩), .pointer (some ⟨b, 0, none⟩), .agg #[.int .i64 3, .int .u64 addr, .int .i64 n, .int .u64 x, .slice A0 bs.length c0]] W (DoPost W n0 fr m b K) := by
  obtain ⟨q, hq⟩ : ∃ q, wrB K addr n x = q := ⟨_, rfl⟩
  have hq2 : wrB R addr n x = q := by rw [← wrB_perm hp]; exact hq
  obtain ⟨W1, hW1⟩ : ∃ W1, W.alloc (.cells #[.int .i64 3, .int .u64 addr, .int .i64 n, .int .u64 x, .slice A0 bs.length c0] 34) = W1 := ⟨_, rfl⟩
  obtain ⟨ob, hob⟩ : ∃ ob, W.heap.size = ob := ⟨_, rfl⟩
  have hT1 : Two W1 n0 (fun k => fr k ∨ k = ob) m b K R := by rw [← hW1, ← hob]; exact h.alloc _
  have hB1 : Below W.heap.size W W1 := by rw [← hW1]; exact below_alloc (Below.refl _ _) _
  have hbk : W1.heap[ob]? = some (.cells #[.int .i64 3, .int .u64 addr, .int .i64 n, .int .u64 x, .slice A0 bs.length c0] 34 (0, 0)) := by rw [← hW1, ← hob]; exact heap_alloc_new W _
  have HA : Aside0 (∀ w R', (w.cell? ⟨ob, 1, none⟩ = some (.int .u64 addr) ∧ w.cell? ⟨ob, 2, none⟩ = some (.int .i64 n) ∧ w.cell? ⟨ob, 3, none⟩ = some (.int .u64 x)) → Out (fun k => ¬ (fr k ∨ k = ob)) W1 w → Two w n0 (fun k => fr k ∨ k = ob) m b K R' → Calls Try.prog 15 #[.pointer (some ⟨m, 0, none⟩), .int .u64 addr, .int .i64 n, .int .u64 x] w fun e w' => e = .returned (.bool q) ∧ (w'.cell? ⟨ob, 1, none⟩ = some (.int .u64 addr) ∧ w'.cell? ⟨ob, 2, none⟩ = some (.int .i64 n) ∧ w'.cell? ⟨ob, 3, none⟩ = some (.int .u64 x)) ∧ Out (fun k => ¬ (fr k ∨ k = ob)) W1 w' ∧ Two w' n0 (fun k => fr k ∨ k = ob) m b (wrG K addr n x) R') := ⟨fun w R' hS hO hT => by
    refine (two_write w n0 _ m b K R' addr n x hT (by omega) ha0 ha1 hx0 hx1).mono ?_
    rintro e w' ⟨he, hT', hO'⟩
    rw [hq] at he
    exact ⟨he, ⟨out_cell hO' (.inr rfl) hS.1, out_cell hO' (.inr rfl) hS.2.1, out_cell hO' (.inr rfl) hS.2.2⟩, hO.trans hO' (fun k _ h => h), hT'⟩⟩
  have HR : Aside0 (∀ w K', (w.cell? ⟨ob, 1, none⟩ = some (.int .u64 addr) ∧ w.cell? ⟨ob, 2, none⟩ = some (.int .i64 n) ∧ w.cell? ⟨ob, 3, none⟩ = some (.int .u64 x)) → Out (fun k => ¬ (fr k ∨ k = ob)) W1 w → Two w n0 (fun k => fr k ∨ k = ob) m b K' R → Calls Try.prog 25 #[.pointer (some ⟨b, 0, none⟩), .int .u64 addr, .int .i64 n, .int .u64 x] w fun e w' => e = .returned (.bool q) ∧ (w'.cell? ⟨ob, 1, none⟩ = some (.int .u64 addr) ∧ w'.cell? ⟨ob, 2, none⟩ = some (.int .i64 n) ∧ w'.cell? ⟨ob, 3, none⟩ = some (.int .u64 x)) ∧ Out (fun k => ¬ (fr k ∨ k = ob)) W1 w' ∧ Two w' n0 (fun k => fr k ∨ k = ob) m b K' (wrG R addr n x)) := ⟨fun w K' hS hO hT => by
    refine (two_rwrite w n0 _ m b K' R addr n x hT (by rw [← hp.length_eq]; omega) ha0 ha1 hn0 hn1 hx0 hx1).mono ?_
    rintro e w' ⟨he, hT', hO'⟩
    rw [hq2] at he
    exact ⟨he, ⟨out_cell hO' (.inr rfl) hS.1, out_cell hO' (.inr rfl) hS.2.1, out_cell hO' (.inr rfl) hS.2.2⟩, hO.trans hO' (fun k _ h => h), hT'⟩⟩
  have HFIN : Aside0 (∀ w, Out (fun k => ¬ (fr k ∨ k = ob)) W1 w → Two w n0 (fun k => fr k ∨ k = ob) m b (wrG K addr n x) (wrG R addr n x) → DoPost W n0 fr m b K (.returned (.bool false)) w) := ⟨fun w hO hT => ⟨rfl, _, _, hT.weaken (fun k h => .inl h), wrG_perm hp addr n x, wrG_len _ _ _ _, ((below_out hB1 _).trans hO (fun k _ h => h)).mono (fun k _ h hf => h (.inl hf))⟩⟩
  have hc0' : W1.cell? ⟨ob, 0, none⟩ = some (.int .i64 3) := (blk_cell hbk 0).trans rfl
  have hc1 : W1.drew.cell? ⟨ob, 1, none⟩ = some (.int .u64 addr) := (blk_cell hbk 1).trans rfl
  have hc2 : W1.drew.cell? ⟨ob, 2, none⟩ = some (.int .i64 n) := (blk_cell hbk 2).trans rfl
  have hc3 : W1.drew.cell? ⟨ob, 3, none⟩ = some (.int .u64 x) := (blk_cell hbk 3).trans rfl
  have hO1 : Out (fun k => ¬ (fr k ∨ k = ob)) W1 W1.drew := (Out.refl _ _).drew
  have hT1d : Two W1.drew n0 (fun k => fr k ∨ k = ob) m b K R := hT1.below (below_drew (Below.refl _ _))
  have HW1 := Aside0.mk hW1
  have HOB := Aside0.mk hob
  clear h hp hq hq2 hC hw hT1 hbk hB1 ha0 ha1 hc0 hbl hl hW1 hob hc0'
  go_enter Try.func12, Try.ntmps12
  cases q
  all_goals
    go_wp2_with fail
    rw [HW1.out, HOB.out]
    go_region_held3 (fun w' => w'.cell? ⟨ob, 1, none⟩ = some (.int .u64 addr) ∧ w'.cell? ⟨ob, 2, none⟩ = some (.int .i64 n) ∧ w'.cell? ⟨ob, 3, none⟩ = some (.int .u64 x)) (first | assumption | (refine ⟨?_, ?_, ?_⟩ <;> assumption)) (first | (go_at_call 15; refine (HA.out _ _ (by assumption) (by assumption) (by assumption)).mono ?_; rintro e w1 ⟨rfl, hS1, hOa, hTa⟩) | (go_at_call 25; refine (HR.out _ _ (by assumption) (by assumption) (by assumption)).mono ?_; rintro e w2 ⟨rfl, hS2, hOb, hTb⟩))
  all_goals
    first
      | have HQ := Aside0.mk (HFIN.out _ hOb hTb)
      | have HQ := Aside0.mk (HFIN.out _ hOa hTa)
    go_wp2_with fail
    go_ret
    exact HQ.out
set_option maxHeartbeats 4000000 in
set_option maxRecDepth 100000 in
theorem do_put (W : World) (n0 : Nat) (fr : Nat → Prop) (m b : Nat) (K R : List Reg) (kd addr n x : Int) (A0 : Option Addr) (c0 : Nat) (bs : List Int) (hk0 : (kd == 0) = false) (hk1 : (kd == 1) = false) (hk2 : (kd == 2) = false) (hk3 : (kd == 3) = false) (hk4 : (kd == 4) = false) (hA : 0 < bs.length → ∀ ad, A0 = some ad → fr ad.block) (h : Two W n0 fr m b K R) (hp : K.Perm R) (hl : K.length ≤ 99999) (ha0 : 0 ≤ addr) (ha1 : addr < 18446744073709551616) (hc0 : bs.length ≤ c0) (hbl : bs.length ≤ 600) (hw : ∀ x ∈ bs, 0 ≤ x ∧ x < 256) (hC : ∀ W', Out (fun k => ¬ fr k) W W' → Kd.C (Kd.int .u8) W' A0 bs.length bs) :
    Calls Try.prog 12 #[.pointer (some ⟨m, 0, none⟩), .pointer (some ⟨b, 0, none⟩), .agg #[.int .i64 kd, .int .u64 addr, .int .i64 n, .int .u64 x, .slice A0 bs.length c0]] W (DoPost W n0 fr m b K) := by
  obtain ⟨q, hq⟩ : ∃ q, K.any (hitR addr bs.length) = q := ⟨_, rfl⟩
  have hq2 : R.any (hitR addr bs.length) = q := by rw [← any_perm hp]; exact hq
  obtain ⟨W1, hW1⟩ : ∃ W1, W.alloc (.cells #[.int .i64 kd, .int .u64 addr, .int .i64 n, .int .u64 x, .slice A0 bs.length c0] 34) = W1 := ⟨_, rfl⟩
  obtain ⟨ob, hob⟩ : ∃ ob, W.heap.size = ob := ⟨_, rfl⟩
  have hT1 : Two W1 n0 (fun k => fr k ∨ k = ob) m b K R := by rw [← hW1, ← hob]; exact h.alloc _
  have hB1 : Below W.heap.size W W1 := by rw [← hW1]; exact below_alloc (Below.refl _ _) _
  have hbk : W1.heap[ob]? = some (.cells #[.int .i64 kd, .int .u64 addr, .int .i64 n, .int .u64 x, .slice A0 bs.length c0] 34 (0, 0)) := by rw [← hW1, ← hob]; exact heap_alloc_new W _
  have HA : Aside0 (∀ w R', (w.cell? ⟨ob, 1, none⟩ = some (.int .u64 addr) ∧ w.cell? ⟨ob, 4, none⟩ = some (.slice A0 bs.length c0)) → Out (fun k => ¬ (fr k ∨ k = ob)) W1 w → Two w n0 (fun k => fr k ∨ k = ob) m b K R' → Calls Try.prog 20 #[.pointer (some ⟨m, 0, none⟩), .int .u64 addr, .slice A0 bs.length c0] w fun e w' => e = .returned (.bool q) ∧ (w'.cell? ⟨ob, 1, none⟩ = some (.int .u64 addr) ∧ w'.cell? ⟨ob, 4, none⟩ = some (.slice A0 bs.length c0)) ∧ Out (fun k => ¬ (fr k ∨ k = ob)) W1 w' ∧ Two w' n0 (fun k => fr k ∨ k = ob) m b (putG K addr bs) R') := ⟨fun w R' hS hO hT => by
    refine (two_put w n0 _ m b K R' addr A0 c0 bs hT (by omega) ha0 ha1 (hC w (((below_out hB1 _).trans hO (fun k _ h => h)).mono (fun k _ h hf => h (.inl hf)))) (by omega) hw).mono ?_
    rintro e w' ⟨he, hT', hO'⟩
    rw [hq] at he
    exact ⟨he, ⟨out_cell hO' (.inr rfl) hS.1, out_cell hO' (.inr rfl) hS.2⟩, hO.trans hO' (fun k _ h => h), hT'⟩⟩
  have HR : Aside0 (∀ w K', (w.cell? ⟨ob, 1, none⟩ = some (.int .u64 addr) ∧ w.cell? ⟨ob, 4, none⟩ = some (.slice A0 bs.length c0)) → Out (fun k => ¬ (fr k ∨ k = ob)) W1 w → Two w n0 (fun k => fr k ∨ k = ob) m b K' R → Calls Try.prog 27 #[.pointer (some ⟨b, 0, none⟩), .int .u64 addr, .slice A0 bs.length c0] w fun e w' => e = .returned (.bool q) ∧ (w'.cell? ⟨ob, 1, none⟩ = some (.int .u64 addr) ∧ w'.cell? ⟨ob, 4, none⟩ = some (.slice A0 bs.length c0)) ∧ Out (fun k => ¬ (fr k ∨ k = ob)) W1 w' ∧ Two w' n0 (fun k => fr k ∨ k = ob) m b K' (putG R addr bs)) := ⟨fun w K' hS hO hT => by
    refine (two_rput w n0 _ m b K' R addr A0 c0 bs hT (by rw [← hp.length_eq]; omega) ha0 ha1 (hC w (((below_out hB1 _).trans hO (fun k _ h => h)).mono (fun k _ h hf => h (.inl hf)))) (by omega) hw (fun hp ad e => .inl (hA hp ad e))).mono ?_
    rintro e w' ⟨he, hT', hO'⟩
    rw [hq2] at he
    exact ⟨he, ⟨out_cell hO' (.inr rfl) hS.1, out_cell hO' (.inr rfl) hS.2⟩, hO.trans hO' (fun k _ h => h), hT'⟩⟩
  have HFIN : Aside0 (∀ w, Out (fun k => ¬ (fr k ∨ k = ob)) W1 w → Two w n0 (fun k => fr k ∨ k = ob) m b (putG K addr bs) (putG R addr bs) → DoPost W n0 fr m b K (.returned (.bool false)) w) := ⟨fun w hO hT => ⟨rfl, _, _, hT.weaken (fun k h => .inl h), put_perm hp addr bs, Nat.le_succ_of_le (by simp [putG]), ((below_out hB1 _).trans hO (fun k _ h => h)).mono (fun k _ h hf => h (.inl hf))⟩⟩
  have hc0' : W1.cell? ⟨ob, 0, none⟩ = some (.int .i64 kd) := (blk_cell hbk 0).trans rfl
  have hc1 : W1.drew.cell? ⟨ob, 1, none⟩ = some (.int .u64 addr) := (blk_cell hbk 1).trans rfl
  have hc4 : W1.drew.cell? ⟨ob, 4, none⟩ = some (.slice A0 bs.length c0) := (blk_cell hbk 4).trans rfl
  have hO1 : Out (fun k => ¬ (fr k ∨ k = ob)) W1 W1.drew := (Out.refl _ _).drew
  have hT1d : Two W1.drew n0 (fun k => fr k ∨ k = ob) m b K R := hT1.below (below_drew (Below.refl _ _))
  have HW1 := Aside0.mk hW1
  have HOB := Aside0.mk hob
  clear h hp hq hq2 hC hw hT1 hbk hB1 ha0 ha1 hc0 hbl hl hW1 hob hc0'
  go_enter Try.func12, Try.ntmps12
  cases q
  all_goals
    go_wp2_with fail
    rw [HW1.out, HOB.out]
    go_region_held3 (fun w' => w'.cell? ⟨ob, 1, none⟩ = some (.int .u64 addr) ∧ w'.cell? ⟨ob, 4, none⟩ = some (.slice A0 bs.length c0)) (first | assumption | (refine ⟨?_, ?_⟩ <;> assumption)) (first | (go_at_call 20; refine (HA.out _ _ (by assumption) (by assumption) (by assumption)).mono ?_; rintro e w1 ⟨rfl, hS1, hOa, hTa⟩) | (go_at_call 27; refine (HR.out _ _ (by assumption) (by assumption) (by assumption)).mono ?_; rintro e w2 ⟨rfl, hS2, hOb, hTb⟩))
  all_goals
    first
      | have HQ := Aside0.mk (HFIN.out _ hOb hTb)
      | have HQ := Aside0.mk (HFIN.out _ hOa hTa)
    go_wp2_with fail
    go_ret
    exact HQ.out
theorem bytesF_short {K : List Reg} (h : DL K) {a n : Int} : ((bytesF K a n).getD []).length ≤ 4294967296 := by
  cases hf : bytesF K a n with
  | none => exact Nat.zero_le _
  | some bs =>
    obtain ⟨r, hr, hh, rfl⟩ := (bytesF_iff h).1 hf
    show ((r.data.drop _).take _).length ≤ _
    have := (h.ok r hr).short
    rw [List.length_take, List.length_drop]
    omega
set_option maxHeartbeats 4000000 in
set_option maxRecDepth 100000 in
theorem do_read (W : World) (n0 : Nat) (fr : Nat → Prop) (m b : Nat) (K R : List Reg) (addr n x : Int) (A0 : Option Addr) (c0 : Nat) (nb : Nat) (h : Two W n0 fr m b K R) (hp : K.Perm R) (hl : K.length ≤ 99999) (ha0 : 0 ≤ addr) (ha1 : addr < 18446744073709551616) (hn0 : -9223372036854775808 ≤ n) (hn1 : n < 9223372036854775808) :
    Calls Try.prog 12 #[.pointer (some ⟨m, 0, none⟩), .pointer (some ⟨b, 0, none⟩), .agg #[.int .i64 2, .int .u64 addr, .int .i64 n, .int .u64 x, .slice A0 nb c0]] W (DoPost W n0 fr m b K) := by
  obtain ⟨W1, hW1⟩ : ∃ W1, W.alloc (.cells #[.int .i64 2, .int .u64 addr, .int .i64 n, .int .u64 x, .slice A0 nb c0] 34) = W1 := ⟨_, rfl⟩
  obtain ⟨ob, hob⟩ : ∃ ob, W.heap.size = ob := ⟨_, rfl⟩
  have hT1 : Two W1 n0 (fun k => fr k ∨ k = ob) m b K R := by rw [← hW1, ← hob]; exact h.alloc _
  have hB1 : Below W.heap.size W W1 := by rw [← hW1]; exact below_alloc (Below.refl _ _) _
  have hbk : W1.heap[ob]? = some (.cells #[.int .i64 2, .int .u64 addr, .int .i64 n, .int .u64 x, .slice A0 nb c0] 34 (0, 0)) := by rw [← hW1, ← hob]; exact heap_alloc_new W _
  obtain ⟨y, ok, hq⟩ : ∃ y ok, readF K addr n = (y, ok) := ⟨_, _, rfl⟩
  have hq2 : readF R addr n = (y, ok) := by rw [← readF_perm h.dl.1 hp]; exact hq
  have HA : Aside0 (∀ w, Below W1.heap.size W1 w → Calls Try.prog 18 #[.pointer (some ⟨m, 0, none⟩), .int .u64 addr, .int .i64 n] w fun e w' => e = .returned (.tuple #[.int .u64 y, .bool ok]) ∧ Below W1.heap.size W1 w') := ⟨fun w hb => by
    refine (two_read w n0 _ m b K R addr n (hT1.below hb) (by omega) ha0 ha1 hn0 hn1).mono ?_
    rintro e w' ⟨he, hb'⟩
    rw [hq] at he
    exact ⟨he, below_then hb hb.size hb'⟩⟩
  have HR : Aside0 (∀ w, Below W1.heap.size W1 w → Calls Try.prog 24 #[.pointer (some ⟨b, 0, none⟩), .int .u64 addr, .int .i64 n] w fun e w' => e = .returned (.tuple #[.int .u64 y, .bool ok]) ∧ Below W1.heap.size W1 w') := ⟨fun w hb => by
    refine (two_rread w n0 _ m b K R addr n (hT1.below hb) (by rw [← hp.length_eq]; omega) ha0 ha1 hn0 hn1).mono ?_
    rintro e w' ⟨he, hb'⟩
    rw [hq2] at he
    exact ⟨he, below_then hb hb.size hb'⟩⟩
  have HFIN : Aside0 (∀ w, Below W1.heap.size W1 w → DoPost W n0 fr m b K (.returned (.bool false)) w) := ⟨fun w hb => ⟨rfl, K, R, (hT1.below hb).weaken (fun k h => .inl h), hp, Nat.le_succ _, below_out (below_then hB1 hB1.size hb) _⟩⟩
  have HC : Aside0 (∀ w, Below W1.heap.size W1 w → w.cell? ⟨ob, 1, none⟩ = some (.int .u64 addr) ∧ w.cell? ⟨ob, 2, none⟩ = some (.int .i64 n)) := ⟨fun w hb => ⟨pw_cell_below hb ((blk_cell hbk 1).trans rfl), pw_cell_below hb ((blk_cell hbk 2).trans rfl)⟩⟩
  have HW1 := Aside0.mk hW1
  have HOB := Aside0.mk hob
  have hyy : (y != y) = false := by simp
  clear h hp hq hq2 hT1 hbk hB1 ha0 ha1 hl hW1 hob hn0 hn1
  go_enter Try.func12, Try.ntmps12
  cases ok
  all_goals
    go_wp2_with fail
    rw [HW1.out, HOB.out]
    refine (HA.out _ (Below.refl _ _)).mono ?_
    rintro e w1 ⟨rfl, hb1⟩
    obtain ⟨hc1, hc2⟩ := HC.out w1 hb1
    go_wp2_with fail
    refine (HR.out _ hb1).mono ?_
    rintro e w2 ⟨rfl, hb2⟩
    have HQ := Aside0.mk (HFIN.out _ hb2)
    go_wp2_with fail
    go_ret
    exact HQ.out
set_option maxHeartbeats 4000000 in
set_option maxRecDepth 100000 in
theorem do_bytes (W : World) (n0 : Nat) (fr : Nat → Prop) (m b : Nat) (K R : List Reg) (addr n x : Int) (A0 : Option Addr) (c0 : Nat) (nb : Nat) (h : Two W n0 fr m b K R) (hp : K.Perm R) (hl : K.length ≤ 99999) (ha0 : 0 ≤ addr) (ha1 : addr < 18446744073709551616) (hn0 : -9223372036854775808 ≤ n) (hn1 : n < 9223372036854775808) :
    Calls Try.prog 12 #[.pointer (some ⟨m, 0, none⟩), .pointer (some ⟨b, 0, none⟩), .agg #[.int .i64 4, .int .u64 addr, .int .i64 n, .int .u64 x, .slice A0 nb c0]] W (DoPost W n0 fr m b K) := by
  obtain ⟨W1, hW1⟩ : ∃ W1, W.alloc (.cells #[.int .i64 4, .int .u64 addr, .int .i64 n, .int .u64 x, .slice A0 nb c0] 34) = W1 := ⟨_, rfl⟩
  obtain ⟨ob, hob⟩ : ∃ ob, W.heap.size = ob := ⟨_, rfl⟩
  have hT1 : Two W1 n0 (fun k => fr k ∨ k = ob) m b K R := by rw [← hW1, ← hob]; exact h.alloc _
  have hB1 : Below W.heap.size W W1 := by rw [← hW1]; exact below_alloc (Below.refl _ _) _
  have hbk : W1.heap[ob]? = some (.cells #[.int .i64 4, .int .u64 addr, .int .i64 n, .int .u64 x, .slice A0 nb c0] 34 (0, 0)) := by rw [← hW1, ← hob]; exact heap_alloc_new W _
  obtain ⟨l, hq⟩ : ∃ l, (bytesF K addr n).getD [] = l := ⟨_, rfl⟩
  obtain ⟨ok, hok⟩ : ∃ ok, (bytesF K addr n).isSome = ok := ⟨_, rfl⟩
  have hll : l.length ≤ 1099511627776 := by rw [← hq]; exact Nat.le_trans (bytesF_short h.dl.1) (by decide)
  have HA : Aside0 (∀ w, Below W1.heap.size W1 w → Calls Try.prog 16 #[.pointer (some ⟨m, 0, none⟩), .int .u64 addr, .int .i64 n] w fun e w' => (∃ v, e = .returned (.tuple #[v, .bool ok]) ∧ Kd.R (Kd.int .u8) 5 w' w.heap.size (fun _ => True) v l) ∧ Below w.heap.size w w') := ⟨fun w hb => by
    refine (two_bytes w n0 _ m b K R addr n (hT1.below hb) (by omega) ha0 ha1 hn0 hn1).mono ?_
    rintro e w' ⟨hb', v, he, hr⟩
    rw [hok] at he
    rw [hq] at hr
    exact ⟨⟨v, he, hr⟩, hb'⟩⟩
  have HR : Aside0 (∀ w, Below W1.heap.size W1 w → Calls Try.prog 26 #[.pointer (some ⟨b, 0, none⟩), .int .u64 addr, .int .i64 n] w fun e w' => (∃ v, e = .returned (.tuple #[v, .bool ok]) ∧ Kd.R (Kd.int .u8) 5 w' w.heap.size (fun _ => True) v l) ∧ Below w.heap.size w w') := ⟨fun w hb => by
    refine (two_rbytes w n0 _ m b K R addr n (hT1.below hb) (by rw [← hp.length_eq]; omega) ha0 ha1 hn0 hn1).mono ?_
    rintro e w' ⟨hb', v, he, hr⟩
    rw [← bytesF_perm h.dl.1 hp, hok] at he
    rw [← bytesF_perm h.dl.1 hp, hq] at hr
    exact ⟨⟨v, he, hr⟩, hb'⟩⟩
  have HFIN : Aside0 (∀ w, Below W1.heap.size W1 w → DoPost W n0 fr m b K (.returned (.bool false)) w) := ⟨fun w hb => ⟨rfl, K, R, (hT1.below hb).weaken (fun k h => .inl h), hp, Nat.le_succ _, below_out (below_then hB1 hB1.size hb) _⟩⟩
  have HC : Aside0 (∀ w, Below W1.heap.size W1 w → w.cell? ⟨ob, 1, none⟩ = some (.int .u64 addr) ∧ w.cell? ⟨ob, 2, none⟩ = some (.int .i64 n)) := ⟨fun w hb => ⟨pw_cell_below hb ((blk_cell hbk 1).trans rfl), pw_cell_below hb ((blk_cell hbk 2).trans rfl)⟩⟩
  have HW1 := Aside0.mk hW1
  have HOB := Aside0.mk hob
  have HLL := Aside0.mk hll
  clear h hp hq hok hT1 hbk hB1 ha0 ha1 hl hW1 hob hn0 hn1 hll
  go_enter Try.func12, Try.ntmps12
  cases ok
  all_goals
    go_wp2_with fail
    rw [HW1.out, HOB.out]
    refine (HA.out _ (Below.refl _ _)).mono ?_
    rintro e w1 ⟨⟨v1, rfl, hr1⟩, hb1⟩
    obtain ⟨hc1, hc2⟩ := HC.out w1 hb1
    obtain ⟨A1, c1, rfl, hcap1, hC1⟩ := Kd.R_reads hr1
    have HC1 := Aside0.mk hC1
    have HB1 := Aside0.mk hb1
    clear hr1 hC1 hb1
    go_wp2_with fail
    refine (HR.out _ HB1.out).mono ?_
    rintro e w2 ⟨⟨v2, rfl, hr2⟩, hb2⟩
    obtain ⟨A2, c2, rfl, hcap2, hC2⟩ := Kd.R_reads hr2
    have HC2 := Aside0.mk hC2
    have HC1' := Aside0.mk (Kd.C_below HC1.out hb2)
    have HB2 := Aside0.mk (below_then HB1.out HB1.out.size hb2)
    have HCAP := Aside0.mk (And.intro hcap1 hcap2)
    clear hr2 hC2 hb2 hcap1 hcap2
    go_wp2_with fail
    refine (same_c A1 c1 l A2 c2 l _ HC1'.out HCAP.out.1 HC2.out HCAP.out.2 HLL.out true (by simp)).mono ?_
    rintro e w3 ⟨rfl, k3, rfl⟩
    have HQ := Aside0.mk (HFIN.out _ (pw_below_drewN HB2.out k3))
    go_wp2_with fail
    go_ret
    exact HQ.out
end Go.Proofs.Ytlolhmocimaobaa.PAll
