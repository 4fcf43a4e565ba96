/- The law's do: one operation on both memories. -/
import Derived.Test.YtlolhmocimaobaaRunTwo
set_option linter.unusedVariables false
set_option linter.unusedSimpArgs false
namespace Go.Proofs.Ytlolhmocimaobaa.PAll
open Go.RowKit Go.Shelf Go.Proofs.YtlolhmocimaobaaW.PrintWords Go.Proofs.YtlolhmocimaobaaW.PrintLast Go.Proofs.YtlolhmocimaobaaW.PrintMore
/-- What an operation leaves: no difference, and both memories alike. -/
def DoPost (W : World) (n0 : Nat) (fr : Nat → Prop) (m b : Nat) (K : List Reg) (e : Ending) (W' : World) : Prop :=
  e = .returned (.bool false) ∧ ∃ K' R', Two W' n0 fr m b K' R' ∧ K'.Perm R' ∧ K'.length ≤ K.length + 1 ∧ Out (fun k => ¬ fr k) W W'
theorem out_cell {fr : Nat → Prop} {X X' : World} (h : Out (fun k => ¬ fr k) X X') {g o : Nat} {v : Value} (hf : fr g) (hc : X.cell? ⟨g, o, none⟩ = some v) : X'.cell? ⟨g, o, none⟩ = some v := by
  have := h.block g (World.block_lt_of_cell? X _ hc) (fun hn => hn hf)
  unfold World.cell? at hc ⊢
  rw [this]
  exact hc
theorem radd_perm (R : List Reg) (base : Int) (bs : List Int) : (addG R base bs).Perm (if addOk R base bs.length then R ++ [⟨base, bs⟩] else R) := by
  unfold addG
  by_cases h : addOk R base bs.length = true
  · rw [if_pos h, if_pos h]; exact (List.perm_append_singleton _ _).symm
  · rw [if_neg h, if_neg h]
theorem addG_len (K : List Reg) (base : Int) (bs : List Int) : (addG K base bs).length ≤ K.length + 1 := by
  unfold addG
  split <;> simp
set_option maxHeartbeats 4000000 in
set_option maxRecDepth 100000 in
theorem do_add (W : World) (n0 : Nat) (fr : Nat → Prop) (m b : Nat) (K R : List Reg) (addr n x : Int) (A0 : Option Addr) (c0 : Nat) (bs : List Int) (h : Two W n0 fr m b K R) (hp : K.Perm R) (hl : K.length ≤ 99999) (ha0 : 0 ≤ addr) (ha1 : addr < 18446744073709551616) (hc0 : bs.length ≤ c0) (hbl : bs.length ≤ 600) (hw : ∀ x ∈ bs, 0 ≤ x ∧ x < 256) (hC : ∀ W', Out (fun k => ¬ fr k) W W' → Kd.C (Kd.int .u8) W' A0 bs.length bs) :
    Calls Try.prog 12 #[.pointer (some ⟨m, 0, none⟩), .pointer (some ⟨b, 0, none⟩), .agg #[.int .i64 0, .int .u64 addr, .int .i64 n, .int .u64 x, .slice A0 bs.length c0]] W (DoPost W n0 fr m b K) := by
  obtain ⟨q, hq⟩ : ∃ q, addOk K addr bs.length = q := ⟨_, rfl⟩
  have hq2 : addOk R addr bs.length = q := by rw [← addOk_perm hp]; exact hq
  obtain ⟨W1, hW1⟩ : ∃ W1, W.alloc (.cells #[.int .i64 0, .int .u64 addr, .int .i64 n, .int .u64 x, .slice A0 bs.length c0] 34) = W1 := ⟨_, rfl⟩
  obtain ⟨ob, hob⟩ : ∃ ob, W.heap.size = ob := ⟨_, rfl⟩
  have hT1 : Two W1 n0 (fun k => fr k ∨ k = ob) m b K R := by rw [← hW1, ← hob]; exact h.alloc _
  have hB1 : Below W.heap.size W W1 := by rw [← hW1]; exact below_alloc (Below.refl _ _) _
  have hbk : W1.heap[ob]? = some (.cells #[.int .i64 0, .int .u64 addr, .int .i64 n, .int .u64 x, .slice A0 bs.length c0] 34 (0, 0)) := by rw [← hW1, ← hob]; exact heap_alloc_new W _
  have HA : Aside0 (∀ w R', (w.cell? ⟨ob, 1, none⟩ = some (.int .u64 addr) ∧ w.cell? ⟨ob, 4, none⟩ = some (.slice A0 bs.length c0)) → Out (fun k => ¬ (fr k ∨ k = ob)) W1 w → Two w n0 (fun k => fr k ∨ k = ob) m b K R' → Calls Try.prog 14 #[.pointer (some ⟨m, 0, none⟩), .int .u64 addr, .slice A0 bs.length c0] w fun e w' => e = .returned (.bool q) ∧ (w'.cell? ⟨ob, 1, none⟩ = some (.int .u64 addr) ∧ w'.cell? ⟨ob, 4, none⟩ = some (.slice A0 bs.length c0)) ∧ Out (fun k => ¬ (fr k ∨ k = ob)) W1 w' ∧ Two w' n0 (fun k => fr k ∨ k = ob) m b (addG K addr bs) R') := ⟨fun w R' hS hO hT => by
    refine (two_add w n0 _ m b K R' addr A0 c0 bs hT (by omega) ha0 ha1 (hC w (((below_out hB1 _).trans hO (fun k _ h => h)).mono (fun k _ h hf => h (.inl hf)))) hc0 (by omega) hw).mono ?_
    rintro e w' ⟨he, hT', hO'⟩
    rw [hq] at he
    exact ⟨he, ⟨out_cell hO' (.inr rfl) hS.1, out_cell hO' (.inr rfl) hS.2⟩, hO.trans hO' (fun k _ h => h), hT'⟩⟩
  have HR : Aside0 (∀ w K', (w.cell? ⟨ob, 1, none⟩ = some (.int .u64 addr) ∧ w.cell? ⟨ob, 4, none⟩ = some (.slice A0 bs.length c0)) → Out (fun k => ¬ (fr k ∨ k = ob)) W1 w → Two w n0 (fun k => fr k ∨ k = ob) m b K' R → Calls Try.prog 22 #[.pointer (some ⟨b, 0, none⟩), .int .u64 addr, .slice A0 bs.length c0] w fun e w' => e = .returned (.bool q) ∧ (w'.cell? ⟨ob, 1, none⟩ = some (.int .u64 addr) ∧ w'.cell? ⟨ob, 4, none⟩ = some (.slice A0 bs.length c0)) ∧ Out (fun k => ¬ (fr k ∨ k = ob)) W1 w' ∧ Two w' n0 (fun k => fr k ∨ k = ob) m b K' (if addOk R addr bs.length then R ++ [⟨addr, bs⟩] else R)) := ⟨fun w K' hS hO hT => by
    refine (two_radd w n0 _ m b K' R addr A0 c0 bs hT (by rw [← hp.length_eq]; omega) ha0 ha1 (hC w (((below_out hB1 _).trans hO (fun k _ h => h)).mono (fun k _ h hf => h (.inl hf)))) hc0 (by omega) hw).mono ?_
    rintro e w' ⟨he, hT', hO'⟩
    rw [hq2] at he
    exact ⟨he, ⟨out_cell hO' (.inr rfl) hS.1, out_cell hO' (.inr rfl) hS.2⟩, hO.trans hO' (fun k _ h => h), hT'⟩⟩
  have HFIN : Aside0 (∀ w, Out (fun k => ¬ (fr k ∨ k = ob)) W1 w → Two w n0 (fun k => fr k ∨ k = ob) m b (addG K addr bs) (if addOk R addr bs.length then R ++ [⟨addr, bs⟩] else R) → DoPost W n0 fr m b K (.returned (.bool false)) w) := ⟨fun w hO hT => ⟨rfl, _, _, hT.weaken (fun k h => .inl h), (add_perm hp addr bs).trans (radd_perm R addr bs), addG_len _ _ _, ((below_out hB1 _).trans hO (fun k _ h => h)).mono (fun k _ h hf => h (.inl hf))⟩⟩
  have hc0' : W1.cell? ⟨ob, 0, none⟩ = some (.int .i64 0) := (blk_cell hbk 0).trans rfl
  have hc1 : W1.drew.cell? ⟨ob, 1, none⟩ = some (.int .u64 addr) := (blk_cell hbk 1).trans rfl
  have hc4 : W1.drew.cell? ⟨ob, 4, none⟩ = some (.slice A0 bs.length c0) := (blk_cell hbk 4).trans rfl
  have hO1 : Out (fun k => ¬ (fr k ∨ k = ob)) W1 W1.drew := (Out.refl _ _).drew
  have hT1d : Two W1.drew n0 (fun k => fr k ∨ k = ob) m b K R := hT1.below (below_drew (Below.refl _ _))
  have HW1 := Aside0.mk hW1
  have HOB := Aside0.mk hob
  clear h hp hq hq2 hC hw hT1 hbk hB1 ha0 ha1 hc0 hbl hl hW1 hob hc0'
  go_enter Try.func12, Try.ntmps12
  cases q
  all_goals
    go_wp2_with fail
    rw [HW1.out, HOB.out]
    go_region_held3 (fun w' => w'.cell? ⟨ob, 1, none⟩ = some (.int .u64 addr) ∧ w'.cell? ⟨ob, 4, none⟩ = some (.slice A0 bs.length c0)) (first | assumption | (refine ⟨?_, ?_⟩ <;> assumption)) (first | (go_at_call 14; refine (HA.out _ _ (by assumption) (by assumption) (by assumption)).mono ?_; rintro e w1 ⟨rfl, hS1, hOa, hTa⟩) | (go_at_call 22; refine (HR.out _ _ (by assumption) (by assumption) (by assumption)).mono ?_; rintro e w2 ⟨rfl, hS2, hOb, hTb⟩))
  all_goals
    first
      | have HQ := Aside0.mk (HFIN.out _ hOb hTb)
      | have HQ := Aside0.mk (HFIN.out _ hOa hTa)
    go_wp2_with fail
    go_ret
    exact HQ.out
end Go.Proofs.Ytlolhmocimaobaa.PAll
