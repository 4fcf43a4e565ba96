/- The iterator over the lines of a text, and Lines. Condition: the text is at most 2^47 bytes long. -/
import Derived.Test.YtdjljggdbflohaaDoorLexStr
import Derived.Test.YtdjljggdbflohaaDoorPAllx0
import Derived.RangeFuncNested
import Derived.RangeFuncBound
import Derived.RangeFuncCalls
import Derived.RangeFuncLeaves
import Derived.Shelf.Abstract
import Derived.Shelf.RegionOpen
import Derived.WalkKit
import Derived.OwnWalkIn
import Derived.TacticsInMore
import Derived.LoopNIn
import Derived.LoopIn
import Derived.RangeFuncBox
import Derived.RangeFuncFrom
set_option linter.unusedVariables false
set_option linter.unusedSimpArgs false
namespace Go.Proofs.YtdjljggdbflohaaDoor.PAll
open Go.RowKit Go.Shelf Go.Proofs.YtdjljggdbflohaaDoorW.PrintWords Go.Proofs.YtdjljggdbflohaaDoorW.PrintLast Go.Proofs.YtdjljggdbflohaaDoorW.PrintMore
attribute [local go_sem] Oper.semAt_some
/-- The lines of a text. -/
def linesL : Nat → List UInt8 → List ByteArray
  | 0, _ => []
  | k + 1, s => if s.length = 0 then [] else (⟨(cutL s).1.toArray⟩ : ByteArray) :: linesL k (cutL s).2
theorem cutL_less : ∀ s : List UInt8, 0 < s.length → (cutL s).2.length < s.length
  | [], h => by simp at h
  | b :: r, _ => by
    simp only [cutL]
    split
    · simp
    · rcases Nat.eq_zero_or_pos r.length with h | h
      · obtain rfl : r = [] := List.eq_nil_of_length_eq_zero h
        simp [cutL]
      · have := cutL_less r h
        simp; omega
theorem linesL_len : ∀ (k : Nat) (s : List UInt8), (linesL k s).length ≤ s.length := by
  intro k
  induction k with
  | zero => intro s; simp [linesL]
  | succ k ih =>
    intro s
    simp only [linesL]
    split
    · simp
    · have h1 := ih (cutL s).2
      have h2 := cutL_less s (by omega)
      simp; omega
def encL (x : ByteArray) : Array Value := #[.string x]
/-- What a round keeps: what lay ahead of the call, and the box of the text. -/
def Keep (n₀ Bn : Nat) (W W' : World) : Prop := Below n₀ W W' ∧ ∀ o : Obj, W.heap[Bn]? = some o → o.isCells = true → W'.heap[Bn]? = some o
theorem Keep.trans {n₀ Bn : Nat} {A B C : World} (h : Keep n₀ Bn A B) (k : Keep n₀ Bn B C) : Keep n₀ Bn A C :=
  ⟨h.1.trans k.1, fun o ho hc => k.2 o (h.2 o ho hc) hc⟩
theorem Keep.book {n₀ Bn : Nat} {w : World} (hn : n₀ ≤ w.heap.size) (W : World) (l : Nat) (o o' : Obj) (hl : w.heap.size ≤ l) (h : W.heap[l]? = some o) (hc : o.isCells = false) (hw : o.isWalk = false) : Keep n₀ Bn W (W.putObj l o') :=
  ⟨belowK_b hn W l o o' hl h hc hw, fun q hq hqc => by
    rw [World.putObj_heap_other (fun e => by subst e; rw [h] at hq; cases hq; rw [hc] at hqc; cases hqc)]
    exact hq⟩
/-- How long the text in the box is. -/
def boxLen (W : World) (Bn : Nat) : Nat := match W.cell? ⟨Bn, 0, none⟩ with | some (.string s) => s.size | _ => 0
set_option maxRecDepth 100000 in
set_option maxHeartbeats 4000000 in
theorem lines1_in (n : Nat) (hn : 1 ≤ n) (l Bn n₀ : Nat) (s0 : ByteArray) (K N : Nat) (J Jx : List ByteArray → World → Prop)
    (hm : s0.size ≤ 140737488355328) (hK : s0.size < K) (hN : (linesL K s0.data.toList).length ≤ N)
    (hY : ∀ pre x W, J pre W → pre.length < N → YieldAt Fence.wide (n - 1) Tryd.prog l (encL x) W fun e W' =>
      (e = .returned (.bool true) ∧ J (pre ++ [x]) W' ∧ Keep n₀ Bn W W') ∨ (e = .returned (.bool false) ∧ Jx (pre ++ [x]) W'))
    (hJ : ∀ pre W W', J pre W → Below W.heap.size W W' → J pre W')
    (hJs : ∀ pre W v, J pre W → J pre (W.setCell ⟨Bn, 0, none⟩ v))
    (W : World) (hBn : W.heap[Bn]? = some (.cells #[.string s0] 9 (0, 0))) (hnB : n₀ ≤ Bn) (h0 : J [] W) (hn0 : n₀ ≤ W.heap.size) :
    CallsIn Fence.wide n Tryd.prog 41 #[.func (.yield l) #[] #[], .pointer (some ⟨Bn, 0, none⟩)] W fun e W' => (∃ v, e = .returned v) ∧
      ((∃ ys, ys = linesL K s0.data.toList ∧ J ys W') ∨ (∃ pre, pre <+: linesL K s0.data.toList ∧ Jx pre W')) := by
  refine callsIn_of_wp Tryd.func41 rfl trivial ?_ rfl
  simp only [Tryd.ntmps41, List.size_toArray, List.length_cons, List.length_nil, Nat.reduceAdd, Nat.reduceSub, Array.replicate_succ, Array.replicate_zero, List.push_toArray, List.append_toArray, List.nil_append, List.cons_append]
  gi_wp2
  gi_loopw [3, 4, 5] (fun v3 v4 v5 wr => ∃ (pre rest : List ByteArray) (s : ByteArray) (k : Nat), Aside0 (linesL K s0.data.toList = pre ++ rest) ∧ Aside0 (rest = linesL k s.data.toList) ∧ s.size < k ∧ s.size ≤ 140737488355328 ∧ Aside0 (J pre wr) ∧ Aside0 (wr.heap[Bn]? = some (.cells #[.string s] 9 (0, 0))) ∧ Aside0 (Below n₀ W wr) ∧ Aside0 (n₀ ≤ wr.heap.size)) (fun _ _ _ wr => boxLen wr Bn)
  case atStart => exact ⟨[], linesL K s0.data.toList, s0, K, ⟨rfl⟩, ⟨rfl⟩, hK, hm, ⟨h0⟩, ⟨hBn⟩, ⟨Below.refl _ _⟩, ⟨hn0⟩⟩
  case round =>
    obtain ⟨pre, rest, s, k, HX, HR, hk, hs, HJ, HBn, HB, HN⟩ := hrel
    have hbox := (blk_cell HBn.out 0).trans rfl
    have hfr := blk_frozen HBn.out 0
    by_cases hlt : 0 < s.size
    · obtain ⟨k, rfl⟩ : ∃ m, k = m + 1 := ⟨k - 1, by omega⟩
      have hsl : s.size = s.data.toList.length := (data_length s).symm
      obtain ⟨x, hx⟩ : ∃ x : ByteArray, x = ⟨(cutL s.data.toList).1.toArray⟩ := ⟨_, rfl⟩
      obtain ⟨t, ht⟩ : ∃ t : ByteArray, t = ⟨(cutL s.data.toList).2.toArray⟩ := ⟨_, rfl⟩
      have hts : t.size < s.size := by
        have h1 := cutL_less s.data.toList (by omega)
        have h2 : t.size = (cutL s.data.toList).2.length := by rw [ht, ← data_length]
        omega
      have hrest : rest = x :: linesL k t.data.toList := by
        have h_ := HR.out
        simp only [linesL] at h_
        rw [if_neg (by omega), ← hx] at h_
        rw [h_, ht]
      have hlen : pre.length < N := by
        have h_ := hN
        rw [HX.out, hrest] at h_
        simp at h_; omega
      have HREST := Aside0.mk hrest
      have HCall := Aside0.mk (strings_CutNL s wr hs)
      rw [← hx, ← ht] at HCall
      clear hx ht hrest HR hsl
      have HJ' := Aside0.mk hJ
      have HJs := Aside0.mk hJs
      have HY' := Aside0.mk hY
      clear hJ hY hBn h0 hJs
      have hlt' : (0 : Int) < s.size := by omega
      have hbl : Bn < wr.heap.size := (Array.getElem?_eq_some_iff.1 HBn.out).1
      gi_wp2_with (refine ⟨trivial, ?_⟩; gi_at_call 42; refine (callsIn_wide.2 HCall.out).mono ?_; rintro e w1 ⟨⟨bb, rfl⟩, ⟨nd, rfl⟩⟩; have HB1 := Aside0.mk (show Below wr.heap.size wr (wr.drewN nd) from pw_below_drewN (Below.refl _ _) _); obtain ⟨fn, tmps, assign, body, hy, hR⟩ := HY'.out pre x (wr.drewN nd) (HJ'.out _ _ _ HJ.out HB1.out) hlen; dsimp only [encL] at hy)
      refine hR.mono ?_
      rintro e W3 (⟨rfl, hJ3, hk3⟩ | ⟨rfl, hJx3⟩)
      · have HBn1 := Aside0.mk ((HB1.out.block Bn hbl).trans HBn.out)
        have HBn3 := Aside0.mk (show Boxed W3 Bn 9 (.string s) from hk3.2 _ HBn1.out rfl)
        have HJ3 := Aside0.mk hJ3
        have HB3 := Aside0.mk (((HB.out.trans (HB1.out.mono HN.out))).trans hk3.1)
        have HN3 := Aside0.mk (show n₀ ≤ W3.heap.size from Nat.le_trans HN.out (Nat.le_trans HB1.out.size hk3.1.size))
        have hbox3 := HBn3.out.cell
        have hfr3 := HBn3.out.frozen
        clear hJ3 hk3 hbox hfr
        gi_wp2
        have HB4 := HBn3.out.set (.string t)
        refine ⟨⟨pre ++ [x], linesL k t.data.toList, t, k, ⟨by rw [HX.out, HREST.out]; simp⟩, ⟨rfl⟩, by omega, by omega, ⟨HJs.out _ _ _ HJ3.out⟩, ⟨HB4⟩, ⟨HB3.out.setCell hnB _⟩, ⟨by simp; exact HN3.out⟩⟩, ?_⟩
        have e1 : boxLen wr Bn = s.size := by unfold boxLen; rw [(show Boxed wr Bn 9 (.string s) from HBn.out).cell]
        have e2 : boxLen (W3.setCell ⟨Bn, 0, none⟩ (.string t)) Bn = t.size := by unfold boxLen; rw [HB4.cell]
        first | (rw [e1, e2]; omega)
      · gi_wp2
        refine bodyPost_ret (results_none rfl _ _ _) rfl ?_
        exact ⟨⟨_, rfl⟩, .inr ⟨pre ++ [x], ⟨_, by rw [HX.out, HREST.out]; simp; rfl⟩, hJx3⟩⟩
    · gi_wp2
      go_end0
      have hnil : rest = [] := by
        have h_ := HR.out
        cases k with
        | zero => exact h_
        | succ k => simp only [linesL] at h_; rw [if_pos (by rw [data_length]; omega)] at h_; exact h_
      exact ⟨⟨_, rfl⟩, .inl ⟨pre, by rw [HX.out, hnil, List.append_nil], HJ.out⟩⟩
/-- A loop over an iterator that writes one box of its own (a captured variable) between the rounds, and whose body is left at its end alone. -/
theorem rangeFunc_box {F : Fence} {n : Nat} {P : Program} {α : Type} {g : Operand} {ps : Array Tmp} {assign body : Code} {Q : Exit → Act → World → Prop} {a : Act} {w : World} {Bn gf N : Nat} {lb : Array Value} {encs : α → Array Value} {Kp : World → World → Prop} {S : List α → Prop}
    (hro : F.round = none) (h1 : 1 ≤ n) (hg : a.eval g = .func (.func gf) #[] lb) (hFg : F.fn gf) (eg : ∀ args w, (callFunc gf args).run P w = .ok (.enter gf args) w) (hBn : Bn < w.heap.size)
    (hseq : ∀ (l : Nat) (J : List α → World → Prop) (W : World), Below w.heap.size w W → (∀ pre W W', J pre W → Below W.heap.size W W' → J pre W') → (∀ pre W v, J pre W → J pre (W.setCell ⟨Bn, 0, none⟩ v)) →
      (∀ pre x W1, J pre W1 → pre.length < N → YieldAt F (n - 1 - 1) P l (encs x) W1 fun e W' => e = .returned (.bool true) ∧ J (pre ++ [x]) W' ∧ Kp W1 W') → J [] W →
      CallsIn F (n - 1) P gf (#[.func (.yield l) #[] #[]] ++ lb) W fun e W' => (∃ v, e = .returned v) ∧ ∃ xs, S xs ∧ J xs W')
    (hKt : ∀ {A B C : World}, Kp A B → Kp B C → Kp A C) (hKb : ∀ (W : World) (l : Nat) (o o' : Obj), w.heap.size ≤ l → W.heap[l]? = some o → o.isCells = false → o.isWalk = false → Kp W (W.putObj l o')) (hps : ∀ x, (encs x).size = ps.size)
    (I : List α → World → Prop) (hI : OwnFrom w.heap.size I) (hIs : ∀ pre W v, I pre W → I pre (W.setCell ⟨Bn, 0, none⟩ v)) (h0 : I [] w) (a₁ : α → Act)
    (hassign : ∀ (l : Nat) (x : α) (W : World) (K : Act → World → Prop), K (a₁ x) W →
      assign.wpIn (F.inRound l) (n - 1 - 1) P (Exit.then K (fun _ _ _ => False)) { tmps := (ps.zip (encs x)).foldl (fun t (p, v) => t.setIfInBounds p v) a.tmps, defers := [] } W)
    (hbody : ∀ (l : Nat) (pre : List α) (x : α) (W : World), I pre W → pre.length < N → body.wpIn (F.inRound l) (n - 1 - 1) P (ownPostK Kp I (fun _ _ _ => False) (pre ++ [x]) W) (a₁ x) W)
    (hdone : ∀ (D : Nat) (xs : List α) (W : World), w.heap.size ≤ D → S xs → I xs W → W.heap[D]? = some (.deferred (some [])) → Q .normal { a with defers := { target := .collected D, args := #[] } :: a.defers } W) :
    (Code.rangeFunc g ps assign body).wpIn F n P Q a w := by
  refine wpIn_rangeFunc ?_
  intro fn hfn
  rw [hro]
  obtain ⟨D, hD⟩ : ∃ D, D = w.heap.size := ⟨_, rfl⟩
  obtain ⟨rec, hrec⟩ : ∃ rec : LoopState → Option Code → Loop, rec = fun st pe => { state := st, pending := pe, fn, tmps := a.tmps, params := ps, assign, body, defers := D } := ⟨_, rfl⟩
  obtain ⟨X, hX⟩ : ∃ X, (w.alloc (.deferred (some []))).alloc (.loop (rec .ready none)) = X := ⟨_, rfl⟩
  have lX : X.heap[D + 1]? = some (.loop (rec .ready none)) := by
    have h := World.alloc_heap_new (w.alloc (.deferred (some []))) (.loop (rec .ready none))
    rw [World.size_alloc, hX] at h
    rw [hD]; exact h
  have dX : X.heap[D]? = some (.deferred (some [])) := by
    rw [← hX, hD]; exact (Below.heap_alloc _ _ _ (by simp)).trans (World.alloc_heap_new w _)
  have sX : X.heap.size = D + 2 := by rw [← hX, hD]; simp
  have bX : Below w.heap.size w X := by rw [← hX]; exact ((Below.refl _ w).alloc (Nat.le_refl _) _).alloc (by simp) _
  have iX : I [] X := by rw [← hX]; exact hI.alloc _ (hI.alloc _ h0)
  refine ⟨D + 1, [{ target := .collected D, args := #[] }], X, { target := .fn (.func gf) lb, args := #[.func (.yield (D + 1)) #[] #[]] }, X, gf, #[.func (.yield (D + 1)) #[] #[]] ++ lb, X, ?_, ?_, ?_, ?_, fun _ => h1, ?_⟩
  · rw [← hX, hrec, hD]; exact run_enterLoop_outer _ _ _ _ _
  · simp only [resolve, hg]
    simp [go_sem]
  · intro f' hf'; simp [Target.leads] at hf'; subst hf'; exact hFg
  · simp [invoke, go_sem, eg]
  · have hsm : ∀ {A B : World}, Below A.heap.size A B → ∀ (k : Nat) (o : Obj), A.heap[k]? = some o → B.heap[k]? = some o := fun hb k o ho => (hb.block k (Array.getElem?_eq_some_iff.1 ho).1).trans ho
    refine (hseq (D + 1) (fun pre W => I pre W ∧ W.heap[D + 1]? = some (.loop (rec .ready none)) ∧ W.heap[D]? = some (.deferred (some []))) X bX
      (fun pre A B h hb => ⟨hI pre A B none h.1 ⟨hb.os, hb.tape, hb.output, hb.size, fun k hk _ => hb.block k hk⟩ (fun r e => by cases e), hsm hb _ _ h.2.1, hsm hb _ _ h.2.2⟩)
      (fun pre A v h => ⟨hIs pre A v h.1, (Below.heap_setCell A ⟨Bn, 0, none⟩ v _ (by show D + 1 ≠ Bn; omega)).trans h.2.1, (Below.heap_setCell A ⟨Bn, 0, none⟩ v _ (by show D ≠ Bn; omega)).trans h.2.2⟩)
      ?_ ⟨iX, lX, dX⟩).mono ?_
    · rintro pre x W ⟨hi, hl, hk⟩ hlen
      have hlt : D + 1 < W.heap.size := (Array.getElem?_eq_some_iff.1 hl).1
      have hy := run_yield (P := P) (args := encs x) hl (by rw [hrec]; exact hps x)
      rw [hrec] at hy
      refine ⟨fn, _, assign, body, hy, roundIn_of_wpIn hfn (hassign _ x W _ ⟨_, run_beginRound hl (by rw [hrec]), ?_⟩)⟩
      obtain ⟨Y, hY⟩ : ∃ Y, W.putObj (D + 1) (.loop { rec .ready none with state := .busy }) = Y := ⟨_, rfl⟩
      have lY : Y.heap[D + 1]? = some (.loop { rec .ready none with state := .busy }) := by rw [← hY]; exact World.putObj_heap_same hlt
      have dY : Y.heap[D]? = some (.deferred (some [])) := by rw [← hY]; exact (World.putObj_heap_other (by omega)).trans hk
      have kY : Kp W Y := by rw [← hY]; exact hKb _ _ _ _ (by omega) hl rfl rfl
      have iY : I pre Y := by rw [← hY]; exact hI.putObj _ hi (by omega) hl rfl
      rw [hY]
      refine wpIn_mono (hbody _ pre x Y iY hlen) ?_
      rintro e a3 W3 hp
      cases e with
      | normal =>
        obtain ⟨hk3, hkp3, hi3⟩ := hp
        have l3 := hk3.same _ _ lY rfl
        have d3 := hk3.same _ _ dY rfl
        have hr := run_endRound (P := P) none l3
        rw [hrec] at hr l3
        refine ⟨_, _, hr, rfl, ⟨hI.putObj _ hi3 (by omega) l3 rfl, ?_, (World.putObj_heap_other (by omega)).trans d3⟩, hKt (hKt kY hkp3) (hKb _ _ _ _ (by omega) l3 rfl rfl)⟩
        rw [hrec]
        exact World.putObj_heap_same (Array.getElem?_eq_some_iff.1 l3).1
      | ret => exact hp.2.elim
      | exit id => exact hp.2.elim
      | goto t => exact hp.2.elim
      | panic ch => exact hp.elim
      | outgrown => exact hp.elim
    · rintro e W2 ⟨⟨v, rfl⟩, xs, hS, hi, hl, hk⟩
      have hr := run_endLoop (P := P) hl (by rw [hrec]; simp)
      rw [hrec] at hr hl
      exact ⟨none, _, hr, hdone _ xs _ (by omega) hS (hI.putObj _ hi (by omega) hl rfl) ((World.putObj_heap_other (by omega)).trans hk)⟩
set_option maxHeartbeats 1000000 in
/-- lines hands back the closure over the box of the text. -/
theorem lines_in (n : Nat) (v : Value) (hv : v.oneCell' = true) (w : World) :
    CallsIn Fence.wide n Tryd.prog 31 #[v] w fun e w' => e = .returned (.func (.func 41) #[] #[.pointer (some ⟨w.heap.size, 0, none⟩)]) ∧ w' = w.alloc (.cells #[v] 9) := by
  refine callsIn_of_wp Tryd.func31 rfl trivial ?_ rfl
  simp only [Tryd.ntmps31, List.size_toArray, List.length_cons, List.length_nil, Nat.reduceAdd, Nat.reduceSub, Array.replicate_succ, Array.replicate_zero, List.push_toArray, List.append_toArray, List.nil_append, List.cons_append]
  have hmf : ∀ (fn : Fn) (first cap : Array Value) (w : World), (Instr.makeFunc fn first cap).run Tryd.prog w = .ok (.func fn first cap) w := fun _ _ _ _ => rfl
  gi_wp2
  go_ret
  exact ⟨rfl, rfl⟩
/-- What lies in the boxes behind some rounds. -/
structure LI (w : World) (pre : List ByteArray) (W : World) : Prop where
  l : ∃ v, Boxed W w.heap.size 37 v ∧ W.ownsRow (w.heap.size + 2) 9 1 v pre.length (pre.map fun x => .string x)
  c : ∃ v, Boxed W (w.heap.size + 1) 9 v
  b : Below w.heap.size w W
theorem box_turn {W W' : World} {row : Option Nat} {B : Nat} {t : TypeId} {v : Value} (h : Boxed W B t v) (hg : W.grownBy W' row) (hr : ∀ r, row = some r → ∃ o : Obj, W.heap[r]? = some o ∧ o.isCells = false) : Boxed W' B t v :=
  h.kept hg (fun e => by
    obtain ⟨o, ho, hc⟩ := hr B e.symm
    rw [show W.heap[B]? = _ from h] at ho; cases ho; cases hc)
theorem ownsRow_turn {W W' : World} {row : Option Nat} {base : Nat} {e : TypeId} {size : Nat} {v : Value} {k : Nat} {xs : List Value} (h : W.ownsRow base e size v k xs) (hg : W.grownBy W' row) (hr : ∀ r, row = some r → ∃ o : Obj, W.heap[r]? = some o ∧ o.isCells = false) : W'.ownsRow base e size v k xs := by
  refine h.kept hg ?_
  rcases h.2 with ⟨rfl, _⟩ | ⟨g, cap, cur, rfl, _, hgb, _⟩
  · exact .inl rfl
  · refine .inr fun e' => ?_
    obtain ⟨o, ho, hc⟩ := hr g (by simpa [Value.ownBlock] using e'.symm)
    rw [hgb] at ho; cases ho; cases hc
theorem LI.own (w : World) (B : Nat) (hB : w.heap.size ≤ B) : OwnFrom B (LI w) := fun s W W' row h hg hr => by
  have hr' : ∀ r, row = some r → ∃ o : Obj, W.heap[r]? = some o ∧ o.isCells = false := fun r e => (hr r e).2
  obtain ⟨v, hv, hrow⟩ := h.l
  obtain ⟨u, hu⟩ := h.c
  exact ⟨⟨v, box_turn hv hg hr', ownsRow_turn hrow hg hr'⟩, ⟨u, box_turn hu hg hr'⟩, h.b.grown hg h.b.size (fun k e => Nat.le_trans hB (hr k e).1)⟩
theorem box_ne {W : World} {B : Nat} {t : TypeId} {v : Value} {base : Nat} {e : TypeId} {size n : Nat} {u : Value} {xs : List Value} (h : Boxed W B t v) (hne : t ≠ e ∨ B < base) (hr : W.ownsRow base e size u n xs) : u.ownBlock ≠ some B := by
  intro hk
  rcases hr.2 with ⟨rfl, _⟩ | ⟨g, cap, cur, rfl, hb, hgb, _⟩
  · simp [Value.ownBlock] at hk
  · obtain rfl : g = B := by simpa [Value.ownBlock] using hk
    rw [show W.heap[g]? = _ from h] at hgb
    cases hgb
    rcases hne with hne | hne
    · exact hne rfl
    · omega
theorem LI.set (w : World) (pre : List ByteArray) (W : World) (u : Value) (h : LI w pre W) : LI w pre (W.setCell ⟨w.heap.size + 1, 0, none⟩ u) := by
  obtain ⟨v, hv, hrow⟩ := h.l
  obtain ⟨u0, hu⟩ := h.c
  have hg := grownBy_setCell' W (w.heap.size + 1) u
  exact ⟨⟨v, hv.kept hg (fun e => by injection e with e; omega), hrow.kept hg (.inr (box_ne hu (.inr (by omega)) hrow))⟩, ⟨u, hu.set u⟩, below_set h.b (by omega)⟩
theorem LI.start (w : World) (v : Value) : LI w [] ((w.alloc (.cells #[.slice none 0 0] 37)).alloc (.cells #[v] 9)) := by
  have b1 := Boxed.new w 37 (.slice none 0 0)
  have b2 := Boxed.new (w.alloc (.cells #[.slice none 0 0] 37)) 9 v
  simp only [World.size_alloc] at b2
  exact ⟨⟨_, b1.alloc _, World.ownsRow_nil _ _ _ _⟩, ⟨_, b2⟩, below_alloc (below_alloc (Below.refl _ _) _) _⟩
theorem ownsRow_low {w : World} {base base' : Nat} {e : TypeId} {size n : Nat} {v : Value} {xs : List Value} (h : w.ownsRow base e size v n xs) (hb : base' ≤ base) : w.ownsRow base' e size v n xs := by
  obtain ⟨h1, h2⟩ := h
  refine ⟨h1, ?_⟩
  rcases h2 with h2 | ⟨g, cap, cur, hv, hg, r⟩
  · exact .inl h2
  · exact .inr ⟨g, cap, cur, hv, Nat.le_trans hb hg, r⟩
set_option maxRecDepth 100000 in
set_option maxHeartbeats 8000000 in
theorem lex_Lines.any (s0 : ByteArray) (w : World) (hm : s0.size ≤ 1099511627776) :
    Calls Tryd.prog 17 #[.string s0] w fun e w' => ∃ v0_ : Value, e = .returned v0_ ∧ Kd.R Kd.string 9 w' w.heap.size (fun _ => True) v0_ (linesL (s0.size + 1) s0.data.toList) ∧ Below w.heap.size w w' := by
  obtain ⟨i0, hi, hz0, hz1, hz2⟩ := info_parts (show (Tryd.prog.info? 9).map (fun i => (i.zero, i.size, i.bytes)) = some (some (.string ⟨#[]⟩), 1, 16) by kernel_rfl)
  refine (callsIn_wide (n := 6)).1 ?_
  refine callsIn_of_wp_marks Tryd.func17 rfl trivial ?_ rfl
  simp only [Tryd.ntmps17, List.size_toArray, List.length_cons, List.length_nil, Nat.reduceAdd, Nat.reduceSub, Array.replicate_succ, Array.replicate_zero, List.push_toArray, List.append_toArray, List.nil_append, List.cons_append]
  gi_wp2_with (refine ⟨trivial, ?_⟩; gi_at_call 31; refine (lines_in 5 _ rfl _).mono ?_; rintro e w' ⟨rfl, rfl⟩)
  have hst := LI.start w (.string s0)
  have hbn := Boxed.new (w.alloc (.cells #[.slice none 0 0] 37)) 9 (.string s0)
  obtain ⟨W0, hW0⟩ : ∃ W0, ((w.alloc (.cells #[.slice none 0 0] 37)).alloc (.cells #[.string s0] 9)) = W0 := ⟨_, rfl⟩
  have hsz : W0.heap.size = w.heap.size + 2 := by rw [← hW0]; simp
  simp only [World.size_alloc] at hbn
  rw [hW0] at hst hbn ⊢
  refine rangeFunc_box (w := W0) (Bn := w.heap.size + 1) (encs := encL) (Kp := Keep w.heap.size (w.heap.size + 1)) (S := fun ys => ys = linesL (s0.size + 1) s0.data.toList) (N := (linesL (s0.size + 1) s0.data.toList).length) rfl (by omega) (gf := 41) (lb := #[.pointer (some ⟨w.heap.size + 1, 0, none⟩)]) rfl trivial (enters_of Tryd.func41 (by kernel_rfl) rfl) (by omega)
    ?seq Keep.trans (Keep.book (by omega)) (fun _ => rfl) (LI w) (LI.own w _ (by omega)) (LI.set w) hst
    (fun x => { tmps := #[.string s0, undef, .slice none 0 0, .pointer (some ⟨w.heap.size, 0, none⟩), .string x, .string s0, .func (.func 41) #[] #[.pointer (some ⟨w.heap.size + 1, 0, none⟩)], .string x, undef, undef, undef, undef, undef], defers := [] }) ?assign ?body ?done
  case seq =>
    intro l J W hb hJ hJs hY h0
    refine (lines1_in 5 (by omega) l (w.heap.size + 1) w.heap.size s0 (s0.size + 1) (linesL (s0.size + 1) s0.data.toList).length J (fun _ _ => False) (by omega) (by omega) (Nat.le_refl _) (fun pre x W1 h1 h2 => (hY pre x W1 h1 h2).mono fun e W2 h => .inl h) hJ hJs W ((hb.block _ (by omega)).trans hbn) (by omega) h0 (by have := hb.size; omega)).mono ?_
    rintro e W2 ⟨h1, h2 | ⟨_, _, h⟩⟩
    · exact ⟨h1, h2⟩
    · exact h.elim
  case assign =>
    intro l x W K hK
    unfold encL
    gi_wp2
    exact hK
  case body =>
    rintro l pre x W hI hlen
    obtain ⟨v, hv, hrow⟩ := hI.l
    have e1 := hv.cell
    have f1 := hv.frozen
    have hlen2 : pre.length < 1099511627776 := by
      have h1 := linesL_len (s0.size + 1) s0.data.toList
      have h2 := data_length s0
      omega
    obtain ⟨u, hu⟩ := hI.c
    have hWs : w.heap.size + 2 ≤ W.heap.size := by have := hu.lt; omega
    have hro := Aside0.mk hrow
    clear hrow
    gi_wp2_with (gi_at_builtin; refine wpListIn_append_own _ rfl (.tmp 8) (.tmp 10) 37 rfl (w.heap.size + 2) 9 i0 (.string ⟨#[]⟩) 1 16 Tryd.underlying37 hi hz0 hz1 hz2 rfl (by decide) v pre.length (pre.map fun x => .string x) rfl (hro.out.alloc _) ⟨W.heap.size, 0, none⟩ 1 1 [.string x] rfl rfl ?c1 ?c2 ?c3 ?c4 ?c5 ?_; (case c1 => exact World.news_of_block (heap_alloc_new W _)); (case c2 => intro y hy; simp at hy; subst hy; rfl); (case c3 => unfold maxLen; omega); (case c4 => omega); (case c5 => simp; omega); intro v' w1 hown' hgrow _; have HO := Aside0.mk hown'; have HG := Aside0.mk hgrow; clear hown' hgrow; have hv1 : Boxed w1 w.heap.size 37 v := (hv.alloc _).kept HG.out ((hv.alloc (.cells #[.string x] 9)).not_row (by decide) (hro.out.alloc _)); have hu1 : Boxed w1 (w.heap.size + 1) 9 u := (hu.alloc _).kept HG.out (fun e => box_ne (hu.alloc (.cells #[.string x] 9)) (.inr (by omega)) (hro.out.alloc _) e.symm); obtain ⟨g, cap, rfl⟩ := ownsRow_succ HO.out; have e2 := hv1.cell; have f2 := hv1.frozen; clear e1 f1)
    have hg2 := grownBy_setCell' w1 w.heap.size (.slice (some ⟨g, 0, none⟩) (pre.length + 1) cap)
    have hrw : ∀ k, v.ownBlock = some k → w.heap.size + 2 ≤ k := fun k e => own_base hro.out k e
    refine ⟨?_, ⟨?_, fun o ho _ => ?_⟩, ⟨⟨_, hv1.set _, ?_⟩, ⟨u, hu1.kept hg2 (by intro e; injection e with e; omega)⟩, ?_⟩⟩
    · refine ((KeepsOthers.alloc W _).trans (KeepsOthers.of_grownBy HG.out fun j o ej hj => ?_)).trans (KeepsOthers.setCell _ _ _)
      rcases (hro.out.alloc (.cells #[.string x] 9)).2 with ⟨rfl, _⟩ | ⟨g, cap, cur, rfl, _, hgb, _⟩
      · simp [Value.ownBlock] at ej
      · obtain rfl : g = j := by simpa [Value.ownBlock] using ej
        rw [hgb] at hj; cases hj; rfl
    · exact (((Below.refl w.heap.size W).alloc (by omega) _).grown HG.out (by simp; omega) (fun k e => by have := hrw k e; omega)).setCell (p := ⟨w.heap.size, 0, none⟩) (Nat.le_refl _) _
    · rw [show W.heap[w.heap.size + 1]? = _ from hu] at ho
      cases ho
      exact hu1.kept hg2 (by intro e; injection e with e; omega)
    · simpa using HO.out.kept hg2 (.inr (fun e => by have := own_base HO.out _ e; omega))
    · exact below_set ((below_alloc hI.b _).grown HG.out (by simp; omega) (fun k e => by have := hrw k e; omega)) (Nat.le_refl _)
  case done =>
    rintro D ys W hD hys hI hK
    obtain ⟨v, hv, hrow⟩ := hI.l
    obtain ⟨A1, c1, rfl⟩ := own_slice hrow
    have e1 := hv.cell
    have f1 := hv.frozen
    have hro := Aside0.mk hrow
    have HYS := Aside0.mk hys
    clear hrow hys
    gi_wp2
    refine ⟨by simp, .inl ⟨_, _, rfl, run_takeDeferred hK, ?_⟩⟩
    have hdc : ∀ r, some D = some r → ∃ o : Obj, W.heap[r]? = some o ∧ o.isCells = false := fun r e => by cases e; exact ⟨_, hK, rfl⟩
    have w1 := ownsRow_turn hro.out (grownBy_putObj' W D (.deferred none)) hdc
    refine ⟨.slice A1 ys.length c1, ?_, ⟨.slice A1 ys.length c1, rfl, ?_, ?_⟩⟩
    · simp [results, Tryd.f17, go_sem]
    · rw [← HYS.out]
      refine Kd.R_of_own (ownsRow_low ?_ (Nat.le_add_right _ 2)) (fun _ _ => trivial)
      simpa [encs, List.map_map, Function.comp_def] using w1
    · exact hI.b.trans (belowK_b (w := w) (Nat.le_refl _) W D _ _ (by omega) hK rfl rfl)
end Go.Proofs.YtdjljggdbflohaaDoor.PAll
