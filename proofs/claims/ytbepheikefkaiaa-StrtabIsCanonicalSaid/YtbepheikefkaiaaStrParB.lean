/- Parse of the string table: it answers the texts and their offsets, or the error where the first byte is missing or not zero or a text is empty. Condition: the bytes are fewer than 2^30. -/
import Derived.Test.YtbepheikefkaiaaStrParA
import Derived.Test.YtbepheikefkaiaaStrTwoApp
import Derived.Test.YtbepheikefkaiaaPAllx6
import Derived.Test.YtbepheikefkaiaaStrPure
import Derived.Test.YtbepheikefkaiaaShelf
import Derived.RangeFuncNested
import Derived.RangeFuncBound
import Derived.RangeFuncCalls
import Derived.RangeFuncLeaves
import Derived.Shelf.Abstract
import Derived.Shelf.RegionOpen
import Derived.WalkKit
import Derived.OwnWalkIn
import Derived.TacticsInMore
import Derived.LoopNIn
import Derived.LoopIn
import Derived.RangeFuncBox
import Derived.RangeFuncFrom
set_option linter.unusedVariables false
set_option linter.unusedSimpArgs false
namespace Go.Proofs.Ytbepheikefkaiaa.PAll
open Go.RowKit Go.Shelf Go.Proofs.YtbepheikefkaiaaW.PrintWords Go.Proofs.YtbepheikefkaiaaW.PrintLast Go.Proofs.YtbepheikefkaiaaW.PrintMore
attribute [local go_sem] Oper.semAt_some
/-! ### strtab.Parse: function 16: where the first byte is missing or is not zero -/
set_option maxHeartbeats 4000000 in
set_option maxRecDepth 100000 in
theorem strtab_Parse.early2 (A0 : Option Addr) (c0 : Nat) (l0 : List Int) (w : World) (hr0 : Kd.C (Kd.int .u8) w A0 l0.length l0) (hc0 : l0.length ≤ c0) (h : l0.length = 0 ∨ rd l0 0 ≠ 0) :
    Calls Try.prog 16 #[.slice A0 l0.length c0] w fun e w' => e = .returned (.tuple #[.slice none 0 0, .slice none 0 0, .int .i64 19]) ∧ Below w.heap.size w w' := by
  have hB := below_alloc (below_alloc (below_alloc (Below.refl w.heap.size w) (.cells #[.slice none 0 0] 22)) (.cells #[.slice none 0 0] 26)) (.cells #[.int .i64 19] 27)
  by_cases h0 : l0.length = 0
  · rw [h0]
    go_enter Try.func16, Try.ntmps16
    go_wp2
    refine bodyPost_ret (v := .tuple #[.slice none 0 0, .slice none 0 0, .int .i64 19]) ?hr rfl ?_
    case hr => simp [results, Try.f16, go_sem]
    refine ⟨rfl, ?_⟩
    exact hB
  · have hn : rd l0 0 ≠ 0 := by rcases h with h | h; exact absurd h h0; exact h
    have hb1 : ((rd l0 0) != 0) = true := bne_iff_ne.mpr hn
    have hb2 : ((rd l0 0) == 0) = false := beq_eq_false_iff_ne.mpr hn
    obtain ⟨ad, e, hx⟩ := Kd.at_int hr0 0 (Int.le_refl _) (by omega)
    cases e
    have hpos : 0 < l0.length := by omega
    have e0 : ad.add (Int.toNat 0) = ad := by unfold Addr.add; simp
    rw [e0] at hx
    have hx3 : (((w.alloc (.cells #[.slice none 0 0] 22)).alloc (.cells #[.slice none 0 0] 26)).alloc (.cells #[.int .i64 0] 27)).cell? ad = some (.int .u8 (rd l0 0)) := pw_cell_below (below_alloc (below_alloc (below_alloc (Below.refl w.heap.size w) _) _) _) hx
    clear hr0 h hx
    go_enter Try.func16, Try.ntmps16
    go_wp2
    refine bodyPost_ret (v := .tuple #[.slice none 0 0, .slice none 0 0, .int .i64 19]) ?hr rfl ?_
    case hr => simp [results, Try.f16, go_sem]
    refine ⟨rfl, ?_⟩
    exact hB
/-! ### strtab.Parse: function 16 -/
def its (l : List Int) : List (Int × ByteArray) := items (l.length + 1) l 1
def parseR (l : List Int) : List ByteArray × List Int × Int :=
  if l.length = 0 ∨ rd l 0 ≠ 0 ∨ (its l).any (fun x => x.2.toList.isEmpty) = true then ([], [], 19) else ((its l).map (·.2), (its l).map (·.1), 0)
def ParsePost (w : World) (l : List Int) (e : Ending) (w' : World) : Prop :=
  ∃ v0_ v1_ : Value, e = .returned (.tuple #[v0_, v1_, .int .i64 (parseR l).2.2]) ∧ Kd.R Kd.string 9 w' w.heap.size (fun _ => True) v0_ (parseR l).1 ∧ Kd.R (Kd.int .i64) 3 w' w.heap.size (fun _ => True) v1_ (parseR l).2.1 ∧ Below w.heap.size w w'
section
variable {F : Fence} {n : Nat} {P : Program} {ops : Array Oper} {o : Oper} {a : Act} {Q : Exit → Act → World → Prop} {Kc : Act → World → Prop}
/-- An append of one value inside a drawn region, in a fence. -/
theorem stepIn_append {w : World} (hw : Region.wanted o (yielded ops a.tmps) = true) (s x : Operand) (t : TypeId) (hop : o.op = Op.call { callee := Callee.builtin Builtin.append, args := #[s, x], argTypes := #[t, t] })
    (base : Nat) (e : TypeId) (z : Value) (bytes : Nat) (h1 : P.underlying t = some (.slice e)) (hinfo : (P.info? e).map (fun i => (i.zero, i.size, i.bytes)) = some (some z, 1, bytes)) (h6 : z.cells.size = 1)
    (v : Value) (k : Nat) (xs : List Value) (hs : a.eval s = v) (hown : w.ownsRow base e 1 v k xs) (u : Value) (g : Nat) (hx : a.eval x = .slice (some ⟨g, 0, none⟩) 1 1) (hc : w.cell? ⟨g, 0, none⟩ = some u) (h1c : u.oneCell' = true)
    (b1 : k + 1 ≤ maxLen) (b2 : (k + 1) * bytes ≤ 140737488355328) (b3 : base ≤ w.heap.size)
    (hK : ∀ v' w', w'.ownsRow base e 1 v' (k + 1) (xs ++ [u]) → w.grownBy w' v.ownBlock → Kc (a.put o.dst v') w') :
    if Region.wanted o (yielded ops a.tmps) = true then Oper.wpIn F n P o a w Kc Q else (∀ f, o.about P w a.eval = some f → F.fn f) ∧ Kc (a.put o.dst undef) w := by
  obtain ⟨i, hi, hz0, hz1, hz2⟩ := info_parts hinfo
  rw [if_pos hw]
  have hcc : ∀ j u', [u][j]? = some u' → w.cell? ((⟨g, 0, none⟩ : Addr).add j) = some u' := fun j u' hj => by
    match j, hj with
    | 0, hj => obtain rfl := Option.some.inj hj; rw [add_plain]; exact hc
    | _ + 1, hj => simp at hj
  obtain ⟨v', w', hrun, r1, r2, r3⟩ := run_append_own (P := P) w base t o.type e i z 1 bytes h1 hi hz0 hz1 hz2 h6 (by decide) v k xs hown ⟨g, 0, none⟩ 1 1 [u] rfl hcc (fun y hy => by simp at hy; subst hy; exact h1c) b1 b2 b3
  unfold Oper.wpIn
  refine ⟨?_, ?_⟩
  · simp [Oper.about, hop, resolve, Target.leads, Sem.run_pure]
  · rw [Oper.semAt_plain F _ _ (by rw [hop]; intro c hc'; cases hc')]
    simp [execOp, hop, resolve, invoke, builtin, hs, hx, hrun, Result.andThen]
    exact hK v' w' r1 r2
end
/-- What lies in the boxes behind some rounds. -/
structure PI (w : World) (pre : List (Int × ByteArray)) (W : World) : Prop where
  c2 : Boxed W w.heap.size 22 (.slice none 0 0)
  c3 : Boxed W (w.heap.size + 1) 26 (.slice none 0 0)
  c4 : Boxed W (w.heap.size + 1 + 1) 27 (.int .i64 0)
  l : ∃ v, Boxed W (w.heap.size + 1 + 1 + 1) 22 v ∧ W.ownsRow w.heap.size 9 1 v pre.length (pre.map fun x => .string x.2)
  o : ∃ v, Boxed W (w.heap.size + 1 + 1 + 1 + 1) 26 v ∧ W.ownsRow w.heap.size 3 1 v pre.length (pre.map fun x => .int .i64 x.1)
  c6 : ∃ v, Boxed W (w.heap.size + 1 + 1 + 1 + 1 + 1) 25 v
  good : ∀ x ∈ pre, x.2.toList ≠ []
  b : Below w.heap.size w W
/-- What lies in the boxes where the body has returned. -/
structure PX (w : World) (pre : List (Int × ByteArray)) (W : World) : Prop where
  c2 : Boxed W w.heap.size 22 (.slice none 0 0)
  c3 : Boxed W (w.heap.size + 1) 26 (.slice none 0 0)
  c4 : Boxed W (w.heap.size + 1 + 1) 27 (.int .i64 19)
  bad : ∃ x ∈ pre, x.2.toList = []
  b : Below w.heap.size w W
theorem box_turn {W W' : World} {row : Option Nat} {B : Nat} {t : TypeId} {v : Value} (h : Boxed W B t v) (hg : W.grownBy W' row) (hr : ∀ r, row = some r → ∃ o : Obj, W.heap[r]? = some o ∧ o.isCells = false) : Boxed W' B t v :=
  h.kept hg (fun e => by
    obtain ⟨o, ho, hc⟩ := hr B e.symm
    rw [show W.heap[B]? = _ from h] at ho; cases ho; cases hc)
theorem ownsRow_turn {W W' : World} {row : Option Nat} {base : Nat} {e : TypeId} {size : Nat} {v : Value} {k : Nat} {xs : List Value} (h : W.ownsRow base e size v k xs) (hg : W.grownBy W' row) (hr : ∀ r, row = some r → ∃ o : Obj, W.heap[r]? = some o ∧ o.isCells = false) : W'.ownsRow base e size v k xs := by
  refine h.kept hg ?_
  rcases h.2 with ⟨rfl, _⟩ | ⟨g, cap, cur, rfl, _, hgb, _⟩
  · exact .inl rfl
  · refine .inr fun e' => ?_
    obtain ⟨o, ho, hc⟩ := hr g (by simpa [Value.ownBlock] using e'.symm)
    rw [hgb] at ho; cases ho; cases hc
theorem PI.own (w : World) (B : Nat) (hB : w.heap.size ≤ B) : OwnFrom B (PI w) := fun s W W' row h hg hr => by
  have hr' : ∀ r, row = some r → ∃ o : Obj, W.heap[r]? = some o ∧ o.isCells = false := fun r e => (hr r e).2
  obtain ⟨v, hv, hrow⟩ := h.l
  obtain ⟨u, hu, hrow2⟩ := h.o
  obtain ⟨v6, h6⟩ := h.c6
  exact ⟨box_turn h.c2 hg hr', box_turn h.c3 hg hr', box_turn h.c4 hg hr', ⟨v, box_turn hv hg hr', ownsRow_turn hrow hg hr'⟩, ⟨u, box_turn hu hg hr', ownsRow_turn hrow2 hg hr'⟩, ⟨v6, box_turn h6 hg hr'⟩, h.good, h.b.grown hg h.b.size (fun k e => Nat.le_trans hB (hr k e).1)⟩
theorem PX.own (w : World) (B : Nat) (hB : w.heap.size ≤ B) : OwnFrom B (PX w) := fun s W W' row h hg hr => by
  have hr' : ∀ r, row = some r → ∃ o : Obj, W.heap[r]? = some o ∧ o.isCells = false := fun r e => (hr r e).2
  exact ⟨box_turn h.c2 hg hr', box_turn h.c3 hg hr', box_turn h.c4 hg hr', h.bad, h.b.grown hg h.b.size (fun k e => Nat.le_trans hB (hr k e).1)⟩
theorem PI.start (w : World) (v : Value) : PI w [] ((((((w.alloc (.cells #[.slice none 0 0] 22)).alloc (.cells #[.slice none 0 0] 26)).alloc (.cells #[.int .i64 0] 27)).alloc (.cells #[.slice none 0 0] 22)).alloc (.cells #[.slice none 0 0] 26)).alloc (.cells #[v] 25)) := by
  have b2 := Boxed.new w 22 (.slice none 0 0)
  have b3 := Boxed.new (w.alloc (.cells #[.slice none 0 0] 22)) 26 (.slice none 0 0)
  have b4 := Boxed.new ((w.alloc (.cells #[.slice none 0 0] 22)).alloc (.cells #[.slice none 0 0] 26)) 27 (.int .i64 0)
  have b5 := Boxed.new (((w.alloc (.cells #[.slice none 0 0] 22)).alloc (.cells #[.slice none 0 0] 26)).alloc (.cells #[.int .i64 0] 27)) 22 (.slice none 0 0)
  have b6 := Boxed.new ((((w.alloc (.cells #[.slice none 0 0] 22)).alloc (.cells #[.slice none 0 0] 26)).alloc (.cells #[.int .i64 0] 27)).alloc (.cells #[.slice none 0 0] 22)) 26 (.slice none 0 0)
  have b7 := Boxed.new (((((w.alloc (.cells #[.slice none 0 0] 22)).alloc (.cells #[.slice none 0 0] 26)).alloc (.cells #[.int .i64 0] 27)).alloc (.cells #[.slice none 0 0] 22)).alloc (.cells #[.slice none 0 0] 26)) 25 v
  simp only [World.size_alloc] at b3 b4 b5 b6 b7
  exact ⟨((((b2.alloc _).alloc _).alloc _).alloc _).alloc _, (((b3.alloc _).alloc _).alloc _).alloc _, ((b4.alloc _).alloc _).alloc _, ⟨_, (b5.alloc _).alloc _, World.ownsRow_nil _ _ _ _⟩, ⟨_, b6.alloc _, World.ownsRow_nil _ _ _ _⟩, ⟨_, b7⟩, (fun x hx => by cases hx),
    below_alloc (below_alloc (below_alloc (below_alloc (below_alloc (below_alloc (Below.refl _ _) _) _) _) _) _) _⟩
def noDefer (ops : Array Oper) : Bool := ops.all fun o => match o.op with | .defer _ => false | _ => true
theorem noDefer_spec {ops : Array Oper} (h : noDefer ops = true) (i : Nat) (o : Oper) (ho : ops[i]? = some o) : (match o.op with | .defer _ => false | _ => true) = true := by
  unfold noDefer at h
  rw [Array.all_eq_true_iff_forall_mem] at h
  exact h o (Array.mem_of_getElem? ho)
theorem items_len : ∀ (k : Nat) (l : List Int) (at_ : Nat), (items k l at_).length ≤ l.length - at_ := by
  intro k
  induction k with
  | zero => intro l at_; simp [items]
  | succ k ih =>
    intro l at_
    simp only [items]
    by_cases h : at_ < l.length
    · rw [if_pos h]
      split
      · simp; omega
      · have := ih l (at_ + (getR l at_).1.size + 1)
        simp; omega
    · rw [if_neg h]; simp
theorem its_len (l : List Int) : (its l).length ≤ l.length := Nat.le_trans (items_len _ _ _) (Nat.sub_le _ _)
structure XP (w W : World) (v6 : Value) (W' : World) : Prop where
  ko : KeepsOthers W W'
  bW : Below w.heap.size W W'
  c2 : Boxed W' w.heap.size 22 (.slice none 0 0)
  c3 : Boxed W' (w.heap.size + 1) 26 (.slice none 0 0)
  c4 : Boxed W' (w.heap.size + 1 + 1) 27 (.int .i64 0)
  c6 : Boxed W' (w.heap.size + 1 + 1 + 1 + 1 + 1) 25 v6
theorem XP.turn (w W : World) (v6 : Value) (w1 w2 : World) (row : Option Nat) (h : XP w W v6 w1) (hg : w1.grownBy w2 row) (hr : RowOk w.heap.size (w.heap.size + 1 + 1 + 1) (w.heap.size + 1 + 1 + 1 + 1) w1 row) : XP w W v6 w2 := by
  refine ⟨h.ko.trans (KeepsOthers.of_grownBy hg fun j o e ho => ?_), h.bW.grown hg (Nat.le_of_lt (by have := h.c2.lt; omega)) (fun k e => (hr k e).1), h.c2.kept hg (box_row hr h.c2 (by omega) (by omega) (by decide) (by decide)), h.c3.kept hg (box_row hr h.c3 (by omega) (by omega) (by decide) (by decide)),
    h.c4.kept hg (box_row hr h.c4 (by omega) (by omega) (by decide) (by decide)), h.c6.kept hg (box_row hr h.c6 (by omega) (by omega) (by decide) (by decide))⟩
  obtain ⟨_, cs, t, fr, h2, _⟩ := hr j e
  rw [h2] at ho
  cases ho
  rfl
set_option maxRecDepth 100000 in
set_option maxHeartbeats 8000000 in
theorem strtab_Parse.main (A0 : Option Addr) (c0 : Nat) (l0 : List Int) (w : World) (hr0 : Kd.C (Kd.int .u8) w A0 l0.length l0) (hc0 : l0.length ≤ c0) (hm : l0.length ≤ 1073741824) (hpos : 0 < l0.length) (hz : rd l0 0 = 0) :
    Calls Try.prog 16 #[.slice A0 l0.length c0] w (ParsePost w l0) := by
  have hb1 : ((rd l0 0) != 0) = false := bne_eq_false_iff_eq.mpr hz
  obtain ⟨ad, e, hx⟩ := Kd.at_int hr0 0 (Int.le_refl _) (by omega)
  cases e
  have e0 : ad.add (Int.toNat 0) = ad := by unfold Addr.add; simp
  rw [e0] at hx
  have hx3 : (((w.alloc (.cells #[.slice none 0 0] 22)).alloc (.cells #[.slice none 0 0] 26)).alloc (.cells #[.int .i64 0] 27)).cell? ad = some (.int .u8 (rd l0 0)) := pw_cell_below (below_alloc (below_alloc (below_alloc (Below.refl w.heap.size w) _) _) _) hx
  have hlb : ((l0.length : Int) == 0) = false := beq_eq_false_iff_ne.mpr (by omega)
  have hne : ¬ l0 = [] := by intro h; subst h; simp at hpos
  refine (callsIn_wide (n := 6)).1 ?_
  refine callsIn_of_wp_marks Try.func16 rfl trivial ?_ rfl
  simp only [Try.ntmps16, List.size_toArray, List.length_cons, List.length_nil, Nat.reduceAdd, Nat.reduceSub, Array.replicate_succ, Array.replicate_zero, List.push_toArray, List.append_toArray, List.nil_append, List.cons_append]
  gi_wp2_with (refine ⟨trivial, ?_⟩; gi_at_call 23; refine (texts_in 5 _ rfl _).mono ?_; rintro e w' ⟨rfl, rfl⟩)
  have hst := PI.start w (.slice (some ad) l0.length c0)
  have hbn := Boxed.new (((((w.alloc (.cells #[.slice none 0 0] 22)).alloc (.cells #[.slice none 0 0] 26)).alloc (.cells #[.int .i64 0] 27)).alloc (.cells #[.slice none 0 0] 22)).alloc (.cells #[.slice none 0 0] 26)) 25 (.slice (some ad) l0.length c0)
  obtain ⟨W0, hW0⟩ : ∃ W0, ((((((w.alloc (.cells #[.slice none 0 0] 22)).alloc (.cells #[.slice none 0 0] 26)).alloc (.cells #[.int .i64 0] 27)).alloc (.cells #[.slice none 0 0] 22)).alloc (.cells #[.slice none 0 0] 26)).alloc (.cells #[.slice (some ad) l0.length c0] 25)) = W0 := ⟨_, rfl⟩
  have hsz : W0.heap.size = w.heap.size + 6 := by rw [← hW0]; simp
  simp only [World.size_alloc] at hbn
  rw [hW0] at hst hbn ⊢
  refine wpIn_rangeFunc_ownF (w0 := W0) rfl (by omega) (gf := 27) (lb := #[.pointer (some ⟨w.heap.size + 1 + 1 + 1 + 1 + 1, 0, none⟩)]) rfl trivial (enters_of Try.func27 (by kernel_rfl) rfl)
    (texts_stops 5 (by omega) (w.heap.size + 1 + 1 + 1 + 1 + 1) w.heap.size (some ad) c0 l0 (l0.length + 1) (its l0).length hm hc0 (by omega) (Nat.le_refl _) W0 (by omega) hbn (fun W' hb => Kd.C_below hr0 (hst.b.trans hb)))
    Keep.trans (Keep.book (by omega)) (Below.refl _ _) (fun _ => rfl)
    (PI w) (fun c pre W => c = .ret ∧ PX w pre W) (PI.own w _ (by omega)) (fun c s W W' row h hg hr => ⟨h.1, PX.own w _ (by omega) s W W' row h.2 hg hr⟩) hst
    (fun x => { tmps := #[.slice (some ad) l0.length c0, undef, .pointer (some ⟨w.heap.size, 0, none⟩), .pointer (some ⟨w.heap.size + 1, 0, none⟩), .pointer (some ⟨w.heap.size + 1 + 1, 0, none⟩), .pointer (some ⟨w.heap.size + 1 + 1 + 1, 0, none⟩), .pointer (some ⟨w.heap.size + 1 + 1 + 1 + 1, 0, none⟩), .int .i64 x.1, .string x.2, .slice (some ad) l0.length c0, .int .i64 l0.length, .bool false, .bool false, .slice (some ad) l0.length c0, .pointer (some ad), .int .u8 0, .bool false, .bool false, .slice (some ad) l0.length c0, .func (.func 27) #[] #[.pointer (some ⟨w.heap.size + 1 + 1 + 1 + 1 + 1, 0, none⟩)], .int .i64 x.1, .string x.2, undef, undef, undef, undef, undef, undef, undef, undef, undef, undef, undef, undef], defers := [] }) ?assign ?body ?done ?stop
  case assign =>
    intro l x W K hK
    unfold encI
    gi_wp2
    exact hK
  case body =>
    rintro l pre x W hI hlen
    obtain ⟨v, hv, hrow⟩ := hI.l
    obtain ⟨u, hu, hrow2⟩ := hI.o
    have e2 := hI.c2.cell
    have e3 := hI.c3.cell
    have e4 := hI.c4.cell
    have f2 := hI.c2.frozen
    have f3 := hI.c3.frozen
    have f4 := hI.c4.frozen
    by_cases he : x.2.toList = []
    · gi_wp2
      have g2 := grownBy_setCell' W w.heap.size (.slice none 0 0)
      have g3 := grownBy_setCell' (W.setCell ⟨w.heap.size, 0, none⟩ (.slice none 0 0)) (w.heap.size + 1) (.slice none 0 0)
      have g4 := grownBy_setCell' ((W.setCell ⟨w.heap.size, 0, none⟩ (.slice none 0 0)).setCell ⟨w.heap.size + 1, 0, none⟩ (.slice none 0 0)) (w.heap.size + 1 + 1) (.int .i64 19)
      have k2 := ((hI.c2.set (.slice none 0 0)).kept g3 (fun e => by injection e with e; omega)).kept g4 (fun e => by injection e with e; omega)
      have k3 := ((hI.c3.kept g2 (fun e => by injection e with e; omega)).set (.slice none 0 0)).kept g4 (fun e => by injection e with e; omega)
      have k4 := ((hI.c4.kept g2 (fun e => by injection e with e; omega)).kept g3 (fun e => by injection e with e; omega)).set (.int .i64 19)
      exact ⟨((KeepsOthers.setCell _ _ _).trans (KeepsOthers.setCell _ _ _)).trans (KeepsOthers.setCell _ _ _), rfl, ⟨k2, k3, k4, ⟨x, by simp, he⟩, below_set (below_set (below_set hI.b (Nat.le_refl _)) (by show w.heap.size ≤ w.heap.size + 1; omega)) (by show w.heap.size ≤ w.heap.size + 1 + 1; omega)⟩⟩
    · gi_wp2
      · have hemp : x.2.toList.isEmpty = true := by assumption
        exact absurd (List.isEmpty_iff.1 hemp) he
      · have hmix : Try.prog.follows Departure.mixedOrders = true := by kernel_rfl
        obtain ⟨v6, h6⟩ := hI.c6
        refine wpIn_region_any hmix (wpAnyIn_of ?nolet ?nodefer _ _ _ _ _ ?_)
        case nolet => rintro ⟨_, _, h⟩; exact h
        case nodefer =>
          intro i o ho c hc
          have hh := noDefer_spec (ops := _) (by kernel_rfl) i o ho
          rw [hc] at hh
          cases hh
        refine wpAny_take (i := 1) (v := .string x.2) rfl (by kernel_rfl) (by kernel_rfl) (by kernel_rfl) (fun _ _ _ h => h) (Or.inl ⟨by rfl, fun w => by go_simp⟩) ?_
        refine wpAny_take (i := 5) (v := .int .i64 x.1) rfl (by kernel_rfl) (by kernel_rfl) (by kernel_rfl) (fun _ _ _ h => h) (Or.inl ⟨by rfl, fun w => by go_simp⟩) ?_
        have hne : w.heap.size + 1 + 1 + 1 ≠ w.heap.size + 1 + 1 + 1 + 1 := by omega
        have hk : pre.length + 1 ≤ 1073741825 := by
          have := its_len l0
          omega
        refine core10 (n0 := w.heap.size) (B1 := w.heap.size + 1 + 1 + 1) (B2 := w.heap.size + 1 + 1 + 1 + 1) (X := XP w W v6) (v := v) (u := u) (k := pre.length) (xs := pre.map fun x => .string x.2) (ys := pre.map fun x => .int .i64 x.1) (sx := x.2) (sn := x.1)
          rfl rfl rfl rfl rfl rfl rfl rfl rfl rfl rfl rfl rfl rfl rfl rfl rfl rfl rfl rfl rfl rfl rfl rfl rfl rfl rfl rfl rfl rfl rfl rfl rfl rfl rfl rfl hk hne (by omega) (by omega) (XP.turn w W v6) ?hrdy ?hend ?hQ 8 .z .z undef undef undef undef undef undef _ (by decide) ?inv
        case hrdy => intro s1 s2; cases s1 <;> cases s2 <;> kernel_rfl
        case hend =>
          intro s1 s2 h
          have hh := congrArg List.isEmpty h
          clear h
          revert hh
          cases s1 <;> cases s2 <;> first | (intro _; exact ⟨rfl, rfl⟩) | (intro hh; exact absurd hh (by rw [show List.isEmpty _ = false by kernel_rfl]; decide))
        case hQ =>
          rintro a W' hx hle ⟨v', r1, b1⟩ ⟨u', r2, b2⟩
          refine ⟨hx.ko, ⟨hx.bW, fun o ho _ => ?_⟩, ⟨hx.c2, hx.c3, hx.c4, ⟨v', b1, ?_⟩, ⟨u', b2, ?_⟩, ⟨v6, hx.c6⟩, ?_, hI.b.trans hx.bW⟩⟩
          · rw [show W.heap[w.heap.size + 1 + 1 + 1 + 1 + 1]? = _ from h6] at ho
            cases ho
            exact hx.c6
          · simpa using r1
          · simpa using r2
          · intro y hy
            rcases List.mem_append.1 hy with hy | hy
            · exact hI.good y hy
            · rw [List.mem_singleton.1 hy]; exact he
        case inv =>
          have hd : W.grownBy W.drew none := ⟨rfl, rfl, rfl, Nat.le_refl _, fun _ _ _ => rfl⟩
          have hrw : RowOk w.heap.size (w.heap.size + 1 + 1 + 1) (w.heap.size + 1 + 1 + 1 + 1) W none := fun r e => by cases e
          exact ⟨XP.turn w W v6 _ _ none ⟨KeepsOthers.refl _, Below.refl _ _, hI.c2, hI.c3, hI.c4, h6⟩ hd hrw, hI.b.size, ⟨hv.kept hd (by simp), ownsRow_turn hrow hd (fun r e => by cases e)⟩, ⟨hu.kept hd (by simp), ownsRow_turn hrow2 hd (fun r e => by cases e)⟩⟩
  case done =>
    rintro D ys W hD hys hI hK
    gi_wp2
    obtain ⟨v, hv, hrow⟩ := hI.l
    obtain ⟨u, hu, hrow2⟩ := hI.o
    obtain ⟨A1, n1, c1, rfl⟩ := own_slice10 hrow
    obtain ⟨A2, n2, c2, rfl⟩ := own_slice10 hrow2
    have e2 := hI.c2.cell
    have e3 := hI.c3.cell
    have e4 := hI.c4.cell
    have f2 := hI.c2.frozen
    have f3 := hI.c3.frozen
    have f4 := hI.c4.frozen
    have e5 := hv.cell
    have e6 := hu.cell
    gi_region
    have g2 := grownBy_setCell' W w.heap.size (.slice A1 n1 c1)
    have g3 := grownBy_setCell' (W.setCell ⟨w.heap.size, 0, none⟩ (.slice A1 n1 c1)) (w.heap.size + 1) (.slice A2 n2 c2)
    have g4 := grownBy_setCell' ((W.setCell ⟨w.heap.size, 0, none⟩ (.slice A1 n1 c1)).setCell ⟨w.heap.size + 1, 0, none⟩ (.slice A2 n2 c2)) (w.heap.size + 1 + 1) (.int .i64 0)
    have k2 := ((hI.c2.set (.slice A1 n1 c1)).kept g3 (fun e => by injection e with e; omega)).kept g4 (fun e => by injection e with e; omega)
    have k3 := ((hI.c3.kept g2 (fun e => by injection e with e; omega)).set (.slice A2 n2 c2)).kept g4 (fun e => by injection e with e; omega)
    have k4 := ((hI.c4.kept g2 (fun e => by injection e with e; omega)).kept g3 (fun e => by injection e with e; omega)).set (.int .i64 0)
    have hro1 := ((hrow.kept g2 (.inr (fun e => box_off hI.c2 (by decide) hrow e.symm))).kept g3 (.inr (fun e => box_off hI.c3 (by decide) hrow e.symm))).kept g4 (.inr (fun e => box_off hI.c4 (by decide) hrow e.symm))
    have hro2 := ((hrow2.kept g2 (.inr (fun e => box_off hI.c2 (by decide) hrow2 e.symm))).kept g3 (.inr (fun e => box_off hI.c3 (by decide) hrow2 e.symm))).kept g4 (.inr (fun e => box_off hI.c4 (by decide) hrow2 e.symm))
    have hb := below_set (below_set (below_set hI.b (Nat.le_refl _) (j := 0) (v := .slice A1 n1 c1)) (show w.heap.size ≤ w.heap.size + 1 by omega) (j := 0) (v := .slice A2 n2 c2)) (show w.heap.size ≤ w.heap.size + 1 + 1 by omega) (j := 0) (v := .int .i64 0)
    have hko := ((KeepsOthers.setCell W ⟨w.heap.size, 0, none⟩ (.slice A1 n1 c1)).trans (KeepsOthers.setCell _ ⟨w.heap.size + 1, 0, none⟩ (.slice A2 n2 c2))).trans (KeepsOthers.setCell _ ⟨w.heap.size + 1 + 1, 0, none⟩ (.int .i64 0))
    have hK2 := hko.same _ _ hK rfl
    obtain ⟨W2, hW2⟩ : ∃ W2, ((W.setCell ⟨w.heap.size, 0, none⟩ (.slice A1 n1 c1)).setCell ⟨w.heap.size + 1, 0, none⟩ (.slice A2 n2 c2)).setCell ⟨w.heap.size + 1 + 1, 0, none⟩ (.int .i64 0) = W2 := ⟨_, rfl⟩
    rw [hW2] at k2 k3 k4 hro1 hro2 hb hko hK2 ⊢
    have hK3 : W2.drew.heap[D]? = some (Obj.deferred (some [])) := hK2
    have hd : W2.grownBy W2.drew none := ⟨rfl, rfl, rfl, Nat.le_refl _, fun _ _ _ => rfl⟩
    have hgD := grownBy_putObj' W2.drew D (.deferred none)
    have hdc : ∀ r, some D = some r → ∃ o : Obj, W2.drew.heap[r]? = some o ∧ o.isCells = false := fun r e => by cases e; exact ⟨_, hK3, rfl⟩
    gi_wp2
    refine ⟨by simp, .inl ⟨_, _, rfl, run_takeDeferred hK3, ?_⟩⟩
    have q2 := (box_turn (box_turn k2 hd (fun r e => by cases e)) hgD hdc).cell
    have q3 := (box_turn (box_turn k3 hd (fun r e => by cases e)) hgD hdc).cell
    have q4 := (box_turn (box_turn k4 hd (fun r e => by cases e)) hgD hdc).cell
    have w1 := ownsRow_turn (ownsRow_turn hro1 hd (fun r e => by cases e)) hgD hdc
    have w2 := ownsRow_turn (ownsRow_turn hro2 hd (fun r e => by cases e)) hgD hdc
    have hp : parseR l0 = (ys.map (·.2), ys.map (·.1), 0) := by
      unfold parseR
      have hy : its l0 = ys := hys.symm
      rw [hy, if_neg]
      rintro (h | h | h)
      · omega
      · exact h hz
      · obtain ⟨x, hx1, hx2⟩ := List.any_eq_true.1 h
        exact hI.good x hx1 (List.isEmpty_iff.1 hx2)
    refine ⟨.tuple #[.slice A1 n1 c1, .slice A2 n2 c2, .int .i64 0], ?_, ⟨.slice A1 n1 c1, .slice A2 n2 c2, by rw [hp], ?_, ?_, ?_⟩⟩
    · simp [results, Try.f16, go_sem, q2, q3, q4]
    · rw [hp]
      refine Kd.R_of_own ?_ (fun _ _ => trivial)
      simpa [encs, List.map_map, Function.comp_def] using w1
    · rw [hp]
      refine Kd.R_of_own ?_ (fun _ _ => trivial)
      simpa [encs, List.map_map, Function.comp_def] using w2
    · exact (below_drew hb).trans (belowK_b (w := w) (Nat.le_refl _) W2.drew D _ _ (by omega) hK3 rfl rfl)
  case stop =>
    rintro D c pre W hD hpre ⟨rfl, hX⟩ hK
    gi_wp2
    refine ⟨by simp, .inl ⟨_, _, rfl, run_takeDeferred hK, ?_⟩⟩
    have hc2 := cell_kept hX.c2.cell (grownBy_putObj' _ D (.deferred none)) (fun r e => by cases e; exact ⟨_, hK, rfl⟩)
    have hc3 := cell_kept hX.c3.cell (grownBy_putObj' _ D (.deferred none)) (fun r e => by cases e; exact ⟨_, hK, rfl⟩)
    have hc4 := cell_kept hX.c4.cell (grownBy_putObj' _ D (.deferred none)) (fun r e => by cases e; exact ⟨_, hK, rfl⟩)
    have hp : parseR l0 = ([], [], 19) := by
      obtain ⟨x, hx1, hx2⟩ := hX.bad
      unfold parseR
      rw [if_pos (.inr (.inr (List.any_eq_true.2 ⟨x, hpre.subset hx1, by rw [hx2]; rfl⟩)))]
    refine ⟨.tuple #[.slice none 0 0, .slice none 0 0, .int .i64 19], ?_, ⟨.slice none 0 0, .slice none 0 0, by rw [hp], by rw [hp]; exact Kd.R_nil _ _ _ _ _, by rw [hp]; exact Kd.R_nil _ _ _ _ _, hX.b.trans (belowK_b (w := w) (Nat.le_refl _) W D _ _ (by omega) hK rfl rfl)⟩⟩
    simp [results, Try.f16, go_sem, hc2, hc3, hc4]
theorem strtab_Parse.any (A0 : Option Addr) (c0 : Nat) (l0 : List Int) (w : World) (hr0 : Kd.C (Kd.int .u8) w A0 l0.length l0) (hc0 : l0.length ≤ c0) (hm : l0.length ≤ 1073741824) :
    Calls Try.prog 16 #[.slice A0 l0.length c0] w (ParsePost w l0) := by
  by_cases h : l0.length = 0 ∨ rd l0 0 ≠ 0
  · refine (strtab_Parse.early2 A0 c0 l0 w hr0 hc0 h).mono ?_
    rintro e w' ⟨rfl, hb⟩
    have hp : parseR l0 = ([], [], 19) := by
      unfold parseR
      rw [if_pos (by rcases h with h | h; exact .inl h; exact .inr (.inl h))]
    exact ⟨_, _, by rw [hp], by rw [hp]; exact Kd.R_nil _ _ _ _ _, by rw [hp]; exact Kd.R_nil _ _ _ _ _, hb⟩
  · refine strtab_Parse.main A0 c0 l0 w hr0 hc0 hm ?_ ?_
    · refine Nat.pos_of_ne_zero fun h' => h (.inl h')
    · exact Decidable.byContradiction fun h' => h (.inr h')
end Go.Proofs.Ytbepheikefkaiaa.PAll
