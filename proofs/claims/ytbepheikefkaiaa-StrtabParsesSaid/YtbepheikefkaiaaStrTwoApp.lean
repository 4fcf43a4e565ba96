/- Two lists in two boxes, one value appended to each in one region that draws its order: whatever the order, both lists have grown by their value. Conditions: the two boxes differ, their lists lie apart. -/
import Derived.Test.YtbepheikefkaiaaProg
import Derived.Test.YtbepheikefkaiaaWWords
import Derived.Test.YtbepheikefkaiaaWLast
import Derived.Test.YtbepheikefkaiaaWMore
import Derived.RangeFuncBox
import Derived.RangeFuncNested
import Derived.WalkKit
import Derived.Tactics
import Derived.OrdersIn
set_option linter.unusedVariables false
set_option linter.unusedSimpArgs false
namespace Go.Proofs.Ytbepheikefkaiaa.PAll
open Go.RowKit Go.Proofs.YtbepheikefkaiaaW.PrintWords Go.Proofs.YtbepheikefkaiaaW.PrintLast Go.Proofs.YtbepheikefkaiaaW.PrintMore
section
variable {ops : Array Oper} {o : Oper} {a : Act} {w : World} {Q : Exit → Act → World → Prop} {K : Act → World → Prop} {i : Nat}
theorem wpOp_plain {P : Program} (hi : ops[i]? = some o) (hg : o.guard = none) (h : Oper.wp P o a w K Q) : wpOp P ops Q i K a w := by
  unfold wpOp
  simp only [hi]
  rw [if_pos (by simp [Region.wanted, hg])]
  exact .inl h
theorem wp_load22 {x : Operand} {ad : Addr} {v : Value} (hop : o.op = .load 22 x) (hx : a.eval x = .pointer (some ad)) (hc : w.cell? ad = some v) (hK : K (a.put o.dst v) w) : Oper.wp Try.prog o a w K Q := by
  unfold Oper.wp execOp
  simp only [hop, hx]
  go_simp
  simpa [hc, Act.put] using hK
theorem wp_store22 {x y : Operand} {B : Nat} {A : Option Addr} {n c : Nat} {q : Value} {t : TypeId} (hop : o.op = .store 22 x y) (hd : o.dst = none) (hx : a.eval x = .pointer (some ⟨B, 0, none⟩)) (hy : a.eval y = .slice A n c) (hb : Boxed w B t q) (hK : K a (w.setCell ⟨B, 0, none⟩ (.slice A n c))) : Oper.wp Try.prog o a w K Q := by
  have hc := hb.cell
  have hf := hb.frozen
  unfold Oper.wp execOp
  simp only [hop, hx, hy]
  go_simp
  simpa [hc, hf, hd] using hK
theorem wp_build22 {x : Operand} (s : ByteArray) (hop : o.op = .buildSlice 22 1 #[(0, x)]) (hx : a.eval x = (.string s)) (hK : K (a.put o.dst (.slice (some ⟨w.heap.size, 0, none⟩) 1 1)) (w.alloc (.cells #[.string s] 9))) : Oper.wp Try.prog o a w K Q := by
  unfold Oper.wp execOp
  simp only [hop]
  simp only [List.map_toArray, List.map_cons, List.map_nil, hx]
  go_simp
  simpa [Act.put] using hK
theorem wp_load26 {x : Operand} {ad : Addr} {v : Value} (hop : o.op = .load 26 x) (hx : a.eval x = .pointer (some ad)) (hc : w.cell? ad = some v) (hK : K (a.put o.dst v) w) : Oper.wp Try.prog o a w K Q := by
  unfold Oper.wp execOp
  simp only [hop, hx]
  go_simp
  simpa [hc, Act.put] using hK
theorem wp_store26 {x y : Operand} {B : Nat} {A : Option Addr} {n c : Nat} {q : Value} {t : TypeId} (hop : o.op = .store 26 x y) (hd : o.dst = none) (hx : a.eval x = .pointer (some ⟨B, 0, none⟩)) (hy : a.eval y = .slice A n c) (hb : Boxed w B t q) (hK : K a (w.setCell ⟨B, 0, none⟩ (.slice A n c))) : Oper.wp Try.prog o a w K Q := by
  have hc := hb.cell
  have hf := hb.frozen
  unfold Oper.wp execOp
  simp only [hop, hx, hy]
  go_simp
  simpa [hc, hf, hd] using hK
theorem wp_build26 {x : Operand} (s : Int) (hop : o.op = .buildSlice 26 1 #[(0, x)]) (hx : a.eval x = (.int .i64 s)) (hK : K (a.put o.dst (.slice (some ⟨w.heap.size, 0, none⟩) 1 1)) (w.alloc (.cells #[.int .i64 s] 3))) : Oper.wp Try.prog o a w K Q := by
  unfold Oper.wp execOp
  simp only [hop]
  simp only [List.map_toArray, List.map_cons, List.map_nil, hx]
  go_simp
  simpa [Act.put] using hK
theorem wp_append {P : Program} {s x : Operand} {t e : TypeId} {z : Value} {bytes base : Nat} (hop : o.op = Op.call { callee := Callee.builtin Builtin.append, args := #[s, x], argTypes := #[t, t] })
    (h1 : P.underlying t = some (.slice e)) (hinfo : (P.info? e).map (fun i => (i.zero, i.size, i.bytes)) = some (some z, 1, bytes)) (h6 : z.cells.size = 1)
    (v : Value) (k : Nat) (xs : List Value) (hs : a.eval s = v) (hown : w.ownsRow base e 1 v k xs) (u : Value) (g : Nat) (hx : a.eval x = .slice (some ⟨g, 0, none⟩) 1 1) (hc : w.cell? ⟨g, 0, none⟩ = some u) (h1c : u.oneCell' = true)
    (b1 : k + 1 ≤ maxLen) (b2 : (k + 1) * bytes ≤ 140737488355328) (b3 : base ≤ w.heap.size)
    (hK : ∀ v' w', w'.ownsRow base e 1 v' (k + 1) (xs ++ [u]) → w.grownBy w' v.ownBlock → K (a.put o.dst v') w') : Oper.wp P o a w K Q := by
  obtain ⟨i, hi, hz0, hz1, hz2⟩ := info_parts hinfo
  have hcc : ∀ j u', [u][j]? = some u' → w.cell? ((⟨g, 0, none⟩ : Addr).add j) = some u' := fun j u' hj => by
    match j, hj with
    | 0, hj => obtain rfl := Option.some.inj hj; rw [add_plain]; exact hc
    | _ + 1, hj => simp at hj
  obtain ⟨v', w', hrun, r1, r2, r3⟩ := run_append_own (P := P) w base t o.type e i z 1 bytes h1 hi hz0 hz1 hz2 h6 (by decide) v k xs hown ⟨g, 0, none⟩ 1 1 [u] rfl hcc (fun y hy => by simp at hy; subst hy; exact h1c) b1 b2 b3
  unfold Oper.wp execOp
  simp [hop, resolve, invoke, builtin, hs, hx, hrun, Result.andThen]
  exact hK v' w' r1 r2
end
/-! ### Two lists in two boxes, one value appended to each, in a region that draws its order -/
/-- What a step of the other list may turn. -/
def Away (w1 : World) (Bx : Nat) (e : TypeId) (row : Option Nat) : Prop := ∀ r, row = some r → r ≠ Bx ∧ ∃ cs t fr, w1.heap[r]? = some (.cells cs t fr) ∧ t ≠ e
inductive St | z | l | b | lb | ap | st
def Ch (Bx : Nat) (t e : TypeId) (n0 : Nat) (v : Value) (k : Nat) (xs : List Value) (u : Value) (w' : World) : St → Value → Value → Value → Prop
  | .z, _, _, _ => Boxed w' Bx t v ∧ w'.ownsRow n0 e 1 v k xs
  | .l, tl, _, _ => tl = v ∧ Boxed w' Bx t v ∧ w'.ownsRow n0 e 1 v k xs
  | .b, _, tb, _ => (∃ g, tb = .slice (some ⟨g, 0, none⟩) 1 1 ∧ Boxed w' g e u) ∧ Boxed w' Bx t v ∧ w'.ownsRow n0 e 1 v k xs
  | .lb, tl, tb, _ => tl = v ∧ (∃ g, tb = .slice (some ⟨g, 0, none⟩) 1 1 ∧ Boxed w' g e u) ∧ Boxed w' Bx t v ∧ w'.ownsRow n0 e 1 v k xs
  | .ap, _, _, ta => w'.ownsRow n0 e 1 ta (k + 1) (xs ++ [u]) ∧ Boxed w' Bx t v
  | .st, _, _, _ => ∃ v', w'.ownsRow n0 e 1 v' (k + 1) (xs ++ [u]) ∧ Boxed w' Bx t v'
theorem Away.box {w1 w2 : World} {Bx : Nat} {e t : TypeId} {row : Option Nat} {v : Value} (ha : Away w1 Bx e row) (hg : w1.grownBy w2 row) (h : Boxed w1 Bx t v) : Boxed w2 Bx t v :=
  h.kept hg (fun e' => (ha Bx e'.symm).1 rfl)
theorem Away.cell {w1 w2 : World} {Bx g : Nat} {e : TypeId} {row : Option Nat} {v : Value} (ha : Away w1 Bx e row) (hg : w1.grownBy w2 row) (h : Boxed w1 g e v) : Boxed w2 g e v :=
  h.kept hg (fun e' => by
    obtain ⟨_, cs, t, fr, h2, h3⟩ := ha g e'.symm
    rw [show w1.heap[g]? = _ from h] at h2
    cases h2
    exact h3 rfl)
theorem Away.row {w1 w2 : World} {Bx : Nat} {e : TypeId} {row : Option Nat} {n0 k : Nat} {v : Value} {xs : List Value} (ha : Away w1 Bx e row) (hg : w1.grownBy w2 row) (h : w1.ownsRow n0 e 1 v k xs) : w2.ownsRow n0 e 1 v k xs := by
  refine h.kept hg ?_
  rcases h.2 with ⟨rfl, _⟩ | ⟨g, cap, cur, rfl, _, hgb, _⟩
  · exact .inl rfl
  · refine .inr fun e' => ?_
    obtain ⟨_, cs, t, fr, h2, h3⟩ := ha g (by simpa [Value.ownBlock] using e'.symm)
    rw [hgb] at h2
    cases h2
    exact h3 rfl
theorem Ch.away {w1 w2 : World} {Bx : Nat} {t e : TypeId} {row : Option Nat} {n0 k : Nat} {v u : Value} {xs : List Value} {s : St} {tl tb ta : Value} (ha : Away w1 Bx e row) (hg : w1.grownBy w2 row)
    (h : Ch Bx t e n0 v k xs u w1 s tl tb ta) : Ch Bx t e n0 v k xs u w2 s tl tb ta := by
  cases s
  · exact ⟨ha.box hg h.1, ha.row hg h.2⟩
  · exact ⟨h.1, ha.box hg h.2.1, ha.row hg h.2.2⟩
  · obtain ⟨⟨g, h1, h2⟩, h5, h6⟩ := h
    exact ⟨⟨g, h1, ha.cell hg h2⟩, ha.box hg h5, ha.row hg h6⟩
  · obtain ⟨h0, ⟨g, h1, h2⟩, h5, h6⟩ := h
    exact ⟨h0, ⟨g, h1, ha.cell hg h2⟩, ha.box hg h5, ha.row hg h6⟩
  · exact ⟨ha.row hg h.1, ha.box hg h.2⟩
  · obtain ⟨v', h1, h2⟩ := h
    exact ⟨v', ha.row hg h1, ha.box hg h2⟩
def act (p0 p1 p2 p3 p4 p5 p6 p7 p8 p9 p10 p11 p12 p13 p14 p15 p16 p17 p18 p19 p20 p21 p22 p23 t24 t25 t26 t27 t28 t29 t30 t31 q32 q33 : Value) : Act := { tmps := #[p0, p1, p2, p3, p4, p5, p6, p7, p8, p9, p10, p11, p12, p13, p14, p15, p16, p17, p18, p19, p20, p21, p22, p23, t24, t25, t26, t27, t28, t29, t30, t31, q32, q33], defers := [] }
def St.mu : St → Nat
  | .z => 4 | .l => 3 | .b => 3 | .lb => 2 | .ap => 1 | .st => 0
def St.has : St → Nat → Bool
  | .z, _ => false | .l, 0 => true | .l, _ => false | .b, 1 => true | .b, _ => false | .lb, 0 => true | .lb, 1 => true | .lb, _ => false | .ap, 3 => false | .ap, _ => true | .st, _ => true
def St.next : St → Nat → Option St
  | .z, 0 => some .l | .z, 1 => some .b | .l, 1 => some .lb | .b, 0 => some .lb | .lb, 2 => some .ap | .ap, 3 => some .st | _, _ => none
def L10 (s1 s2 : St) : Array Bool := #[s1.has 0, true, s1.has 1, s1.has 2, s2.has 0, true, s2.has 1, s2.has 2, s1.has 3, s2.has 3]
/-- Which operation stands where: its list and its step. -/
def at10 : Nat → Option (Bool × Nat)
  | 0 => some (true, 0) | 2 => some (true, 1) | 3 => some (true, 2) | 8 => some (true, 3) | 4 => some (false, 0) | 6 => some (false, 1) | 7 => some (false, 2) | 9 => some (false, 3) | _ => none
def num1 (k : Nat) : Nat := [0, 2, 3, 8].getD k 0
def num2 (k : Nat) : Nat := [4, 6, 7, 9].getD k 0
def ok10 (s1 s2 : St) (i : Nat) : Bool := match at10 i with
  | some (true, k) => (s1.next k).isSome
  | some (false, k) => (s2.next k).isSome
  | none => false
theorem at10_num {i k : Nat} (b : Bool) (h : at10 i = some (b, k)) : i = if b then num1 k else num2 k := by
  unfold at10 at h
  split at h <;> first | (cases h; rfl) | cases h
theorem L10_next1 {s1 s2 s' : St} {k : Nat} (h : s1.next k = some s') : (L10 s1 s2).setIfInBounds (num1 k) true = L10 s' s2 := by
  unfold St.next at h
  split at h <;> cases h <;> rfl
theorem L10_next2 {s1 s2 s' : St} {k : Nat} (h : s2.next k = some s') : (L10 s1 s2).setIfInBounds (num2 k) true = L10 s1 s' := by
  unfold St.next at h
  split at h <;> cases h <;> rfl
theorem mu_next {s s' : St} {k : Nat} (h : s.next k = some s') : s.mu = s'.mu + 1 := by
  unfold St.next at h
  split at h <;> cases h <;> rfl
/-- What an operation of the region may turn. -/
def RowOk (n0 B1 B2 : Nat) (w1 : World) (row : Option Nat) : Prop := ∀ r, row = some r → n0 ≤ r ∧ ∃ cs t fr, w1.heap[r]? = some (.cells cs t fr) ∧ (r = B1 ∨ r = B2 ∨ t = 9 ∨ t = 3)
theorem own_row10 {w : World} {base e : Nat} {v : Value} {k : Nat} {xs : List Value} (h : w.ownsRow base e 1 v k xs) : ∀ r, v.ownBlock = some r → base ≤ r ∧ ∃ cs fr, w.heap[r]? = some (.cells cs e fr) := by
  intro r hr
  rcases h.2 with ⟨rfl, _⟩ | ⟨g, cap, cur, rfl, h1, hgb, _⟩
  · cases hr
  · simp only [Value.ownBlock, Option.some.injEq] at hr
    obtain rfl : g = r := by simpa [Value.ownBlock] using hr
    exact ⟨h1, _, _, hgb⟩
theorem own_slice10 {w : World} {base e : Nat} {v : Value} {k : Nat} {xs : List Value} (h : w.ownsRow base e 1 v k xs) : ∃ A n c, v = .slice A n c := by
  rcases h.2 with ⟨rfl, _⟩ | ⟨g, cap, cur, rfl, _⟩
  · exact ⟨_, _, _, rfl⟩
  · exact ⟨_, _, _, rfl⟩
theorem box_row {w1 : World} {n0 B1 B2 B : Nat} {row : Option Nat} {t : TypeId} {v : Value} (hr : RowOk n0 B1 B2 w1 row) (hb : Boxed w1 B t v) (h1 : B ≠ B1) (h2 : B ≠ B2) (h9 : t ≠ 9) (h3 : t ≠ 3) : some B ≠ row := fun e => by
  obtain ⟨_, cs, t', fr, h, h'⟩ := hr B e.symm
  rw [show w1.heap[B]? = _ from hb] at h
  cases h
  rcases h' with h' | h' | h' | h'
  · exact h1 h'
  · exact h2 h'
  · exact h9 h'
  · exact h3 h'
theorem box_off {w : World} {B t e : Nat} {q : Value} {base : Nat} {v : Value} {k : Nat} {xs : List Value} (hb : Boxed w B t q) (hte : t ≠ e) (h : w.ownsRow base e 1 v k xs) : some B ≠ v.ownBlock := fun e' => by
  obtain ⟨_, cs, fr, h2⟩ := own_row10 h B e'.symm
  rw [show w.heap[B]? = _ from hb] at h2
  cases h2
  exact hte rfl
structure Inv10 (n0 B1 B2 : Nat) (X : World → Prop) (v u : Value) (k : Nat) (xs ys : List Value) (sx : ByteArray) (sn : Int) (s1 s2 : St) (t24 t26 t27 t28 t30 t31 : Value) (w : World) : Prop where
  x : X w
  le : n0 ≤ w.heap.size
  c1 : Ch B1 22 9 n0 v k xs (.string sx) w s1 t24 t26 t27
  c2 : Ch B2 26 3 n0 u k ys (.int .i64 sn) w s2 t28 t30 t31
section
variable {n0 B1 B2 : Nat} {X : World → Prop} {v u : Value} {k : Nat} {xs ys : List Value} {sx : ByteArray} {sn : Int} {s1 s2 : St} {t24 t26 t27 t28 t30 t31 : Value} {w : World}
theorem Ch.anybox {Bx : Nat} {t e : TypeId} {q : Value} {s : St} {tl tb ta : Value} {xs : List Value} (h : Ch Bx t e n0 v k xs q w s tl tb ta) : ∃ q', Boxed w Bx t q' := by
  cases s
  · exact ⟨_, h.1⟩
  · exact ⟨_, h.2.1⟩
  · exact ⟨_, h.2.1⟩
  · exact ⟨_, h.2.2.1⟩
  · exact ⟨_, h.2⟩
  · obtain ⟨v', _, h⟩ := h; exact ⟨_, h⟩
section
variable {p0 p1 p2 p3 p4 p5 p6 p7 p8 p9 p10 p11 p12 p13 p14 p15 p16 p17 p18 p19 p20 p21 p22 p23 t25 t29 q32 q33 : Value} {ops : Array Oper} {o : Oper} {Q : Exit → Act → World → Prop}
theorem load1 {s s' : St} (hs : s.next 0 = some s') (hop : o.op = .load 22 (.tmp 5)) (hd : o.dst = some 24) (hp : p5 = .pointer (some ⟨B1, 0, none⟩)) (h : Inv10 n0 B1 B2 X v u k xs ys sx sn s s2 t24 t26 t27 t28 t30 t31 w) :
    Oper.wp Try.prog o (act p0 p1 p2 p3 p4 p5 p6 p7 p8 p9 p10 p11 p12 p13 p14 p15 p16 p17 p18 p19 p20 p21 p22 p23 t24 t25 t26 t27 t28 t29 t30 t31 q32 q33) w (fun a' w' => ∃ t24 t26 t27 t28 t30 t31, a' = act p0 p1 p2 p3 p4 p5 p6 p7 p8 p9 p10 p11 p12 p13 p14 p15 p16 p17 p18 p19 p20 p21 p22 p23 t24 t25 t26 t27 t28 t29 t30 t31 q32 q33 ∧ Inv10 n0 B1 B2 X v u k xs ys sx sn s' s2 t24 t26 t27 t28 t30 t31 w') Q := by
  subst hp
  have hc : w.cell? ⟨B1, 0, none⟩ = some v := by
    have h_ := h.c1
    cases s <;> simp [St.next] at hs <;> subst hs
    · exact h_.1.cell
    · exact h_.2.1.cell
  refine wp_load22 hop rfl hc ?_
  rw [hd]
  refine ⟨v, t26, t27, t28, t30, t31, rfl, h.x, h.le, ?_, h.c2⟩
  have h_ := h.c1
  cases s <;> simp [St.next] at hs <;> subst hs
  · exact ⟨rfl, h_⟩
  · exact ⟨rfl, h_⟩
theorem build1 {s s' : St} (hs : s.next 1 = some s') (hop : o.op = .buildSlice 22 1 #[(0, .tmp 25)]) (hd : o.dst = some 26) (hp : t25 = (.string sx)) (hne : B1 ≠ B2) (hn1 : n0 ≤ B1) (hn2 : n0 ≤ B2) (hX : ∀ w1 w2 row, X w1 → w1.grownBy w2 row → RowOk n0 B1 B2 w1 row → X w2) (h : Inv10 n0 B1 B2 X v u k xs ys sx sn s s2 t24 t26 t27 t28 t30 t31 w) :
    Oper.wp Try.prog o (act p0 p1 p2 p3 p4 p5 p6 p7 p8 p9 p10 p11 p12 p13 p14 p15 p16 p17 p18 p19 p20 p21 p22 p23 t24 t25 t26 t27 t28 t29 t30 t31 q32 q33) w (fun a' w' => ∃ t24 t26 t27 t28 t30 t31, a' = act p0 p1 p2 p3 p4 p5 p6 p7 p8 p9 p10 p11 p12 p13 p14 p15 p16 p17 p18 p19 p20 p21 p22 p23 t24 t25 t26 t27 t28 t29 t30 t31 q32 q33 ∧ Inv10 n0 B1 B2 X v u k xs ys sx sn s' s2 t24 t26 t27 t28 t30 t31 w') Q := by
  subst hp
  refine wp_build22 (s := sx) hop rfl ?_
  rw [hd]
  have hg := World.grownBy_alloc w (.cells #[.string sx] 9) none
  refine ⟨t24, .slice (some ⟨w.heap.size, 0, none⟩) 1 1, t27, t28, t30, t31, rfl, hX _ _ none h.x hg (fun r e => by cases e), by simp; exact Nat.le_succ_of_le h.le, ?_, h.c2.away (e := 3) (row := none) (fun r e => by cases e) hg⟩
  have h_ := h.c1.away (e := 9) (row := none) (fun r e => by cases e) hg
  have hb := Boxed.new w 9 (.string sx)
  cases s <;> simp [St.next] at hs <;> subst hs
  · exact ⟨⟨_, rfl, hb⟩, h_⟩
  · exact ⟨h_.1, ⟨_, rfl, hb⟩, h_.2⟩
theorem app1 {s s' : St} (hs : s.next 2 = some s') (hop : o.op = Op.call { callee := Callee.builtin Builtin.append, args := #[.tmp 24, .tmp 26], argTypes := #[22, 22] }) (hd : o.dst = some 27) (hk : k + 1 ≤ 1073741825) (hne : B1 ≠ B2) (hn1 : n0 ≤ B1) (hn2 : n0 ≤ B2) (hX : ∀ w1 w2 row, X w1 → w1.grownBy w2 row → RowOk n0 B1 B2 w1 row → X w2) (h : Inv10 n0 B1 B2 X v u k xs ys sx sn s s2 t24 t26 t27 t28 t30 t31 w) :
    Oper.wp Try.prog o (act p0 p1 p2 p3 p4 p5 p6 p7 p8 p9 p10 p11 p12 p13 p14 p15 p16 p17 p18 p19 p20 p21 p22 p23 t24 t25 t26 t27 t28 t29 t30 t31 q32 q33) w (fun a' w' => ∃ t24 t26 t27 t28 t30 t31, a' = act p0 p1 p2 p3 p4 p5 p6 p7 p8 p9 p10 p11 p12 p13 p14 p15 p16 p17 p18 p19 p20 p21 p22 p23 t24 t25 t26 t27 t28 t29 t30 t31 q32 q33 ∧ Inv10 n0 B1 B2 X v u k xs ys sx sn s' s2 t24 t26 t27 t28 t30 t31 w') Q := by
  have h_ := h.c1
  cases s <;> simp [St.next] at hs <;> subst hs
  obtain ⟨rfl, ⟨g, rfl, hb⟩, hbx, hrow⟩ := h_
  refine wp_append (z := .string ⟨#[]⟩) (bytes := 16) hop (by kernel_rfl) (by kernel_rfl) (by rfl) t24 k xs rfl hrow (.string sx) g rfl hb.cell rfl (by simp only [maxLen]; omega) (by omega) h.le ?_
  intro v' w' hrow' hg
  rw [hd]
  have hro := own_row10 hrow
  have haw : Away w B2 3 t24.ownBlock := fun r hr => by
    obtain ⟨_, cs, fr, h2⟩ := hro r hr
    obtain ⟨q, hq⟩ := h.c2.anybox
    refine ⟨fun e' => ?_, cs, _, fr, h2, by decide⟩
    rw [e', show w.heap[B2]? = _ from hq] at h2
    cases h2
  refine ⟨t24, _, v', t28, t30, t31, rfl, hX _ _ _ h.x hg (fun r hr => ?_), Nat.le_trans h.le hg.size, ?_, h.c2.away haw hg⟩
  · obtain ⟨h1, cs, fr, h2⟩ := hro r hr
    exact ⟨h1, cs, _, fr, h2, by simp⟩
  exact ⟨hrow', hbx.kept hg (box_off hbx (by decide) hrow)⟩
theorem store1 {s s' : St} (hs : s.next 3 = some s') (hop : o.op = .store 22 (.tmp 5) (.tmp 27)) (hd : o.dst = none) (hp : p5 = .pointer (some ⟨B1, 0, none⟩)) (hne : B1 ≠ B2) (hn1 : n0 ≤ B1) (hn2 : n0 ≤ B2) (hX : ∀ w1 w2 row, X w1 → w1.grownBy w2 row → RowOk n0 B1 B2 w1 row → X w2) (h : Inv10 n0 B1 B2 X v u k xs ys sx sn s s2 t24 t26 t27 t28 t30 t31 w) :
    Oper.wp Try.prog o (act p0 p1 p2 p3 p4 p5 p6 p7 p8 p9 p10 p11 p12 p13 p14 p15 p16 p17 p18 p19 p20 p21 p22 p23 t24 t25 t26 t27 t28 t29 t30 t31 q32 q33) w (fun a' w' => ∃ t24 t26 t27 t28 t30 t31, a' = act p0 p1 p2 p3 p4 p5 p6 p7 p8 p9 p10 p11 p12 p13 p14 p15 p16 p17 p18 p19 p20 p21 p22 p23 t24 t25 t26 t27 t28 t29 t30 t31 q32 q33 ∧ Inv10 n0 B1 B2 X v u k xs ys sx sn s' s2 t24 t26 t27 t28 t30 t31 w') Q := by
  subst hp
  have h_ := h.c1
  cases s <;> simp [St.next] at hs <;> subst hs
  obtain ⟨hrow, hbx⟩ := h_
  obtain ⟨A_, n_, c_, rfl⟩ := own_slice10 hrow
  refine wp_store22 hop hd rfl rfl hbx ?_
  have hg := grownBy_setCell' w B1 (.slice A_ n_ c_)
  have haw : Away w B2 3 (some B1) := fun r hr => by
    cases hr
    exact ⟨hne, _, _, _, hbx, by decide⟩
  refine ⟨t24, t26, _, t28, t30, t31, rfl, hX _ _ _ h.x hg (fun r hr => ?_), Nat.le_trans h.le hg.size, ?_, h.c2.away haw hg⟩
  · cases hr
    exact ⟨hn1, _, _, _, hbx, .inl rfl⟩
  refine ⟨_, hrow.kept hg ?_, hbx.set _⟩
  exact .inr (fun e => box_off hbx (by decide) hrow e.symm)
end
section
variable {p0 p1 p2 p3 p4 p5 p6 p7 p8 p9 p10 p11 p12 p13 p14 p15 p16 p17 p18 p19 p20 p21 p22 p23 t25 t29 q32 q33 : Value} {ops : Array Oper} {o : Oper} {Q : Exit → Act → World → Prop}
theorem load2 {s s' : St} (hs : s.next 0 = some s') (hop : o.op = .load 26 (.tmp 6)) (hd : o.dst = some 28) (hp : p6 = .pointer (some ⟨B2, 0, none⟩)) (h : Inv10 n0 B1 B2 X v u k xs ys sx sn s1 s t24 t26 t27 t28 t30 t31 w) :
    Oper.wp Try.prog o (act p0 p1 p2 p3 p4 p5 p6 p7 p8 p9 p10 p11 p12 p13 p14 p15 p16 p17 p18 p19 p20 p21 p22 p23 t24 t25 t26 t27 t28 t29 t30 t31 q32 q33) w (fun a' w' => ∃ t24 t26 t27 t28 t30 t31, a' = act p0 p1 p2 p3 p4 p5 p6 p7 p8 p9 p10 p11 p12 p13 p14 p15 p16 p17 p18 p19 p20 p21 p22 p23 t24 t25 t26 t27 t28 t29 t30 t31 q32 q33 ∧ Inv10 n0 B1 B2 X v u k xs ys sx sn s1 s' t24 t26 t27 t28 t30 t31 w') Q := by
  subst hp
  have hc : w.cell? ⟨B2, 0, none⟩ = some u := by
    have h_ := h.c2
    cases s <;> simp [St.next] at hs <;> subst hs
    · exact h_.1.cell
    · exact h_.2.1.cell
  refine wp_load26 hop rfl hc ?_
  rw [hd]
  refine ⟨t24, t26, t27, u, t30, t31, rfl, h.x, h.le, h.c1, ?_⟩
  have h_ := h.c2
  cases s <;> simp [St.next] at hs <;> subst hs
  · exact ⟨rfl, h_⟩
  · exact ⟨rfl, h_⟩
theorem build2 {s s' : St} (hs : s.next 1 = some s') (hop : o.op = .buildSlice 26 1 #[(0, .tmp 29)]) (hd : o.dst = some 30) (hp : t29 = (.int .i64 sn)) (hne : B1 ≠ B2) (hn1 : n0 ≤ B1) (hn2 : n0 ≤ B2) (hX : ∀ w1 w2 row, X w1 → w1.grownBy w2 row → RowOk n0 B1 B2 w1 row → X w2) (h : Inv10 n0 B1 B2 X v u k xs ys sx sn s1 s t24 t26 t27 t28 t30 t31 w) :
    Oper.wp Try.prog o (act p0 p1 p2 p3 p4 p5 p6 p7 p8 p9 p10 p11 p12 p13 p14 p15 p16 p17 p18 p19 p20 p21 p22 p23 t24 t25 t26 t27 t28 t29 t30 t31 q32 q33) w (fun a' w' => ∃ t24 t26 t27 t28 t30 t31, a' = act p0 p1 p2 p3 p4 p5 p6 p7 p8 p9 p10 p11 p12 p13 p14 p15 p16 p17 p18 p19 p20 p21 p22 p23 t24 t25 t26 t27 t28 t29 t30 t31 q32 q33 ∧ Inv10 n0 B1 B2 X v u k xs ys sx sn s1 s' t24 t26 t27 t28 t30 t31 w') Q := by
  subst hp
  refine wp_build26 (s := sn) hop rfl ?_
  rw [hd]
  have hg := World.grownBy_alloc w (.cells #[.int .i64 sn] 3) none
  refine ⟨t24, t26, t27, t28, .slice (some ⟨w.heap.size, 0, none⟩) 1 1, t31, rfl, hX _ _ none h.x hg (fun r e => by cases e), by simp; exact Nat.le_succ_of_le h.le, h.c1.away (e := 9) (row := none) (fun r e => by cases e) hg, ?_⟩
  have h_ := h.c2.away (e := 3) (row := none) (fun r e => by cases e) hg
  have hb := Boxed.new w 3 (.int .i64 sn)
  cases s <;> simp [St.next] at hs <;> subst hs
  · exact ⟨⟨_, rfl, hb⟩, h_⟩
  · exact ⟨h_.1, ⟨_, rfl, hb⟩, h_.2⟩
theorem app2 {s s' : St} (hs : s.next 2 = some s') (hop : o.op = Op.call { callee := Callee.builtin Builtin.append, args := #[.tmp 28, .tmp 30], argTypes := #[26, 26] }) (hd : o.dst = some 31) (hk : k + 1 ≤ 1073741825) (hne : B1 ≠ B2) (hn1 : n0 ≤ B1) (hn2 : n0 ≤ B2) (hX : ∀ w1 w2 row, X w1 → w1.grownBy w2 row → RowOk n0 B1 B2 w1 row → X w2) (h : Inv10 n0 B1 B2 X v u k xs ys sx sn s1 s t24 t26 t27 t28 t30 t31 w) :
    Oper.wp Try.prog o (act p0 p1 p2 p3 p4 p5 p6 p7 p8 p9 p10 p11 p12 p13 p14 p15 p16 p17 p18 p19 p20 p21 p22 p23 t24 t25 t26 t27 t28 t29 t30 t31 q32 q33) w (fun a' w' => ∃ t24 t26 t27 t28 t30 t31, a' = act p0 p1 p2 p3 p4 p5 p6 p7 p8 p9 p10 p11 p12 p13 p14 p15 p16 p17 p18 p19 p20 p21 p22 p23 t24 t25 t26 t27 t28 t29 t30 t31 q32 q33 ∧ Inv10 n0 B1 B2 X v u k xs ys sx sn s1 s' t24 t26 t27 t28 t30 t31 w') Q := by
  have h_ := h.c2
  cases s <;> simp [St.next] at hs <;> subst hs
  obtain ⟨rfl, ⟨g, rfl, hb⟩, hbx, hrow⟩ := h_
  refine wp_append (z := .int .i64 0) (bytes := 8) hop (by kernel_rfl) (by kernel_rfl) (by rfl) t28 k ys rfl hrow (.int .i64 sn) g rfl hb.cell rfl (by simp only [maxLen]; omega) (by omega) h.le ?_
  intro v' w' hrow' hg
  rw [hd]
  have hro := own_row10 hrow
  have haw : Away w B1 9 t28.ownBlock := fun r hr => by
    obtain ⟨_, cs, fr, h2⟩ := hro r hr
    obtain ⟨q, hq⟩ := h.c1.anybox
    refine ⟨fun e' => ?_, cs, _, fr, h2, by decide⟩
    rw [e', show w.heap[B1]? = _ from hq] at h2
    cases h2
  refine ⟨t24, t26, t27, t28, _, v', rfl, hX _ _ _ h.x hg (fun r hr => ?_), Nat.le_trans h.le hg.size, h.c1.away haw hg, ?_⟩
  · obtain ⟨h1, cs, fr, h2⟩ := hro r hr
    exact ⟨h1, cs, _, fr, h2, by simp⟩
  exact ⟨hrow', hbx.kept hg (box_off hbx (by decide) hrow)⟩
theorem store2 {s s' : St} (hs : s.next 3 = some s') (hop : o.op = .store 26 (.tmp 6) (.tmp 31)) (hd : o.dst = none) (hp : p6 = .pointer (some ⟨B2, 0, none⟩)) (hne : B1 ≠ B2) (hn1 : n0 ≤ B1) (hn2 : n0 ≤ B2) (hX : ∀ w1 w2 row, X w1 → w1.grownBy w2 row → RowOk n0 B1 B2 w1 row → X w2) (h : Inv10 n0 B1 B2 X v u k xs ys sx sn s1 s t24 t26 t27 t28 t30 t31 w) :
    Oper.wp Try.prog o (act p0 p1 p2 p3 p4 p5 p6 p7 p8 p9 p10 p11 p12 p13 p14 p15 p16 p17 p18 p19 p20 p21 p22 p23 t24 t25 t26 t27 t28 t29 t30 t31 q32 q33) w (fun a' w' => ∃ t24 t26 t27 t28 t30 t31, a' = act p0 p1 p2 p3 p4 p5 p6 p7 p8 p9 p10 p11 p12 p13 p14 p15 p16 p17 p18 p19 p20 p21 p22 p23 t24 t25 t26 t27 t28 t29 t30 t31 q32 q33 ∧ Inv10 n0 B1 B2 X v u k xs ys sx sn s1 s' t24 t26 t27 t28 t30 t31 w') Q := by
  subst hp
  have h_ := h.c2
  cases s <;> simp [St.next] at hs <;> subst hs
  obtain ⟨hrow, hbx⟩ := h_
  obtain ⟨A_, n_, c_, rfl⟩ := own_slice10 hrow
  refine wp_store26 hop hd rfl rfl hbx ?_
  have hg := grownBy_setCell' w B2 (.slice A_ n_ c_)
  have haw : Away w B1 9 (some B2) := fun r hr => by
    cases hr
    exact ⟨hne.symm, _, _, _, hbx, by decide⟩
  refine ⟨t24, t26, t27, t28, t30, _, rfl, hX _ _ _ h.x hg (fun r hr => ?_), Nat.le_trans h.le hg.size, h.c1.away haw hg, ?_⟩
  · cases hr
    exact ⟨hn2, _, _, _, hbx, .inr (.inl rfl)⟩
  refine ⟨_, hrow.kept hg ?_, hbx.set _⟩
  exact .inr (fun e => box_off hbx (by decide) hrow e.symm)
end
section
variable {p0 p1 p2 p3 p4 p5 p6 p7 p8 p9 p10 p11 p12 p13 p14 p15 p16 p17 p18 p19 p20 p21 p22 p23 t25 t29 q32 q33 : Value} {ops : Array Oper} {o0 o2 o3 o4 o6 o7 o8 o9 : Oper} {Q : Exit → Act → World → Prop}
theorem core10 (h0 : ops[0]? = some o0) (h2 : ops[2]? = some o2) (h3 : ops[3]? = some o3) (h4 : ops[4]? = some o4) (h6 : ops[6]? = some o6) (h7 : ops[7]? = some o7) (h8 : ops[8]? = some o8) (h9 : ops[9]? = some o9)
    (g0 : o0.guard = none) (g2 : o2.guard = none) (g3 : o3.guard = none) (g4 : o4.guard = none) (g6 : o6.guard = none) (g7 : o7.guard = none) (g8 : o8.guard = none) (g9 : o9.guard = none)
    (e0 : o0.op = .load 22 (.tmp 5)) (e2 : o2.op = .buildSlice 22 1 #[(0, .tmp 25)]) (e3 : o3.op = Op.call { callee := Callee.builtin Builtin.append, args := #[.tmp 24, .tmp 26], argTypes := #[22, 22] }) (e8 : o8.op = .store 22 (.tmp 5) (.tmp 27))
    (e4 : o4.op = .load 26 (.tmp 6)) (e6 : o6.op = .buildSlice 26 1 #[(0, .tmp 29)]) (e7 : o7.op = Op.call { callee := Callee.builtin Builtin.append, args := #[.tmp 28, .tmp 30], argTypes := #[26, 26] }) (e9 : o9.op = .store 26 (.tmp 6) (.tmp 31))
    (d0 : o0.dst = some 24) (d2 : o2.dst = some 26) (d3 : o3.dst = some 27) (d8 : o8.dst = none) (d4 : o4.dst = some 28) (d6 : o6.dst = some 30) (d7 : o7.dst = some 31) (d9 : o9.dst = none)
    (hp1 : p5 = .pointer (some ⟨B1, 0, none⟩)) (hp2 : p6 = .pointer (some ⟨B2, 0, none⟩)) (hs1 : t25 = .string sx) (hs2 : t29 = .int .i64 sn) (hk : k + 1 ≤ 1073741825)
    (hne : B1 ≠ B2) (hn1 : n0 ≤ B1) (hn2 : n0 ≤ B2) (hX : ∀ w1 w2 row, X w1 → w1.grownBy w2 row → RowOk n0 B1 B2 w1 row → X w2)
    (hrdy : ∀ s1 s2, (Region.ready .any ops (L10 s1 s2)).all (ok10 s1 s2) = true) (hend : ∀ s1 s2, Region.ready .any ops (L10 s1 s2) = [] → s1 = .st ∧ s2 = .st)
    (hQ : ∀ (a : Act) (w : World), X w → n0 ≤ w.heap.size → (∃ v', w.ownsRow n0 9 1 v' (k + 1) (xs ++ [.string sx]) ∧ Boxed w B1 22 v') → (∃ v', w.ownsRow n0 3 1 v' (k + 1) (ys ++ [.int .i64 sn]) ∧ Boxed w B2 26 v') → Q .normal a w) :
    ∀ (fuel : Nat) (s1 s2 : St) (t24 t26 t27 t28 t30 t31 : Value) (w : World), s1.mu + s2.mu ≤ fuel → Inv10 n0 B1 B2 X v u k xs ys sx sn s1 s2 t24 t26 t27 t28 t30 t31 w →
      wpAny Try.prog .any ops Q fuel (L10 s1 s2) (act p0 p1 p2 p3 p4 p5 p6 p7 p8 p9 p10 p11 p12 p13 p14 p15 p16 p17 p18 p19 p20 p21 p22 p23 t24 t25 t26 t27 t28 t29 t30 t31 q32 q33) w := by
  have hfin : ∀ (s1 s2 : St) (t24 t26 t27 t28 t30 t31 : Value) (a : Act) (w : World), Inv10 n0 B1 B2 X v u k xs ys sx sn s1 s2 t24 t26 t27 t28 t30 t31 w → Region.ready .any ops (L10 s1 s2) = [] → Q .normal a w := by
    intro s1 s2 t24 t26 t27 t28 t30 t31 a w h hr
    obtain ⟨rfl, rfl⟩ := hend s1 s2 hr
    exact hQ a w h.x h.le h.c1 h.c2
  have hsome : ∀ (s : St) (k : Nat), (s.next k).isSome = true → s.mu ≠ 0 := fun s k h => by
    obtain ⟨s', h⟩ := Option.isSome_iff_exists.1 h
    have := mu_next h
    omega
  intro fuel
  induction fuel with
  | zero =>
    intro s1 s2 t24 t26 t27 t28 t30 t31 w hf h
    have hr : Region.ready .any ops (L10 s1 s2) = [] := by
      cases hl : Region.ready .any ops (L10 s1 s2) with
      | nil => rfl
      | cons i l =>
        have h1 := hrdy s1 s2
        rw [hl, List.all_cons, Bool.and_eq_true] at h1
        have h2 := h1.1
        unfold ok10 at h2
        split at h2
        · exact absurd h2 (fun hh => hsome _ _ hh (by omega))
        · exact absurd h2 (fun hh => hsome _ _ hh (by omega))
        · cases h2
    exact ⟨hr, hfin s1 s2 _ _ _ _ _ _ _ w h hr⟩
  | succ fuel ih =>
    intro s1 s2 t24 t26 t27 t28 t30 t31 w hf h
    refine ⟨hfin s1 s2 _ _ _ _ _ _ _ w h, fun i hi => ?_⟩
    have hok := List.all_eq_true.1 (hrdy s1 s2) i hi
    unfold ok10 at hok
    split at hok
    · rename_i j hat
      obtain ⟨s', hs⟩ := Option.isSome_iff_exists.1 hok
      have hi := at10_num true hat
      simp only [if_true] at hi
      subst hi
      rw [L10_next1 hs]
      have hm := mu_next hs
      have hw : ∀ a' w', (∃ t24 t26 t27 t28 t30 t31, a' = act p0 p1 p2 p3 p4 p5 p6 p7 p8 p9 p10 p11 p12 p13 p14 p15 p16 p17 p18 p19 p20 p21 p22 p23 t24 t25 t26 t27 t28 t29 t30 t31 q32 q33 ∧ Inv10 n0 B1 B2 X v u k xs ys sx sn s' s2 t24 t26 t27 t28 t30 t31 w') → wpAny Try.prog .any ops Q fuel (L10 s' s2) a' w' := by
        rintro a' w' ⟨_, _, _, _, _, _, rfl, hi⟩
        exact ih s' s2 _ _ _ _ _ _ w' (by omega) hi
      refine wpOp_mono hw ?_
      match j, hs with
      | 0, hs => exact wpOp_plain h0 g0 (load1 hs e0 d0 hp1 h)
      | 1, hs => exact wpOp_plain h2 g2 (build1 hs e2 d2 hs1 hne hn1 hn2 hX h)
      | 2, hs => exact wpOp_plain h3 g3 (app1 hs e3 d3 hk hne hn1 hn2 hX h)
      | 3, hs => exact wpOp_plain h8 g8 (store1 hs e8 d8 hp1 hne hn1 hn2 hX h)
      | _ + 4, hs => cases s1 <;> simp [St.next] at hs
    · rename_i j hat
      obtain ⟨s', hs⟩ := Option.isSome_iff_exists.1 hok
      have hi := at10_num false hat
      simp only [Bool.false_eq_true, if_false] at hi
      subst hi
      rw [L10_next2 hs]
      have hm := mu_next hs
      have hw : ∀ a' w', (∃ t24 t26 t27 t28 t30 t31, a' = act p0 p1 p2 p3 p4 p5 p6 p7 p8 p9 p10 p11 p12 p13 p14 p15 p16 p17 p18 p19 p20 p21 p22 p23 t24 t25 t26 t27 t28 t29 t30 t31 q32 q33 ∧ Inv10 n0 B1 B2 X v u k xs ys sx sn s1 s' t24 t26 t27 t28 t30 t31 w') → wpAny Try.prog .any ops Q fuel (L10 s1 s') a' w' := by
        rintro a' w' ⟨_, _, _, _, _, _, rfl, hi⟩
        exact ih s1 s' _ _ _ _ _ _ w' (by omega) hi
      refine wpOp_mono hw ?_
      match j, hs with
      | 0, hs => exact wpOp_plain h4 g4 (load2 hs e4 d4 hp2 h)
      | 1, hs => exact wpOp_plain h6 g6 (build2 hs e6 d6 hs2 hne hn1 hn2 hX h)
      | 2, hs => exact wpOp_plain h7 g7 (app2 hs e7 d7 hk hne hn1 hn2 hX h)
      | 3, hs => exact wpOp_plain h9 g9 (store2 hs e9 d9 hp2 hne hn1 hn2 hX h)
      | _ + 4, hs => cases s2 <;> simp [St.next] at hs
    · cases hok
end
end
end Go.Proofs.Ytbepheikefkaiaa.PAll
