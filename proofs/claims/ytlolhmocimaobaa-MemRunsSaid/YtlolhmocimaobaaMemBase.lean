/- Memory in regions: what lies in the heap; what an operation leaves as it was. -/
import Derived.Test.YtlolhmocimaobaaProg
import Derived.Test.YtlolhmocimaobaaWWords
import Derived.Test.YtlolhmocimaobaaWLast
import Derived.Test.YtlolhmocimaobaaWMore
import Derived.WalkKit
import Derived.OwnWalk
import Derived.Outline
import Derived.Deep.QuietTactic
import Derived.BigQuiet
import Derived.WalkSpells
import Derived.RangeFuncBox
import Derived.Lib.SliceRun
set_option linter.unusedVariables false
set_option linter.unusedSimpArgs false
namespace Go.Proofs.Ytlolhmocimaobaa.PAll
open Go.RowKit Go.Proofs.YtlolhmocimaobaaW.PrintWords Go.Proofs.YtlolhmocimaobaaW.PrintLast Go.Proofs.YtlolhmocimaobaaW.PrintMore
/-! ### worlds -/
/-- Nothing that lay there has turned but what is owned. -/
structure Out (own : Nat → Prop) (X X' : World) : Prop where
  os : X'.os = X.os
  tape : X'.tape = X.tape
  output : X'.output = X.output
  size : X.heap.size ≤ X'.heap.size
  block : ∀ k, k < X.heap.size → ¬ own k → X'.heap[k]? = X.heap[k]?
theorem Out.refl (own : Nat → Prop) (X : World) : Out own X X := ⟨rfl, rfl, rfl, Nat.le_refl _, fun _ _ _ => rfl⟩
theorem Out.trans {own own' : Nat → Prop} {X Y Z : World} (h : Out own X Y) (k : Out own' Y Z) (ho : ∀ i, i < X.heap.size → own' i → own i) : Out own X Z :=
  ⟨k.os.trans h.os, k.tape.trans h.tape, k.output.trans h.output, Nat.le_trans h.size k.size, fun i hi hn => (k.block i (Nat.lt_of_lt_of_le hi h.size) (fun h' => hn (ho i hi h'))).trans (h.block i hi hn)⟩
theorem Out.mono {own own' : Nat → Prop} {X Y : World} (h : Out own X Y) (ho : ∀ i, i < X.heap.size → own i → own' i) : Out own' X Y :=
  ⟨h.os, h.tape, h.output, h.size, fun i hi hn => h.block i hi (fun h' => hn (ho i hi h'))⟩
theorem below_out {X X' : World} (h : Below X.heap.size X X') (own : Nat → Prop) : Out own X X' := ⟨h.os, h.tape, h.output, h.size, fun k hk _ => h.block k hk⟩
theorem Out.below {own : Nat → Prop} {X X' : World} (h : Out own X X') {B : Nat} (hB : B ≤ X.heap.size) (ho : ∀ k, own k → B ≤ k) : Below B X X' :=
  ⟨h.os, h.tape, h.output, h.size, fun k hk => h.block k (by omega) (fun h' => by have := ho k h'; omega)⟩
theorem grown_out {X X' : World} {row : Option Nat} (h : X.grownBy X' row) : Out (fun k => row = some k) X X' := ⟨h.os, h.tape, h.output, h.size, fun k hk hn => h.block k hk (fun e => hn e.symm)⟩
theorem set_out (X : World) (b o : Nat) (v : Value) : Out (fun k => k = b) X (X.setCell ⟨b, o, none⟩ v) := ⟨rfl, rfl, rfl, by simp [World.setCell], fun k _ hn => Below.heap_setCell _ _ _ _ hn⟩
/-- What is owned, and whatever is new. -/
def orNew (own : Nat → Prop) (X : World) : Nat → Prop := fun k => own k ∨ X.heap.size ≤ k
/-! ### rows of the call's own -/
theorem row_keep {X X' : World} {B e size n : Nat} {v : Value} {xs : List Value} (h : X.ownsRow B e size v n xs) (hk : ∀ k, v.ownBlock = some k → X'.heap[k]? = X.heap[k]?) : X'.ownsRow B e size v n xs := by
  obtain ⟨h1, h2⟩ := h
  refine ⟨h1, ?_⟩
  rcases h2 with h2 | ⟨g, cap, cur, rfl, hg, hh, r⟩
  · exact .inl h2
  · exact .inr ⟨g, cap, cur, rfl, hg, (hk g rfl).trans hh, r⟩
theorem row_cell {X : World} {B e n : Nat} {v : Value} {xs : List Value} (h : X.ownsRow B e 1 v n xs) {i : Nat} {u : Value} (hi : xs[i]? = some u) : ∃ g cap, v = .slice (some ⟨g, 0, none⟩) n cap ∧ X.cell? ⟨g, i, none⟩ = some u ∧ X.frozen? ⟨g, i, none⟩ = false ∧ n ≤ cap ∧ cap ≤ maxLen ∧ B ≤ g := by
  have hl := h.1
  have hlt := (List.getElem?_eq_some_iff.1 hi).1
  rcases h.2 with ⟨_, h0⟩ | ⟨g, cap, cur, rfl, hg, hh, h3, h4, h5, h6⟩
  · omega
  · refine ⟨g, cap, rfl, ?_, by simp [World.frozen?, hh], h3, h4, hg⟩
    have := h.cells (g := g) rfl i u hi
    rwa [add_plain] at this
def ptr (b : Nat) : Value := .pointer (some ⟨b, 0, none⟩)
/-! ### regions -/
structure Reg where
  base : Int
  data : List Int
/-- Region r lies in block p.1, its bytes in block p.2. -/
structure RegAt (X : World) (B : Nat) (own : Nat → Prop) (p : Nat × Nat) (r : Reg) : Prop where
  o1 : own p.1
  o2 : own p.2
  b1 : B ≤ p.1
  lies : ∃ cap, X.heap[p.1]? = some (.cells #[.int .u64 r.base, .slice (some ⟨p.2, 0, none⟩) r.data.length cap] 58 (0, 0)) ∧ X.ownsRow B 5 1 (.slice (some ⟨p.2, 0, none⟩) r.data.length cap) r.data.length (nums .u8 r.data)
def memBlock (v : Value) : Obj := .cells #[v, .func (.func 21) #[] #[]] 64 (0, 0)
/-- The memory in block m: its list lies in v, the regions at the places ps. -/
structure MemIn (X : World) (B : Nat) (own : Nat → Prop) (m : Nat) (L : List Reg) (v : Value) (ps : List (Nat × Nat)) : Prop where
  blk : X.heap[m]? = some (memBlock v)
  om : own m
  bm : B ≤ m
  row : X.ownsRow B 56 1 v L.length (ps.map fun p => ptr p.1)
  orow : ∀ k, v.ownBlock = some k → own k
  len : ps.length = L.length
  reg : ∀ (i : Nat) (p : Nat × Nat) (r : Reg), ps[i]? = some p → L[i]? = some r → RegAt X B own p r
  nd : (ps.map (·.2)).Nodup
def MemAt (X : World) (B : Nat) (own : Nat → Prop) (m : Nat) (L : List Reg) : Prop := ∃ v ps, MemIn X B own m L v ps
theorem RegAt.mono {X : World} {B : Nat} {own own' : Nat → Prop} {p : Nat × Nat} {r : Reg} (h : RegAt X B own p r) (ho : own p.1 → own' p.1) (ho2 : own p.2 → own' p.2) : RegAt X B own' p r := ⟨ho h.o1, ho2 h.o2, h.b1, h.lies⟩
theorem RegAt.keep {X X' : World} {B : Nat} {own : Nat → Prop} {p : Nat × Nat} {r : Reg} (h : RegAt X B own p r) (h1 : X'.heap[p.1]? = X.heap[p.1]?) (h2 : X'.heap[p.2]? = X.heap[p.2]?) : RegAt X' B own p r := by
  obtain ⟨cap, hb, hr⟩ := h.lies
  exact ⟨h.o1, h.o2, h.b1, cap, h1.trans hb, row_keep hr (fun k hk => by cases hk; exact h2)⟩
theorem RegAt.lt {X : World} {B : Nat} {own : Nat → Prop} {p : Nat × Nat} {r : Reg} (h : RegAt X B own p r) : p.1 < X.heap.size ∧ p.2 < X.heap.size := by
  obtain ⟨cap, hb, hr⟩ := h.lies
  exact ⟨(Array.getElem?_eq_some_iff.1 hb).1, own_lt hr _ rfl⟩
theorem MemIn.keep {X X' : World} {B : Nat} {own : Nat → Prop} {m : Nat} {L : List Reg} {v : Value} {ps : List (Nat × Nat)} (h : MemIn X B own m L v ps) (hk : ∀ k, k < X.heap.size → own k → X'.heap[k]? = X.heap[k]?) : MemIn X' B own m L v ps :=
  ⟨(hk m (Array.getElem?_eq_some_iff.1 h.blk).1 h.om).trans h.blk, h.om, h.bm, row_keep h.row (fun k hk' => hk k (own_lt h.row k hk') (h.orow k hk')), h.orow, h.len,
    fun i p r hp hr => by have g := h.reg i p r hp hr; exact g.keep (hk _ g.lt.1 g.o1) (hk _ g.lt.2 g.o2), h.nd⟩
theorem MemIn.mono {X : World} {B : Nat} {own own' : Nat → Prop} {m : Nat} {L : List Reg} {v : Value} {ps : List (Nat × Nat)} (h : MemIn X B own m L v ps) (ho : ∀ k, k < X.heap.size → own k → own' k) : MemIn X B own' m L v ps :=
  ⟨h.blk, ho m (Array.getElem?_eq_some_iff.1 h.blk).1 h.om, h.bm, h.row, fun k hk => ho k (own_lt h.row k hk) (h.orow k hk), h.len, fun i p r hp hr => by have g := h.reg i p r hp hr; exact g.mono (ho _ g.lt.1) (ho _ g.lt.2), h.nd⟩
theorem MemAt.keep {X X' : World} {B : Nat} {own : Nat → Prop} {m : Nat} {L : List Reg} (h : MemAt X B own m L) (hk : ∀ k, k < X.heap.size → own k → X'.heap[k]? = X.heap[k]?) : MemAt X' B own m L := by
  obtain ⟨v, ps, h⟩ := h
  exact ⟨v, ps, h.keep hk⟩
theorem MemAt.mono {X : World} {B : Nat} {own own' : Nat → Prop} {m : Nat} {L : List Reg} (h : MemAt X B own m L) (ho : ∀ k, k < X.heap.size → own k → own' k) : MemAt X B own' m L := by
  obtain ⟨v, ps, h⟩ := h
  exact ⟨v, ps, h.mono ho⟩
theorem MemAt.below {X X' : World} {B : Nat} {own : Nat → Prop} {m : Nat} {L : List Reg} (h : MemAt X B own m L) (hb : Below X.heap.size X X') : MemAt X' B own m L := h.keep fun k hk _ => hb.block k hk
theorem MemIn.below {X X' : World} {B : Nat} {own : Nat → Prop} {m : Nat} {L : List Reg} {v : Value} {ps : List (Nat × Nat)} (h : MemIn X B own m L v ps) (hb : Below X.heap.size X X') : MemIn X' B own m L v ps := h.keep fun k hk _ => hb.block k hk
theorem MemAt.bound {X : World} {B : Nat} {own : Nat → Prop} {m : Nat} {L : List Reg} (h : MemAt X B own m L) : MemAt X B (fun k => own k ∧ k < X.heap.size) m L := h.mono fun k hk ho => ⟨ho, hk⟩
/-- Something else is written. -/
theorem MemAt.out {X X' : World} {B : Nat} {own own' : Nat → Prop} {m : Nat} {L : List Reg} (h : MemAt X B own m L) (ho : Out own' X X') (hd : ∀ k, k < X.heap.size → own k → ¬ own' k) : MemAt X' B own m L := h.keep fun k hk hk' => ho.block k hk (hd k hk hk')
/-! ### the regions' order -/
/-- The regions lie in the order of their addresses, apart from each other. -/
structure Inv (L : List Reg) : Prop where
  pos : ∀ r ∈ L, 0 < r.data.length
  lo : ∀ r ∈ L, 0 ≤ r.base
  hi : ∀ r ∈ L, r.base + r.data.length ≤ 18446744073709551616
  wf : ∀ r ∈ L, ∀ x ∈ r.data, 0 ≤ x ∧ x < 256
  short : ∀ r ∈ L, r.data.length ≤ 4294967296
  apart : ∀ (i j : Nat) (r s : Reg), i < j → L[i]? = some r → L[j]? = some s → r.base + r.data.length ≤ s.base
theorem Inv.srt {L : List Reg} (h : Inv L) {i j : Nat} {r s : Reg} (hij : i ≤ j) (hr : L[i]? = some r) (hs : L[j]? = some s) : r.base ≤ s.base := by
  rcases Nat.lt_or_eq_of_le hij with h' | rfl
  · have := h.apart i j r s h' hr hs; omega
  · rw [hr] at hs; cases hs; exact Int.le_refl _
/-- How many regions begin at an address or ahead of it. -/
def IsAt (L : List Reg) (a : Int) (i : Nat) : Prop := i ≤ L.length ∧ (∀ (k : Nat) (r : Reg), k < i → L[k]? = some r → r.base ≤ a) ∧ (∀ (k : Nat) (r : Reg), i ≤ k → L[k]? = some r → a < r.base)
end Go.Proofs.Ytlolhmocimaobaa.PAll
