/- The texts MemBase, MemW1, MemW2, MemW3, MemW4, MemW5, MemW6 of this claim, joined. -/
import Derived.Test.YtomnfkihieinbaaDoorProg
import Derived.Test.YtomnfkihieinbaaDoorWWords
import Derived.Test.YtomnfkihieinbaaDoorWLast
import Derived.Test.YtomnfkihieinbaaDoorWMore
import Derived.WalkKit
import Derived.OwnWalk
import Derived.Outline
import Derived.Deep.QuietTactic
import Derived.BigQuiet
import Derived.WalkSpells
import Derived.RangeFuncBox
import Derived.Lib.SliceRun
import Derived.Laws.Bits64
import Derived.OneCell
import Derived.Laws.IdiomCopy
import Derived.ArgAppend
import Derived.Laws.CopyOwn
import Derived.Test.YtomnfkihieinbaaDoorPAllx0
import Derived.Laws.MakeOwn
import Derived.RangeFuncNested
import Derived.RangeFuncBound
import Derived.RangeFuncCalls
import Derived.RangeFuncLeaves
import Derived.Shelf.Abstract
import Derived.Shelf.RegionOpen
import Derived.OwnWalkIn
import Derived.TacticsInMore
import Derived.LoopNIn
import Derived.LoopIn
import Derived.RangeFuncFrom
import Derived.Laws.BitsAllLaws
/- Memory in regions: what lies in the heap; what an operation leaves as it was. -/
set_option linter.unusedVariables false
set_option linter.unusedSimpArgs false
namespace Go.Proofs.YtomnfkihieinbaaDoor.PAll
open Go.RowKit Go.Proofs.YtomnfkihieinbaaDoorW.PrintWords Go.Proofs.YtomnfkihieinbaaDoorW.PrintLast Go.Proofs.YtomnfkihieinbaaDoorW.PrintMore
/-! ### worlds -/
/-- Nothing that lay there has turned but what is owned. -/
structure Out (own : Nat → Prop) (X X' : World) : Prop where
  os : X'.os = X.os
  tape : X'.tape = X.tape
  output : X'.output = X.output
  size : X.heap.size ≤ X'.heap.size
  block : ∀ k, k < X.heap.size → ¬ own k → X'.heap[k]? = X.heap[k]?
theorem Out.refl (own : Nat → Prop) (X : World) : Out own X X := ⟨rfl, rfl, rfl, Nat.le_refl _, fun _ _ _ => rfl⟩
theorem Out.trans {own own' : Nat → Prop} {X Y Z : World} (h : Out own X Y) (k : Out own' Y Z) (ho : ∀ i, i < X.heap.size → own' i → own i) : Out own X Z :=
  ⟨k.os.trans h.os, k.tape.trans h.tape, k.output.trans h.output, Nat.le_trans h.size k.size, fun i hi hn => (k.block i (Nat.lt_of_lt_of_le hi h.size) (fun h' => hn (ho i hi h'))).trans (h.block i hi hn)⟩
theorem Out.mono {own own' : Nat → Prop} {X Y : World} (h : Out own X Y) (ho : ∀ i, i < X.heap.size → own i → own' i) : Out own' X Y :=
  ⟨h.os, h.tape, h.output, h.size, fun i hi hn => h.block i hi (fun h' => hn (ho i hi h'))⟩
theorem below_out {X X' : World} (h : Below X.heap.size X X') (own : Nat → Prop) : Out own X X' := ⟨h.os, h.tape, h.output, h.size, fun k hk _ => h.block k hk⟩
theorem Out.below {own : Nat → Prop} {X X' : World} (h : Out own X X') {B : Nat} (hB : B ≤ X.heap.size) (ho : ∀ k, own k → B ≤ k) : Below B X X' :=
  ⟨h.os, h.tape, h.output, h.size, fun k hk => h.block k (by omega) (fun h' => by have := ho k h'; omega)⟩
theorem grown_out {X X' : World} {row : Option Nat} (h : X.grownBy X' row) : Out (fun k => row = some k) X X' := ⟨h.os, h.tape, h.output, h.size, fun k hk hn => h.block k hk (fun e => hn e.symm)⟩
theorem set_out (X : World) (b o : Nat) (v : Value) : Out (fun k => k = b) X (X.setCell ⟨b, o, none⟩ v) := ⟨rfl, rfl, rfl, by simp [World.setCell], fun k _ hn => Below.heap_setCell _ _ _ _ hn⟩
/-- What is owned, and whatever is new. -/
def orNew (own : Nat → Prop) (X : World) : Nat → Prop := fun k => own k ∨ X.heap.size ≤ k
/-! ### rows of the call's own -/
theorem row_keep {X X' : World} {B e size n : Nat} {v : Value} {xs : List Value} (h : X.ownsRow B e size v n xs) (hk : ∀ k, v.ownBlock = some k → X'.heap[k]? = X.heap[k]?) : X'.ownsRow B e size v n xs := by
  obtain ⟨h1, h2⟩ := h
  refine ⟨h1, ?_⟩
  rcases h2 with h2 | ⟨g, cap, cur, rfl, hg, hh, r⟩
  · exact .inl h2
  · exact .inr ⟨g, cap, cur, rfl, hg, (hk g rfl).trans hh, r⟩
theorem row_cell {X : World} {B e n : Nat} {v : Value} {xs : List Value} (h : X.ownsRow B e 1 v n xs) {i : Nat} {u : Value} (hi : xs[i]? = some u) : ∃ g cap, v = .slice (some ⟨g, 0, none⟩) n cap ∧ X.cell? ⟨g, i, none⟩ = some u ∧ X.frozen? ⟨g, i, none⟩ = false ∧ n ≤ cap ∧ cap ≤ maxLen ∧ B ≤ g := by
  have hl := h.1
  have hlt := (List.getElem?_eq_some_iff.1 hi).1
  rcases h.2 with ⟨_, h0⟩ | ⟨g, cap, cur, rfl, hg, hh, h3, h4, h5, h6⟩
  · omega
  · refine ⟨g, cap, rfl, ?_, by simp [World.frozen?, hh], h3, h4, hg⟩
    have := h.cells (g := g) rfl i u hi
    rwa [add_plain] at this
def ptr (b : Nat) : Value := .pointer (some ⟨b, 0, none⟩)
/-! ### regions -/
structure Reg where
  base : Int
  data : List Int
/-- Region r lies in block p.1, its bytes in block p.2. -/
structure RegAt (X : World) (B : Nat) (own : Nat → Prop) (p : Nat × Nat) (r : Reg) : Prop where
  o1 : own p.1
  o2 : own p.2
  b1 : B ≤ p.1
  lies : ∃ cap, X.heap[p.1]? = some (.cells #[.int .u64 r.base, .slice (some ⟨p.2, 0, none⟩) r.data.length cap] 130 (0, 0)) ∧ X.ownsRow B 5 1 (.slice (some ⟨p.2, 0, none⟩) r.data.length cap) r.data.length (nums .u8 r.data)
def memBlock (v : Value) : Obj := .cells #[v, .func (.func 48) #[] #[]] 120 (0, 0)
/-- The memory in block m: its list lies in v, the regions at the places ps. -/
structure MemIn (X : World) (B : Nat) (own : Nat → Prop) (m : Nat) (L : List Reg) (v : Value) (ps : List (Nat × Nat)) : Prop where
  blk : X.heap[m]? = some (memBlock v)
  om : own m
  bm : B ≤ m
  row : X.ownsRow B 128 1 v L.length (ps.map fun p => ptr p.1)
  orow : ∀ k, v.ownBlock = some k → own k
  len : ps.length = L.length
  reg : ∀ (i : Nat) (p : Nat × Nat) (r : Reg), ps[i]? = some p → L[i]? = some r → RegAt X B own p r
  nd : (ps.map (·.2)).Nodup
def MemAt (X : World) (B : Nat) (own : Nat → Prop) (m : Nat) (L : List Reg) : Prop := ∃ v ps, MemIn X B own m L v ps
theorem RegAt.mono {X : World} {B : Nat} {own own' : Nat → Prop} {p : Nat × Nat} {r : Reg} (h : RegAt X B own p r) (ho : own p.1 → own' p.1) (ho2 : own p.2 → own' p.2) : RegAt X B own' p r := ⟨ho h.o1, ho2 h.o2, h.b1, h.lies⟩
theorem RegAt.keep {X X' : World} {B : Nat} {own : Nat → Prop} {p : Nat × Nat} {r : Reg} (h : RegAt X B own p r) (h1 : X'.heap[p.1]? = X.heap[p.1]?) (h2 : X'.heap[p.2]? = X.heap[p.2]?) : RegAt X' B own p r := by
  obtain ⟨cap, hb, hr⟩ := h.lies
  exact ⟨h.o1, h.o2, h.b1, cap, h1.trans hb, row_keep hr (fun k hk => by cases hk; exact h2)⟩
theorem RegAt.lt {X : World} {B : Nat} {own : Nat → Prop} {p : Nat × Nat} {r : Reg} (h : RegAt X B own p r) : p.1 < X.heap.size ∧ p.2 < X.heap.size := by
  obtain ⟨cap, hb, hr⟩ := h.lies
  exact ⟨(Array.getElem?_eq_some_iff.1 hb).1, own_lt hr _ rfl⟩
theorem MemIn.keep {X X' : World} {B : Nat} {own : Nat → Prop} {m : Nat} {L : List Reg} {v : Value} {ps : List (Nat × Nat)} (h : MemIn X B own m L v ps) (hk : ∀ k, k < X.heap.size → own k → X'.heap[k]? = X.heap[k]?) : MemIn X' B own m L v ps :=
  ⟨(hk m (Array.getElem?_eq_some_iff.1 h.blk).1 h.om).trans h.blk, h.om, h.bm, row_keep h.row (fun k hk' => hk k (own_lt h.row k hk') (h.orow k hk')), h.orow, h.len,
    fun i p r hp hr => by have g := h.reg i p r hp hr; exact g.keep (hk _ g.lt.1 g.o1) (hk _ g.lt.2 g.o2), h.nd⟩
theorem MemIn.mono {X : World} {B : Nat} {own own' : Nat → Prop} {m : Nat} {L : List Reg} {v : Value} {ps : List (Nat × Nat)} (h : MemIn X B own m L v ps) (ho : ∀ k, k < X.heap.size → own k → own' k) : MemIn X B own' m L v ps :=
  ⟨h.blk, ho m (Array.getElem?_eq_some_iff.1 h.blk).1 h.om, h.bm, h.row, fun k hk => ho k (own_lt h.row k hk) (h.orow k hk), h.len, fun i p r hp hr => by have g := h.reg i p r hp hr; exact g.mono (ho _ g.lt.1) (ho _ g.lt.2), h.nd⟩
theorem MemAt.keep {X X' : World} {B : Nat} {own : Nat → Prop} {m : Nat} {L : List Reg} (h : MemAt X B own m L) (hk : ∀ k, k < X.heap.size → own k → X'.heap[k]? = X.heap[k]?) : MemAt X' B own m L := by
  obtain ⟨v, ps, h⟩ := h
  exact ⟨v, ps, h.keep hk⟩
theorem MemAt.mono {X : World} {B : Nat} {own own' : Nat → Prop} {m : Nat} {L : List Reg} (h : MemAt X B own m L) (ho : ∀ k, k < X.heap.size → own k → own' k) : MemAt X B own' m L := by
  obtain ⟨v, ps, h⟩ := h
  exact ⟨v, ps, h.mono ho⟩
theorem MemAt.below {X X' : World} {B : Nat} {own : Nat → Prop} {m : Nat} {L : List Reg} (h : MemAt X B own m L) (hb : Below X.heap.size X X') : MemAt X' B own m L := h.keep fun k hk _ => hb.block k hk
theorem MemIn.below {X X' : World} {B : Nat} {own : Nat → Prop} {m : Nat} {L : List Reg} {v : Value} {ps : List (Nat × Nat)} (h : MemIn X B own m L v ps) (hb : Below X.heap.size X X') : MemIn X' B own m L v ps := h.keep fun k hk _ => hb.block k hk
theorem MemAt.bound {X : World} {B : Nat} {own : Nat → Prop} {m : Nat} {L : List Reg} (h : MemAt X B own m L) : MemAt X B (fun k => own k ∧ k < X.heap.size) m L := h.mono fun k hk ho => ⟨ho, hk⟩
/-- Something else is written. -/
theorem MemAt.out {X X' : World} {B : Nat} {own own' : Nat → Prop} {m : Nat} {L : List Reg} (h : MemAt X B own m L) (ho : Out own' X X') (hd : ∀ k, k < X.heap.size → own k → ¬ own' k) : MemAt X' B own m L := h.keep fun k hk hk' => ho.block k hk (hd k hk hk')
/-! ### the regions' order -/
/-- The regions lie in the order of their addresses, apart from each other. -/
structure Inv (L : List Reg) : Prop where
  pos : ∀ r ∈ L, 0 < r.data.length
  lo : ∀ r ∈ L, 0 ≤ r.base
  hi : ∀ r ∈ L, r.base + r.data.length ≤ 18446744073709551616
  wf : ∀ r ∈ L, ∀ x ∈ r.data, 0 ≤ x ∧ x < 256
  short : ∀ r ∈ L, r.data.length ≤ 4294967296
  apart : ∀ (i j : Nat) (r s : Reg), i < j → L[i]? = some r → L[j]? = some s → r.base + r.data.length ≤ s.base
theorem Inv.srt {L : List Reg} (h : Inv L) {i j : Nat} {r s : Reg} (hij : i ≤ j) (hr : L[i]? = some r) (hs : L[j]? = some s) : r.base ≤ s.base := by
  rcases Nat.lt_or_eq_of_le hij with h' | rfl
  · have := h.apart i j r s h' hr hs; omega
  · rw [hr] at hs; cases hs; exact Int.le_refl _
/-- How many regions begin at an address or ahead of it. -/
def IsAt (L : List Reg) (a : Int) (i : Nat) : Prop := i ≤ L.length ∧ (∀ (k : Nat) (r : Reg), k < i → L[k]? = some r → r.base ≤ a) ∧ (∀ (k : Nat) (r : Reg), i ≤ k → L[k]? = some r → a < r.base)
end Go.Proofs.YtomnfkihieinbaaDoor.PAll
/- mem: New, the numbers of regions, the search for an address, the last address. -/
set_option linter.unusedVariables false
set_option linter.unusedSimpArgs false
namespace Go.Proofs.YtomnfkihieinbaaDoor.PAll
open Go.RowKit Go.Proofs.YtomnfkihieinbaaDoorW.PrintWords Go.Proofs.YtomnfkihieinbaaDoorW.PrintLast Go.Proofs.YtomnfkihieinbaaDoorW.PrintMore
theorem blk2 {X : World} {b : Nat} {u v : Value} {T : TypeId} (h : X.heap[b]? = some (.cells #[u, v] T (0, 0))) : X.cell? ⟨b, 0, none⟩ = some u ∧ X.cell? ⟨b, 1, none⟩ = some v ∧ X.frozen? ⟨b, 0, none⟩ = false ∧ X.frozen? ⟨b, 1, none⟩ = false := by
  refine ⟨?_, ?_, ?_, ?_⟩ <;> simp [World.cell?, World.frozen?, h]
set_option maxHeartbeats 1000000 in
theorem mem_New (X : World) : Calls Tryd.prog 29 #[] X fun e X' => e = .returned (ptr X.heap.size) ∧ MemAt X' X.heap.size (fun k => k = X.heap.size) X.heap.size [] ∧ Below X.heap.size X X' := by
  go_enter Tryd.func29, Tryd.ntmps29
  go_wp2
  go_ret
  refine ⟨rfl, ⟨.slice none 0 0, [], heap_alloc_new X _, rfl, Nat.le_refl _, World.ownsRow_nil _ _ _ _, fun k hk => by simp [Value.ownBlock] at hk, rfl, fun i p r hp _ => by simp at hp, by simp⟩, Below.alloc (Below.refl _ _) (Nat.le_refl _) _⟩
set_option maxHeartbeats 1000000 in
theorem mem_New1 (X : World) (b : Nat) (x : Int) (h : X.cell? ⟨b, 0, none⟩ = some (.int .u64 x)) : Calls Tryd.prog 48 #[ptr b] X fun e X' => e = .returned (.int .u64 x) ∧ X = X' := by
  unfold ptr
  go_enter Tryd.func48, Tryd.ntmps48
  go_wp2
  go_ret
  exact ⟨rfl, rfl⟩
set_option maxHeartbeats 1000000 in
theorem mem_at1 (X : World) (b g m : Nat) (x a : Int) (hb : X.cell? ⟨b, 0, none⟩ = some (.int .u64 x)) (hg : X.cell? ⟨g, 0, none⟩ = some (.pointer (some ⟨m, 0, none⟩))) (hm : X.cell? ⟨m, 1, none⟩ = some (.func (.func 48) #[] #[])) :
    Calls Tryd.prog 65 #[ptr b, .int .u64 a, ptr g] X fun e X' => e = .returned (.int .i64 (if x ≤ a then -1 else 1)) ∧ X = X' := by
  have H := Aside0.mk (mem_New1 X b x hb)
  unfold ptr at H ⊢
  by_cases hxa : x ≤ a
  · rw [if_pos hxa]
    go_enter Tryd.func65, Tryd.ntmps65
    go_wp2_with (go_at_call 48; refine H.out.mono ?_; rintro e X' ⟨rfl, rfl⟩)
    go_ret
    exact ⟨rfl, rfl⟩
  · rw [if_neg hxa]
    go_enter Tryd.func65, Tryd.ntmps65
    go_wp2_with (go_at_call 48; refine H.out.mono ?_; rintro e X' ⟨rfl, rfl⟩)
    go_ret
    exact ⟨rfl, rfl⟩
/-- The address of the i-th region's first cell, out of the list. -/
theorem MemIn.get {X : World} {B : Nat} {own : Nat → Prop} {m : Nat} {L : List Reg} {v : Value} {ps : List (Nat × Nat)} (h : MemIn X B own m L v ps) {i : Nat} (hi : i < L.length) :
    ∃ p r g cap, ps[i]? = some p ∧ L[i]? = some r ∧ v = .slice (some ⟨g, 0, none⟩) L.length cap ∧ X.cell? ⟨g, i, none⟩ = some (.pointer (some ⟨p.1, 0, none⟩)) ∧ L.length ≤ cap ∧ cap ≤ maxLen ∧ RegAt X B own p r := by
  have hip : i < ps.length := by rw [h.len]; exact hi
  have e1 : ps[i]? = some ps[i] := List.getElem?_eq_getElem hip
  have e2 : L[i]? = some L[i] := List.getElem?_eq_getElem hi
  obtain ⟨g, cap, hv, hc, _, h1, h2, _⟩ := row_cell h.row (i := i) (u := ptr ps[i].1) (by rw [List.getElem?_map, e1]; rfl)
  exact ⟨_, _, g, cap, e1, e2, hv, hc, h1, h2, h.reg i _ _ e1 e2⟩
theorem RegAt.cell0 {X : World} {B : Nat} {own : Nat → Prop} {p : Nat × Nat} {r : Reg} (h : RegAt X B own p r) : X.cell? ⟨p.1, 0, none⟩ = some (.int .u64 r.base) := by
  obtain ⟨cap, hb, _⟩ := h.lies
  exact (blk2 hb).1
def SeaPost (L : List Reg) (a : Int) (X : World) (e : Ending) (X' : World) : Prop := (∃ (i : Nat) (b : Bool), IsAt L a i ∧ e = .returned (.tuple #[.int .i64 i, .bool b])) ∧ X = X'
set_option maxHeartbeats 4000000 in
set_option maxRecDepth 100000 in
theorem mem_search (X : World) (B : Nat) (own : Nat → Prop) (m g : Nat) (L : List Reg) (v : Value) (ps : List (Nat × Nat)) (a : Int) (h : MemIn X B own m L v ps) (hI : Inv L) (hg : X.cell? ⟨g, 0, none⟩ = some (.pointer (some ⟨m, 0, none⟩))) (hl : L.length ≤ 1000000) :
    Calls Tryd.prog 64 #[v, .int .u64 a, .func (.func 65) #[] #[.pointer (some ⟨g, 0, none⟩)]] X (SeaPost L a X) := by
  obtain ⟨A0, c0, rfl⟩ : ∃ A0 c0, v = .slice A0 L.length c0 := own_slice h.row
  have HM := Aside0.mk h
  have HI := Aside0.mk hI
  have hm1 := (blk2 h.blk).2.1
  have HC : Aside0 (∀ (p : Nat × Nat) (r : Reg), RegAt X B own p r → Calls Tryd.prog 65 #[.pointer (some ⟨p.1, 0, none⟩), .int .u64 a, .pointer (some ⟨g, 0, none⟩)] X fun e X' => e = .returned (.int .i64 (if r.base ≤ a then -1 else 1)) ∧ X = X') := ⟨fun p r hp => mem_at1 X p.1 g m r.base a hp.cell0 hg hm1⟩
  clear h hI hg hm1
  go_enter Tryd.func64, Tryd.ntmps64
  go_wp2
  go_loop [9, 10, 11] (fun v9 v10 v11 => ∃ i j : Nat, v9 = .int .i64 i ∧ v10 = .int .i64 j ∧ i ≤ j ∧ j ≤ L.length ∧ Aside0 (∀ (k : Nat) (r : Reg), k < i → L[k]? = some r → r.base ≤ a) ∧ Aside0 (∀ (k : Nat) (r : Reg), j ≤ k → L[k]? = some r → a < r.base)) (fun v9 v10 _ => (intOf v10).toNat - (intOf v9).toNat)
  case atStart => exact ⟨0, L.length, rfl, rfl, Nat.zero_le _, Nat.le_refl _, ⟨fun k r hk => by omega⟩, ⟨fun k r hk hr => by have := (List.getElem?_eq_some_iff.1 hr).1; omega⟩⟩
  case round =>
    obtain ⟨i, j, rfl, rfl, hij, hjl, H1, H2⟩ := hrel
    by_cases hlt : i < j
    · obtain ⟨hh, hhe⟩ : ∃ hh, hh = (i + j) / 2 := ⟨_, rfl⟩
      have hh1 : i ≤ hh := by omega
      have hh2 : hh < j := by omega
      obtain ⟨p, r, gg, cap, hp, hr, hv, hc, hcap, hcm, hra⟩ := HM.out.get (i := hh) (by omega)
      cases hv
      have hcall := HC.out p r hra
      have HR := Aside0.mk hr
      by_cases hba : r.base ≤ a
      · rw [if_pos hba] at hcall
        have HCALL := Aside0.mk hcall
        have HBA := Aside0.mk hba
        have HH := Aside0.mk hhe
        rw [hhe] at hc
        clear hcall hba hhe hr hcap hcm
        go_wp2_with (go_at_call 65; refine HCALL.out.mono ?_; rintro e X' ⟨rfl, rfl⟩)
        go_round
        case rel =>
          refine ⟨hh + 1, j, ?_, rfl, by omega, hjl, ⟨fun k r' hk hr' => ?_⟩, H2⟩
          · rw [HH.out]; congr 1
          · exact Int.le_trans (HI.out.srt (by omega : k ≤ hh) hr' HR.out) HBA.out
        case measure => have := HH.out; simp [intOf]; omega
      · rw [if_neg hba] at hcall
        have HCALL := Aside0.mk hcall
        have HBA := Aside0.mk hba
        have HH := Aside0.mk hhe
        rw [hhe] at hc
        clear hcall hba hhe hr hcap hcm
        go_wp2_with (go_at_call 65; refine HCALL.out.mono ?_; rintro e X' ⟨rfl, rfl⟩)
        go_round
        case rel =>
          refine ⟨i, hh, rfl, ?_, hh1, by omega, H1, ⟨fun k r' hk hr' => ?_⟩⟩
          · rw [HH.out]; congr 1
          · have := HI.out.srt hk HR.out hr'
            have := HBA.out
            omega
        case measure => have := HH.out; simp [intOf]; omega
    · obtain rfl : i = j := by omega
      have HAT : Aside0 (IsAt L a i) := ⟨⟨hjl, H1.out, H2.out⟩⟩
      by_cases hn : i < L.length
      · obtain ⟨p, r, gg, cap, hp, hr, hv, hc, hcap, hcm, hra⟩ := HM.out.get (i := i) hn
        cases hv
        have hcall := HC.out p r hra
        have hba : ¬ r.base ≤ a := by have := H2.out i r (Nat.le_refl _) hr; omega
        rw [if_neg hba] at hcall
        have HCALL := Aside0.mk hcall
        clear hcall hba hr hcap hcm
        go_wp2_with (go_at_call 65; refine HCALL.out.mono ?_; rintro e X' ⟨rfl, rfl⟩)
        go_ret2
        exact ⟨⟨i, _, HAT.out, rfl⟩, rfl⟩
      · go_wp2
        go_ret2
        exact ⟨⟨i, _, HAT.out, rfl⟩, rfl⟩
theorem u64_mod (z : Int) : IntKind.u64.wrap z = z % 18446744073709551616 := IntKind.wrap_u64 z
set_option maxHeartbeats 2000000 in
set_option maxRecDepth 100000 in
theorem mem_at (X : World) (B : Nat) (own : Nat → Prop) (m : Nat) (L : List Reg) (v : Value) (ps : List (Nat × Nat)) (a : Int) (h : MemIn X B own m L v ps) (hI : Inv L) (hl : L.length ≤ 1000000) :
    Calls Tryd.prog 49 #[.pointer (some ⟨m, 0, none⟩), .int .u64 a] X fun e X' => (∃ i : Nat, IsAt L a i ∧ e = .returned (.int .i64 ((i : Int) - 1))) ∧ Below X.heap.size X X' := by
  have hb1 : Below X.heap.size X (X.alloc (.cells #[.pointer (some ⟨m, 0, none⟩)] 142 (0, 0))) := Below.alloc (Below.refl _ _) (Nat.le_refl _) _
  have hm0 := (blk2 h.blk).1
  have hml := (Array.getElem?_eq_some_iff.1 h.blk).1
  have hS := Aside0.mk (mem_search _ B own m X.heap.size L v ps a (h.below hb1) hI (cell_of_one (heap_alloc_new X _)) hl)
  have HB := Aside0.mk hb1
  obtain ⟨A0, c0, rfl⟩ : ∃ A0 c0, v = .slice A0 L.length c0 := own_slice h.row
  clear h hI hb1
  go_enter Tryd.func49, Tryd.ntmps49
  go_wp2_with fail
  refine hS.out.mono ?_
  rintro e X' ⟨⟨i, b, hi, rfl⟩, rfl⟩
  have HI := Aside0.mk hi
  have hil := hi.1
  clear hi
  go_wp2_with fail
  go_ret
  exact ⟨⟨i, HI.out, rfl⟩, HB.out⟩
set_option maxHeartbeats 1000000 in
set_option maxRecDepth 100000 in
theorem mem_end (X : World) (b : Nat) (x : Int) (A0 : Option Addr) (n c : Nat) (h0 : X.cell? ⟨b, 0, none⟩ = some (.int .u64 x)) (h1 : X.cell? ⟨b, 1, none⟩ = some (.slice A0 n c)) (hx0 : 0 ≤ x) (hn : 1 ≤ n) (hx1 : x + n ≤ 18446744073709551616) (hn2 : n ≤ 4294967296) :
    Calls Tryd.prog 50 #[.pointer (some ⟨b, 0, none⟩)] X fun e X' => e = .returned (.int .u64 (x + n - 1)) ∧ ∃ k, X' = X.drewN k := by
  go_enter Tryd.func50, Tryd.ntmps50
  go_wp2
  go_quiet (fail)
  go_wp2
  go_ret
  refine ⟨?_, _, rfl⟩
  have e : IntKind.u64.wrap (IntKind.u64.wrap (x + n) - 1) = x + n - 1 := by rw [u64_mod, u64_mod]; omega
  rw [e]
  rfl
end Go.Proofs.YtomnfkihieinbaaDoor.PAll
/- mem: part, Len, number, Clone. -/
set_option linter.unusedVariables false
set_option linter.unusedSimpArgs false
namespace Go.Proofs.YtomnfkihieinbaaDoor.PAll
open Go.RowKit Go.Proofs.YtomnfkihieinbaaDoorW.PrintWords Go.Proofs.YtomnfkihieinbaaDoorW.PrintLast Go.Proofs.YtomnfkihieinbaaDoorW.PrintMore
/-- All bytes of an access are in a region. -/
def hitR (a n : Int) (r : Reg) : Bool := decide (1 ≤ n ∧ r.base ≤ a ∧ a + n ≤ r.base + r.data.length)
theorem hit_iff {a n : Int} {r : Reg} : hitR a n r = true ↔ 1 ≤ n ∧ r.base ≤ a ∧ a + n ≤ r.base + r.data.length := by unfold hitR; exact decide_eq_true_iff
theorem find_none_of {L : List Reg} {a n : Int} (h : ∀ (k : Nat) (r : Reg), L[k]? = some r → hitR a n r = false) : L.findIdx? (hitR a n) = none := by
  rw [List.findIdx?_eq_none_iff]
  intro r hr
  obtain ⟨k, hk⟩ := List.getElem?_of_mem hr
  exact h k r hk
theorem find_some_of {L : List Reg} {a n : Int} {k : Nat} {r : Reg} (hk : L[k]? = some r) (hr : hitR a n r = true) (h : ∀ (j : Nat) (s : Reg), j < k → L[j]? = some s → hitR a n s = false) : L.findIdx? (hitR a n) = some k := by
  rw [List.findIdx?_eq_some_iff_getElem]
  obtain ⟨hlt, he⟩ := List.getElem?_eq_some_iff.1 hk
  refine ⟨hlt, by rw [he]; exact hr, fun j hj => ?_⟩
  rw [h j _ hj (List.getElem?_eq_getElem (by omega))]
  decide
/-- No region ahead of the last that begins at or ahead of an address holds that address. -/
theorem hit_only {L : List Reg} (hI : Inv L) {a n : Int} {i : Nat} (hi : IsAt L a i) {j : Nat} {s : Reg} (hs : L[j]? = some s) (hh : hitR a n s = true) : j + 1 = i := by
  obtain ⟨h1, h2, h3⟩ := hit_iff.1 hh
  have hj : j < i := by
    rcases Nat.lt_or_ge j i with h | h
    · exact h
    · have := hi.2.2 j s h hs; omega
  rcases Nat.lt_or_ge (j + 1) i with h | h
  · obtain ⟨r, hr⟩ : ∃ r, L[i - 1]? = some r := ⟨_, List.getElem?_eq_getElem (by have := hi.1; omega)⟩
    have e1 := hI.apart j (i - 1) s r (by omega) hs hr
    have e2 := hi.2.1 (i - 1) r (by omega) hr
    omega
  · omega
/-- What part answers. -/
def PartPost (X : World) (B : Nat) (L : List Reg) (ps : List (Nat × Nat)) (a n : Int) (e : Ending) (X' : World) : Prop :=
  Below X.heap.size X X' ∧
  match L.findIdx? (hitR a n) with
  | none => e = .returned (.slice none 0 0)
  | some k => ∃ (p : Nat × Nat) (r : Reg) (cap : Nat), ps[k]? = some p ∧ L[k]? = some r ∧ hitR a n r = true ∧ X.ownsRow B 5 1 (.slice (some ⟨p.2, 0, none⟩) r.data.length cap) r.data.length (nums .u8 r.data) ∧ e = .returned (.slice (some ⟨p.2, (a - r.base).toNat, none⟩) n.toNat (cap - (a - r.base).toNat))
set_option maxHeartbeats 4000000 in
set_option maxRecDepth 100000 in
theorem mem_part (X : World) (B : Nat) (own : Nat → Prop) (m : Nat) (L : List Reg) (v : Value) (ps : List (Nat × Nat)) (a n : Int) (h : MemIn X B own m L v ps) (hI : Inv L) (hl : L.length ≤ 1000000) (ha0 : 0 ≤ a) (ha1 : a < 18446744073709551616) (hn0 : -9223372036854775808 ≤ n) (hn1 : n < 9223372036854775808) :
    Calls Tryd.prog 44 #[.pointer (some ⟨m, 0, none⟩), .int .u64 a, .int .i64 n] X (PartPost X B L ps a n) := by
  by_cases hlt : n < 1
  · have HP : Aside0 (PartPost X B L ps a n (.returned (.slice none 0 0)) X) := by
      refine ⟨⟨Below.refl _ _, ?_⟩⟩
      rw [find_none_of fun k r _ => by unfold hitR; exact decide_eq_false (by omega)]
    clear h hI
    go_enter Tryd.func44, Tryd.ntmps44
    go_wp2
    go_ret
    exact HP.out
  · have HM := Aside0.mk h
    have HI := Aside0.mk hI
    have hA := Aside0.mk (mem_at X B own m L v ps a h hI hl)
    clear h hI
    go_enter Tryd.func44, Tryd.ntmps44
    go_wp2_with fail
    refine hA.out.mono ?_
    rintro e X' ⟨⟨i, hi, rfl⟩, hb⟩
    have HB := Aside0.mk hb
    have HAT := Aside0.mk hi
    clear hb hi
    cases i with
    | zero =>
      have HP : Aside0 (PartPost X B L ps a n (.returned (.slice none 0 0)) X') := by
        refine ⟨⟨HB.out, ?_⟩⟩
        rw [find_none_of fun k r hk => Bool.eq_false_iff.2 fun hh => by have := hit_only HI.out HAT.out hk hh; omega]
      rw [show (((0 : Nat) : Int) - 1) = -1 by rfl]
      go_wp2_with fail
      go_ret
      exact HP.out
    | succ k =>
      rw [show ((((k + 1 : Nat) : Nat) : Int) - 1) = (k : Int) by omega]
      have HM' := Aside0.mk (HM.out.below HB.out)
      have hkl : k < L.length := by have := HAT.out.1; omega
      obtain ⟨p, r, g, cap, hp, hr, hv, hc, hcap, hcm, hra⟩ := HM'.out.get hkl
      have hle : r.base ≤ a := HAT.out.2.1 k r (Nat.lt_succ_self _) hr
      obtain ⟨cd, hbk, hrow⟩ := hra.lies
      obtain ⟨hb0, hb1, _, _⟩ := blk2 hbk
      have hmem : r ∈ L := List.mem_of_getElem? hr
      have hlo := HI.out.lo r hmem
      have hsh := HI.out.short r hmem
      have hcd : r.data.length ≤ cd := by
        rcases hrow.2 with ⟨h1, _⟩ | ⟨_, _, _, h1, _, _, h2, _⟩
        · cases h1
        · cases h1; exact h2
      have hcd2 : cd ≤ 9223372036854775807 := by
        rcases hrow.2 with ⟨h1, _⟩ | ⟨_, _, _, h1, _, _, _, h2, _⟩
        · cases h1
        · cases h1; exact h2
      have hm0 := (blk2 HM'.out.blk).1
      cases hv
      have HP := Aside0.mk hp
      have HR := Aside0.mk hr
      have HRA := Aside0.mk (HM.out.reg k p r hp hr)
      have HBK := Aside0.mk hbk
      unfold maxLen at hcm
      clear hra hbk hrow hp hr hmem
      obtain ⟨off, hoffe⟩ : ∃ off : Nat, a - r.base = off := ⟨(a - r.base).toNat, by omega⟩
      obtain ⟨nn, hne⟩ : ∃ nn : Nat, n = nn := ⟨n.toNat, by omega⟩
      have HOF := Aside0.mk hoffe
      have hw1 : IntKind.u64.wrap (a - r.base) = off := by rw [u64_mod]; omega
      have hnn : 1 ≤ nn := by omega
      have hnn2 : nn ≤ 9223372036854775807 := by omega
      have hnil : ¬ hitR a n r = true → Aside0 (PartPost X B L ps a n (.returned (.slice none 0 0)) X') := by
        intro hno
        refine ⟨⟨HB.out, ?_⟩⟩
        rw [find_none_of fun j s hs => Bool.eq_false_iff.2 fun hh => by
          have := hit_only HI.out HAT.out hs hh
          obtain rfl : j = k := by omega
          rw [HR.out] at hs
          cases hs
          exact hno hh]
      by_cases hoff : off < r.data.length
      · by_cases hfit : nn + off ≤ r.data.length
        · have hhit : hitR a n r = true := hit_iff.2 ⟨by omega, hle, by omega⟩
          have hfind := Aside0.mk (find_some_of HR.out hhit (fun j s hj hs => Bool.eq_false_iff.2 fun hh => by have := hit_only HI.out HAT.out hs hh; omega))
          have HHIT := Aside0.mk hhit
          subst hne
          clear hoffe hle hlt ha0 ha1 hn0 hn1 hlo hhit hnil
          go_wp2
          go_ret
          refine ⟨HB.out, ?_⟩
          rw [hfind.out]
          obtain ⟨cd', hbk', hrow'⟩ := HRA.out.lies
          have hbb := (HB.out.block p.1 HRA.out.lt.1).trans hbk'
          rw [HBK.out] at hbb
          simp only [Option.some.injEq, Obj.cells.injEq, Array.mk.injEq, List.cons.injEq, Value.slice.injEq, and_true, true_and] at hbb
          subst hbb
          refine ⟨p, r, cd, HP.out, HR.out, HHIT.out, hrow', ?_⟩
          rw [HOF.out, Int.toNat_natCast, Int.toNat_natCast]
          show Ending.returned (.slice (some ⟨p.2, off, none⟩) (off + nn - off) (cd - off)) = _
          rw [Nat.add_sub_cancel_left]
        · have HNIL := hnil (fun hh => by have := hit_iff.1 hh; omega)
          subst hne
          clear hoffe hle hlt ha0 ha1 hn0 hn1 hlo hnil
          go_wp2
          go_ret
          exact HNIL.out
      · have HNIL := hnil (fun hh => by have := hit_iff.1 hh; omega)
        subst hne
        clear hoffe hle hlt ha0 ha1 hn0 hn1 hlo hnil
        go_wp2
        go_ret
        exact HNIL.out
end Go.Proofs.YtomnfkihieinbaaDoor.PAll
/- mem: Put, Len, number, Clone, Bytes. -/
set_option linter.unusedVariables false
set_option linter.unusedSimpArgs false
namespace Go.Proofs.YtomnfkihieinbaaDoor.PAll
open Go.RowKit Go.Proofs.YtomnfkihieinbaaDoorW.PrintWords Go.Proofs.YtomnfkihieinbaaDoorW.PrintLast Go.Proofs.YtomnfkihieinbaaDoorW.PrintMore
theorem neq_nil {P : Program} (w : World) (t e : TypeId) (a : Option Addr) (n c : Nat) (h : P.underlying t = some (.slice e)) : (binOp .neq t (.slice a n c) (.slice none 0 0)).run P w = .ok (.bool (!a.isNone)) w := by
  simp only [binOp]
  simp [Op.equal, Op.maxDepth, Lib.run_equalIn_slice_nil w 9999 t e a n c 0 0 h]
theorem take_splice {α : Type} (l cs : List α) (off n : Nat) (h : off + cs.length ≤ n) (hn : n ≤ l.length) : (splice l off cs).take n = splice (l.take n) off cs := by
  unfold splice
  have h1 : min off l.length = off := by omega
  rw [List.take_append, List.length_take, h1, List.take_append, List.take_of_length_le (show (l.take off).length ≤ n by rw [List.length_take]; omega), List.take_of_length_le (show cs.length ≤ n - off by omega), List.take_take, show min off n = off by omega]
  congr 2
  rw [List.drop_take, show n - off - cs.length = n - (off + cs.length) by omega]
theorem nums_splice (k : IntKind) (l cs : List Int) (off : Nat) : nums k (splice l off cs) = splice (nums k l) off (nums k cs) := by
  unfold splice nums
  simp [List.map_take, List.map_drop]
theorem two_blocks {X : World} {a b : Nat} {c1 c2 : Array Value} {t1 t2 : TypeId} {f1 f2 : Nat × Nat} (h1 : X.heap[a]? = some (.cells c1 t1 f1)) (h2 : X.heap[b]? = some (.cells c2 t2 f2)) (hne : t1 ≠ t2) : a ≠ b := by
  rintro rfl
  rw [h1] at h2
  cases h2
  exact hne rfl
theorem row_block {X : World} {B e n : Nat} {v : Value} {xs : List Value} (h : X.ownsRow B e 1 v n xs) {g : Nat} (hg : v.ownBlock = some g) : ∃ cur, X.heap[g]? = some (.cells cur e (0, 0)) := by
  rcases h.2 with ⟨rfl, _⟩ | ⟨g', cap, cur, rfl, _, hh, _⟩
  · simp [Value.ownBlock] at hg
  · obtain rfl : g' = g := by simpa [Value.ownBlock] using hg
    exact ⟨cur, hh⟩
/-- One region's bytes turn; all else stands. -/
theorem MemIn.turn {X X' : World} {B : Nat} {own : Nat → Prop} {m : Nat} {L : List Reg} {v : Value} {ps : List (Nat × Nat)} (h : MemIn X B own m L v ps) {k : Nat} {p : Nat × Nat} {r : Reg} (hp : ps[k]? = some p) (hr : L[k]? = some r) (data : List Int) (hlen : data.length = r.data.length)
    (hX : ∀ i, i < X.heap.size → i ≠ p.2 → X'.heap[i]? = X.heap[i]?)
    (hrow : ∀ cap, X.ownsRow B 5 1 (.slice (some ⟨p.2, 0, none⟩) r.data.length cap) r.data.length (nums .u8 r.data) → X'.ownsRow B 5 1 (.slice (some ⟨p.2, 0, none⟩) r.data.length cap) r.data.length (nums .u8 data)) :
    MemIn X' B own m (L.set k { r with data := data }) v ps := by
  have hreg := h.reg k p r hp hr
  obtain ⟨cap, hb, hro⟩ := hreg.lies
  obtain ⟨cur, hcur⟩ := row_block hro rfl
  have hlt : ∀ {i : Nat} {o : Obj}, X.heap[i]? = some o → i < X.heap.size := fun hh => (Array.getElem?_eq_some_iff.1 hh).1
  have hk : k < L.length := (List.getElem?_eq_some_iff.1 hr).1
  refine ⟨?_, h.om, h.bm, ?_, h.orow, by rw [List.length_set]; exact h.len, ?_, h.nd⟩
  · rw [hX m (hlt h.blk) (two_blocks h.blk hcur (by decide))]; exact h.blk
  · rw [List.length_set]
    refine row_keep h.row (fun g hg => ?_)
    obtain ⟨c2, hc2⟩ := row_block h.row hg
    exact hX g (hlt hc2) (two_blocks hc2 hcur (by decide))
  · intro i q s hq hs
    by_cases hik : i = k
    · subst hik
      rw [hp] at hq
      cases hq
      rw [List.getElem?_set_self hk] at hs
      cases hs
      refine ⟨hreg.o1, hreg.o2, hreg.b1, cap, ?_, ?_⟩
      · rw [hX p.1 (hlt hb) (two_blocks hb hcur (by decide)), hb]
        show _ = some (Obj.cells #[.int .u64 r.base, .slice (some ⟨p.2, 0, none⟩) data.length cap] _ _)
        rw [hlen]
      · have := hrow cap hro
        show X'.ownsRow B _ 1 (.slice (some ⟨p.2, 0, none⟩) data.length cap) data.length _
        rw [hlen]
        exact this
    · rw [List.getElem?_set_ne (by omega)] at hs
      have hg := h.reg i q s hq hs
      obtain ⟨cap2, hb2, hro2⟩ := hg.lies
      refine hg.keep (hX q.1 (hlt hb2) (two_blocks hb2 hcur (by decide))) (hX q.2 hg.lt.2 ?_)
      intro he
      have e1 : (ps.map (·.2))[i]? = some q.2 := by rw [List.getElem?_map, hq]; rfl
      have e2 : (ps.map (·.2))[k]? = some p.2 := by rw [List.getElem?_map, hp]; rfl
      have hil : i < (ps.map (·.2)).length := (List.getElem?_eq_some_iff.1 e1).1
      exact hik ((List.getElem?_inj hil h.nd).1 (by rw [e1, e2, he]))
/-- What Put leaves. -/
def putF (L : List Reg) (a : Int) (bs : List Int) : Option (List Reg) :=
  match L.findIdx? (hitR a bs.length) with
  | none => none
  | some k => match L[k]? with
    | none => none
    | some r => some (L.set k { r with data := splice r.data (a - r.base).toNat bs })
def PutPost (X : World) (B : Nat) (own : Nat → Prop) (m : Nat) (L : List Reg) (a : Int) (bs : List Int) (e : Ending) (X' : World) : Prop :=
  match putF L a bs with
  | none => e = .returned (.bool false) ∧ Below X.heap.size X X'
  | some L' => e = .returned (.bool true) ∧ MemAt X' B own m L' ∧ Out own X X'
set_option maxHeartbeats 4000000 in
set_option maxRecDepth 100000 in
theorem mem_Put (X : World) (B : Nat) (own : Nat → Prop) (m : Nat) (L : List Reg) (a : Int) (A0 : Option Addr) (c0 : Nat) (bs : List Int) (h : MemAt X B own m L) (hI : Inv L) (hl : L.length ≤ 1000000) (ha0 : 0 ≤ a) (ha1 : a < 18446744073709551616) (hr0 : Kd.C (Kd.int .u8) X A0 bs.length bs) (hbl : bs.length ≤ 4611686018427387904) :
    Calls Tryd.prog 81 #[.pointer (some ⟨m, 0, none⟩), .int .u64 a, .slice A0 bs.length c0] X (PutPost X B own m L a bs) := by
  obtain ⟨v, ps, hM⟩ := h
  have HM := Aside0.mk hM
  have HI := Aside0.mk hI
  have HR0 := Aside0.mk hr0
  have hA := Aside0.mk (mem_part X B own m L v ps a bs.length hM hI hl ha0 ha1 (by omega) (by omega))
  have heq := fun (W : World) (b : Option Addr) (n c : Nat) => neq_nil (P := Tryd.prog) W 26 5 b n c Tryd.underlying26
  clear hM hI hr0 ha0 ha1 hbl
  go_enter Tryd.func81, Tryd.ntmps81
  go_wp2_with fail
  refine hA.out.mono ?_
  intro e X' hp
  obtain ⟨hb, hp⟩ := hp
  have HB := Aside0.mk hb
  clear hb
  cases hf : L.findIdx? (hitR a bs.length) with
  | none =>
    rw [hf] at hp
    dsimp only at hp
    subst hp
    have HP : Aside0 (PutPost X B own m L a bs (.returned (.bool false)) X') := ⟨by unfold PutPost putF; rw [hf]; exact ⟨rfl, HB.out⟩⟩
    clear hf
    go_wp2_with (with_reducible refine wpList_copy_nothing rfl (.tmp 13) (.tmp 14) 26 26 rfl 5 Tryd.underlying26 (by kernel_rfl) none A0 0 0 bs.length c0 rfl rfl (Nat.min_eq_right (Nat.zero_le _)) ?_)
    go_ret
    exact HP.out
  | some k =>
    rw [hf] at hp
    dsimp only at hp
    obtain ⟨p, r, cap, hpk, hrk, hhit, hrow, rfl⟩ := hp
    obtain ⟨hh1, hh2, hh3⟩ := hit_iff.1 hhit
    obtain ⟨off, hoff⟩ : ∃ off : Nat, (a - r.base).toNat = off := ⟨_, rfl⟩
    have hoffn : off + bs.length ≤ r.data.length := by omega
    have hreg := HM.out.reg k p r hpk hrk
    obtain ⟨cur, hcur⟩ : ∃ cur : List Value, X'.heap[p.2]? = some (.cells cur.toArray 5 (0, 0)) := by
      obtain ⟨c, hc⟩ := row_block hrow rfl
      exact ⟨c.toList, by rw [(HB.out.block p.2 hreg.lt.2), hc]⟩
    have hcl : cap = cur.length ∧ cur.take r.data.length = nums .u8 r.data := by
      rcases hrow.2 with ⟨h1, _⟩ | ⟨g, cp, c, h1, _, h2, _, _, h3, h4⟩
      · cases h1
      · cases h1
        rw [← HB.out.block p.2 hreg.lt.2, hcur] at h2
        cases h2
        refine ⟨by simpa using h3.symm, by simpa using h4⟩
    have hle : r.data.length ≤ cur.length := by
      have := congrArg List.length hcl.2
      rw [List.length_take, nums_length] at this
      omega
    have hcs : ∀ j u, (nums .u8 bs)[j]? = some u → ∃ ad, A0 = some ad ∧ X'.cell? (ad.add j) = some u := by
      intro j u hu
      have hj := (List.getElem?_eq_some_iff.1 hu).1
      rw [nums_length] at hj
      obtain ⟨ad, e, hx⟩ := Kd.at_int (Kd.C_below HR0.out HB.out) (j : Int) (by omega) (by omega)
      refine ⟨ad, e, ?_⟩
      rw [Int.toNat_natCast] at hx
      rw [hx, ← hu]
      unfold nums rd
      rw [List.getElem?_map, Int.toNat_natCast, List.getD_eq_getElem?_getD, List.getElem?_eq_getElem hj]
      rfl
    obtain ⟨ad, rfl⟩ : ∃ ad, A0 = some ad := by
      obtain ⟨ad, e, _⟩ := hcs 0 _ (List.getElem?_eq_getElem (by rw [nums_length]; omega))
      exact ⟨ad, e⟩
    have HP : Aside0 (PutPost X B own m L a bs (.returned (.bool true)) (X'.setRow p.2 (cur.toArray.toList.take off ++ (nums .u8 bs ++ cur.toArray.toList.drop (off + (nums .u8 bs).length))).toArray)) := by
      refine ⟨?_⟩
      unfold PutPost putF
      rw [hf]
      dsimp only
      rw [hrk]
      dsimp only
      rw [hoff]
      refine ⟨rfl, ⟨v, ps, ?_⟩, ?_⟩
      · refine (HM.out.below HB.out).turn hpk hrk _ (length_splice _ _ _ hoffn) (fun i _ hne => setRow_other _ _ _ _ hne) (fun cap' hr' => ?_)
        rcases hr'.2 with ⟨h1, _⟩ | ⟨g, cp, c, h1, hBg, h2, h5, h6, h3, h4⟩
        · cases h1
        · cases h1
          rw [hcur] at h2
          cases h2
          refine ⟨by rw [nums_length, length_splice _ _ _ hoffn]; omega, .inr ⟨p.2, cap', _, rfl, hBg, setRow_heap _ _ _ _ _ _ hcur, h5, h6, ?_, ?_⟩⟩
          · have := length_splice cur off (nums .u8 bs) (by rw [nums_length]; omega)
            unfold splice at this
            simpa using this.trans (by simpa using h3)
          · rw [nums_splice, ← hcl.2, ← take_splice cur (nums .u8 bs) off r.data.length (by rw [nums_length]; exact hoffn) hle]
            simp [splice]
      · exact (below_out HB.out own).trans ⟨rfl, rfl, rfl, by simp [World.setRow], fun i _ hn => setRow_other _ _ _ _ (fun e => hn (by rw [e]; exact hreg.o2))⟩ (fun _ _ h => h)
    have hn1 : (nums .u8 bs).length = Nat.min bs.length bs.length := by rw [nums_length]; exact (Nat.min_self _).symm
    have HCS := Aside0.mk hcs
    have HCUR := Aside0.mk hcur
    have HFIT : Aside0 (off + (nums .u8 bs).length ≤ cur.toArray.size) := ⟨by rw [nums_length]; simp; omega⟩
    have HN1 := Aside0.mk hn1
    clear hf hpk hrk hhit hrow hreg hcur hcl hcs hh1 hh2 hh3 hn1
    rw [hoff]
    clear hoff hoffn hle
    go_wp2_with (refine wpList_copy_own rfl (.tmp 13) (.tmp 14) 26 26 rfl 5 Tryd.underlying26 (by kernel_rfl) p.2 off _ _ ad bs.length c0 rfl rfl cur.toArray 5 HCUR.out (nums .u8 bs) HN1.out (fun j u hu => by obtain ⟨ad', e, h⟩ := HCS.out j u hu; cases e; exact h) HFIT.out (fun u hu => by unfold nums at hu; obtain ⟨x, _, rfl⟩ := List.mem_map.1 hu; rfl) ?_)
    go_ret
    exact HP.out
end Go.Proofs.YtomnfkihieinbaaDoor.PAll
/- mem: Clone, Bytes, Len. -/
set_option linter.unusedVariables false
set_option linter.unusedSimpArgs false
namespace Go.Proofs.YtomnfkihieinbaaDoor.PAll
open Go.RowKit Go.Proofs.YtomnfkihieinbaaDoorW.PrintWords Go.Proofs.YtomnfkihieinbaaDoorW.PrintLast Go.Proofs.YtomnfkihieinbaaDoorW.PrintMore
theorem infoU8 : (Tryd.prog.info? 5).map (fun i => (i.zero, i.size, i.bytes)) = some (some (.int .u8 0), 1, 1) := by kernel_rfl
/-! ### slices.Clone at bytes -/
def slices_Clone_byte_byte.f (l0 : List Int) : Option (List Int) := if l0.length < 140737488355328 then some l0 else none
set_option maxHeartbeats 2000000 in
set_option maxRecDepth 100000 in
theorem slices_Clone_byte_byte.calls (A0 : Option Addr) (c0 : Nat) (l0 : List Int) (r : List Int) (w : World) (hr0 : Kd.C (Kd.int .u8) w A0 l0.length l0) (hc0 : l0.length ≤ c0) (h : slices_Clone_byte_byte.f l0 = some r) :
    Calls Tryd.prog 45 #[.slice A0 l0.length c0] w fun e w' => ∃ v0_ : Value, e = .returned (v0_) ∧ Kd.R (Kd.int .u8) 5 w' w.heap.size (fun _ => True) v0_ r ∧ Below w.heap.size w w' := by
  unfold slices_Clone_byte_byte.f at h
  by_cases hl : l0.length < 140737488355328
  case neg => rw [if_neg hl] at h; cases h
  rw [if_pos hl] at h
  obtain rfl := Option.some.inj h
  clear h
  have HR0 := Aside0.mk hr0
  have HC0 := Aside0.mk hc0
  have HL := Aside0.mk hl
  clear hr0 hc0 hl
  have heq := fun (W : World) (c : Nat) => Lib.run_eql_slice_nil (P := Tryd.prog) W 26 5 A0 l0.length c 0 0 Tryd.underlying26
  cases A0 with
  | none =>
    have hn : l0 = [] := by
      rcases Nat.eq_zero_or_pos l0.length with h0 | h0
      · exact List.eq_nil_of_length_eq_zero h0
      · obtain ⟨ad, h, _⟩ := HR0.out.2.2 h0
        cases h
    subst hn
    simp only [List.length_nil] at heq ⊢
    go_enter Tryd.func45, Tryd.ntmps45
    go_wp2
    go_ret
    exact ⟨_, rfl, Kd.R_nil _ _ _ _ _, Below.refl _ _⟩
  | some ad =>
    go_enter Tryd.func45, Tryd.ntmps45
    go_wp2_with (first | ((with_reducible refine gate_dst (N := 5) rfl ?_); refine Kd.R_lit (Kd.int .u8) _ 5 ?hg (N := 5) ?hd (xs := ([] : List Int)) (inner := []) (ok := fun _ => True) (okp := fun _ => True) ?hr ?hp (fun _ hk => hk) trivial (Below.refl _ _) (Nat.le_refl _) (by simp) ?_; (case hd => rfl); (case hg => rfl); (case hr => first | (go_simp; done) | (go_simp; rfl)); (case hp => exact (Reps.none _ _)); intro v1 w1 ho1 hb1 hg1 hnew1; clear hg1 hnew1; have HO1 := Aside0.mk ho1; have HB1 := Aside0.mk hb1; clear ho1 hb1) | ((with_reducible refine gate_builtin (b := .append) (xs := #[.tmp 5, .tmp 6]) rfl ?_); at_builtin; refine Kd.R_append_rows (Kd.int .u8) (w0 := w) w.heap.size rfl (.tmp 5) (.tmp 6) 26 5 (.int .u8 0) 1 rfl Tryd.underlying26 infoU8 rfl (by decide) (by omega) v1 [] l0 _ _ _ (fun _ => True) (fun _ => False) rfl rfl ?aO ?aR (fun _ _ h => h) (fun _ h => h.elim) ?aF ?aB ?aS ?aL ?_; (case aR => exact Kd.C_below HR0.out HB1.out); (case aB => exact HB1.out); (case aF => exact (fun _ _ => trivial)); (case aO => exact HO1.out); (case aS => exact HB1.out.size); (case aL => have := HL.out; simp only [List.length_nil]; omega); intro v2 w2 ho2 hb2 hg2 hat2; clear hg2 hat2; have HO2 := Aside0.mk ho2; have HB2 := Aside0.mk hb2; clear ho2 hb2))
    go_ret
    exact ⟨_, rfl, HO2.out, HB2.out⟩
/-! ### part of a row -/
theorem row_C {X : World} {B n : Nat} {v : Value} {xs : List Int} (h : X.ownsRow B 5 1 v n (nums .u8 xs)) : ∃ A c, v = .slice A n c ∧ n ≤ c ∧ xs.length = n ∧ Kd.C (Kd.int .u8) X A n xs := by
  have hl : xs.length = n := by have := h.1; rw [nums_length] at this; omega
  subst hl
  obtain ⟨A, c, rfl⟩ := own_slice h
  have hr : Kd.R (Kd.int .u8) 5 X B (fun _ => True) (.slice A xs.length c) xs := Kd.R_of_own (enc := fun x => .int .u8 x) (by simpa [encs, nums] using h) (fun _ _ => trivial)
  exact ⟨A, c, rfl, (Kd.R_reads' hr).2.1, rfl, (Kd.R_reads' hr).2.2⟩
theorem sub_C {X : World} {B n c cap off nn : Nat} {xs : List Int} (h : X.ownsRow B 5 1 (.slice (some ⟨c, 0, none⟩) n cap) n (nums .u8 xs)) (hfit : off + nn ≤ n) (hnn : 1 ≤ nn) : Kd.C (Kd.int .u8) X (some ⟨c, off, none⟩) nn ((xs.drop off).take nn) := by
  obtain ⟨A, c', he, hcap, hl, hC⟩ := row_C h
  cases he
  subst hl
  have hm := Kd.C_mid (lo := off) (hi := off + nn) (c := cap) hC (by omega) (by omega) hcap
  have e1 : ((xs.take (off + nn)).drop off) = (xs.drop off).take nn := by rw [List.drop_take, Nat.add_sub_cancel_left]
  have e2 : ((xs.drop off).take nn).length = nn := by rw [List.length_take, List.length_drop]; omega
  rw [if_neg (by omega), e1, e2] at hm
  have e3 : (some (⟨c, 0, none⟩ : Addr)).map (·.add (off * (Kd.int IntKind.u8).sz)) = some ⟨c, off, none⟩ := by
    show some ((⟨c, 0, none⟩ : Addr).add (off * 1)) = _
    rw [Nat.mul_one, add_plain]
  rw [e3] at hm
  exact hm
/-- What Bytes answers. -/
def bytesF (L : List Reg) (a n : Int) : Option (List Int) :=
  match L.findIdx? (hitR a n) with
  | none => none
  | some k => match L[k]? with
    | none => none
    | some r => some ((r.data.drop (a - r.base).toNat).take n.toNat)
def BytesPost (X : World) (L : List Reg) (a n : Int) (e : Ending) (X' : World) : Prop :=
  Below X.heap.size X X' ∧ ∃ v, e = .returned (.tuple #[v, .bool (bytesF L a n).isSome]) ∧ Kd.R (Kd.int .u8) 5 X' X.heap.size (fun _ => True) v ((bytesF L a n).getD [])
set_option maxHeartbeats 4000000 in
set_option maxRecDepth 100000 in
theorem mem_Bytes (X : World) (B : Nat) (own : Nat → Prop) (m : Nat) (L : List Reg) (a n : Int) (h : MemAt X B own m L) (hI : Inv L) (hl : L.length ≤ 1000000) (ha0 : 0 ≤ a) (ha1 : a < 18446744073709551616) (hn0 : -9223372036854775808 ≤ n) (hn1 : n < 9223372036854775808) :
    Calls Tryd.prog 22 #[.pointer (some ⟨m, 0, none⟩), .int .u64 a, .int .i64 n] X (BytesPost X L a n) := by
  obtain ⟨v, ps, hM⟩ := h
  have HM := Aside0.mk hM
  have HI := Aside0.mk hI
  have hA := Aside0.mk (mem_part X B own m L v ps a n hM hI hl ha0 ha1 hn0 hn1)
  have heq := fun (W : World) (b : Option Addr) (n c : Nat) => neq_nil (P := Tryd.prog) W 26 5 b n c Tryd.underlying26
  clear hM hI ha0 ha1 hn0 hn1
  go_enter Tryd.func22, Tryd.ntmps22
  go_wp2_with fail
  refine hA.out.mono ?_
  intro e X' hp
  obtain ⟨hb, hp⟩ := hp
  have HB := Aside0.mk hb
  clear hb
  cases hf : L.findIdx? (hitR a n) with
  | none =>
    rw [hf] at hp
    dsimp only at hp
    subst hp
    have HF : Aside0 (bytesF L a n = none) := ⟨by unfold bytesF; rw [hf]⟩
    have HC := Aside0.mk (slices_Clone_byte_byte.calls none 0 [] [] X' ⟨rfl, by show 0 ≤ _; omega, fun h => absurd h (by simp)⟩ (Nat.le_refl _) rfl)
    clear hf
    go_wp2_with fail
    refine HC.out.mono ?_
    rintro e X'' ⟨v', rfl, hr, hb⟩
    have HP : Aside0 (BytesPost X L a n (.returned (.tuple #[v', .bool false])) X'') := ⟨⟨below_then HB.out HB.out.size hb, v', by rw [HF.out]; rfl, by rw [HF.out]; exact Kd.R_lower hr HB.out.size⟩⟩
    clear hr hb
    go_wp2_with fail
    go_ret2
    exact HP.out
  | some k =>
    rw [hf] at hp
    dsimp only at hp
    obtain ⟨p, r, cap, hpk, hrk, hhit, hrow, rfl⟩ := hp
    obtain ⟨hh1, hh2, hh3⟩ := hit_iff.1 hhit
    obtain ⟨off, hoff⟩ : ∃ off : Nat, (a - r.base).toNat = off := ⟨_, rfl⟩
    obtain ⟨nn, rfl⟩ : ∃ nn : Nat, n = nn := ⟨n.toNat, by omega⟩
    have HF : Aside0 (bytesF L a nn = some ((r.data.drop off).take nn)) := ⟨by unfold bytesF; rw [hf]; dsimp only; rw [hrk]; dsimp only; rw [hoff, Int.toNat_natCast]⟩
    have hreg := HM.out.reg k p r hpk hrk
    obtain ⟨bs, hbs⟩ : ∃ bs, (r.data.drop off).take nn = bs := ⟨_, rfl⟩
    have hbl : bs.length = nn := by rw [← hbs, List.length_take, List.length_drop]; omega
    have hC := sub_C (row_keep hrow (fun k hk => by cases hk; exact HB.out.block p.2 hreg.lt.2)) (show off + nn ≤ r.data.length by omega) (by omega)
    have hsh := HI.out.short r (List.mem_of_getElem? hrk)
    have hcap : nn ≤ cap - off := by
      rcases hrow.2 with ⟨h1, _⟩ | ⟨g, cp, c, h1, _, _, h2, _⟩
      · cases h1
      · cases h1; omega
    rw [hbs] at hC HF
    have hcl := slices_Clone_byte_byte.calls (some ⟨p.2, off, none⟩) (cap - off) bs bs X' (by rw [hbl]; exact hC) (by omega) (by unfold slices_Clone_byte_byte.f; rw [if_pos (by omega)])
    rw [hbl] at hcl
    have HC := Aside0.mk hcl
    rw [Int.toNat_natCast, hoff]
    clear hf hpk hrk hhit hrow hh1 hh2 hh3 hoff hreg hbs hbl hC hsh hcap hcl
    go_wp2_with fail
    refine HC.out.mono ?_
    rintro e X'' ⟨v', rfl, hr, hb⟩
    have HP : Aside0 (BytesPost X L a nn (.returned (.tuple #[v', .bool true])) X'') := ⟨⟨below_then HB.out HB.out.size hb, v', by rw [HF.out]; rfl, by rw [HF.out]; exact Kd.R_lower hr HB.out.size⟩⟩
    clear hr hb
    go_wp2_with fail
    go_ret2
    exact HP.out
end Go.Proofs.YtomnfkihieinbaaDoor.PAll
/- mem: Len, Write. -/
set_option linter.unusedVariables false
set_option linter.unusedSimpArgs false
namespace Go.Proofs.YtomnfkihieinbaaDoor.PAll
open Go.RowKit Go.Proofs.YtomnfkihieinbaaDoorW.PrintWords Go.Proofs.YtomnfkihieinbaaDoorW.PrintLast Go.Proofs.YtomnfkihieinbaaDoorW.PrintMore
theorem mem_Len (X : World) (B : Nat) (own : Nat → Prop) (m : Nat) (L : List Reg) (h : MemAt X B own m L) : Calls Tryd.prog 20 #[.pointer (some ⟨m, 0, none⟩)] X fun e X' => e = .returned (.int .i64 L.length) ∧ X = X' := by
  obtain ⟨v, ps, h⟩ := h
  have hm0 := (blk2 h.blk).1
  obtain ⟨A0, c0, rfl⟩ : ∃ A0 c0, v = .slice A0 L.length c0 := own_slice h.row
  clear h
  go_enter Tryd.func20, Tryd.ntmps20
  go_wp2
  go_ret
  exact ⟨rfl, rfl⟩
def byteAt (x : Int) (i : Nat) : Int := x / 2 ^ (8 * i) % 256
def le (n : Nat) (x : Int) : List Int := (List.range n).map (byteAt x)
theorem le_succ (n : Nat) (x : Int) : le (n + 1) x = le n x ++ [byteAt x n] := by simp [le, List.range_succ]
/-- A row that is known whole reads as bytes. -/
theorem C_of_row {X : World} {g : Nat} {xs : List Int} (h : X.heap[g]? = some (.cells (nums .u8 xs).toArray 5 (0, 0))) (hl : xs.length ≤ maxLen) : Kd.C (Kd.int .u8) X (some ⟨g, 0, none⟩) xs.length xs := by
  have hr : X.ownsRow g 5 1 (.slice (some ⟨g, 0, none⟩) xs.length xs.length) xs.length (nums .u8 xs) :=
    ⟨by rw [nums_length]; omega, .inr ⟨g, xs.length, _, rfl, Nat.le_refl _, h, Nat.le_refl _, hl, by simp [nums_length], by rw [Nat.mul_one, ← nums_length .u8 xs]; exact List.take_length⟩⟩
  obtain ⟨A, c, he, _, _, hC⟩ := row_C hr
  cases he
  exact hC
end Go.Proofs.YtomnfkihieinbaaDoor.PAll
/- mem: slices.Backward over bytes, Read. -/
set_option linter.unusedVariables false
set_option linter.unusedSimpArgs false
namespace Go.Proofs.YtomnfkihieinbaaDoor.PAll
open Go.RowKit Go.Shelf Go.Proofs.YtomnfkihieinbaaDoorW.PrintWords Go.Proofs.YtomnfkihieinbaaDoorW.PrintLast Go.Proofs.YtomnfkihieinbaaDoorW.PrintMore
attribute [local go_sem] Oper.semAt_some
/-- The bytes from the last to the first, with their places. -/
def backL : Nat → List Int → List (Int × Int)
  | 0, _ => []
  | k + 1, xs => ((k : Int), rd xs k) :: backL k xs
/-- What a round keeps: what lay ahead of the call, and the box of the slice. -/
def Keep (n₀ Bn : Nat) (W W' : World) : Prop := Below n₀ W W' ∧ ∀ o : Obj, W.heap[Bn]? = some o → o.isCells = true → W'.heap[Bn]? = some o
theorem Keep.trans {n₀ Bn : Nat} {A B C : World} (h : Keep n₀ Bn A B) (k : Keep n₀ Bn B C) : Keep n₀ Bn A C :=
  ⟨h.1.trans k.1, fun o ho hc => k.2 o (h.2 o ho hc) hc⟩
/-- The number whose bytes are read from the last to the first. -/
def valB (l : List (Int × Int)) : Int := l.foldl (fun x it => x * 256 + it.2) 0
theorem valB_snoc (l : List (Int × Int)) (y : Int × Int) : valB (l ++ [y]) = valB l * 256 + y.2 := by unfold valB; rw [List.foldl_append]; rfl
theorem valB_range : ∀ (k : Nat) (l : List (Int × Int)), l.length = k → (∀ x ∈ l, 0 ≤ x.2 ∧ x.2 < 256) → 0 ≤ valB l ∧ valB l < 256 ^ k := by
  intro k
  induction k with
  | zero =>
    intro l hl _
    obtain rfl := List.eq_nil_of_length_eq_zero hl
    exact ⟨Int.le_refl _, by decide⟩
  | succ k ih =>
    intro l hl h
    obtain ⟨l', y, rfl⟩ : ∃ l' y, l = l' ++ [y] := ⟨l.dropLast, l.getLast (by intro e; rw [e] at hl; simp at hl), (List.dropLast_concat_getLast _).symm⟩
    rw [List.length_append, List.length_singleton] at hl
    obtain ⟨h1, h2⟩ := ih l' (by omega) (fun x hx => h x (List.mem_append_left _ hx))
    have hy := h y (List.mem_append_right _ List.mem_cons_self)
    rw [valB_snoc, Int.pow_succ]
    omega
/-- The number as the machine builds it, for any bytes at all. -/
def valM (l : List (Int × Int)) : Int := l.foldl (fun x it => bits .or .u64 (IntKind.u64.wrap (x * 256)) (IntKind.u64.wrap it.2)) 0
theorem backL_mem (xs : List Int) (h : ∀ x ∈ xs, 0 ≤ x ∧ x < 256) : ∀ (k : Nat), k ≤ xs.length → ∀ x ∈ backL k xs, 0 ≤ x.2 ∧ x.2 < 256 := by
  intro k
  induction k with
  | zero => intro _ x hx; cases hx
  | succ k ih =>
    intro hk x hx
    rcases List.mem_cons.1 hx with rfl | hx
    · exact h _ (by simp [rd, List.getElem?_eq_getElem (show k < xs.length by omega)])
    · exact ih (by omega) x hx
def leV (xs : List Int) : Int := valB (backL xs.length xs)
/-- What lies in the boxes behind some rounds. -/
structure RI (w : World) (Bx : Nat) (pre : List (Int × Int)) (W : World) : Prop where
  x : Boxed W Bx 30 (.int .u64 (valM pre))
  c : ∃ v, Boxed W (Bx + 1) 26 v
  b : Below w.heap.size w W
theorem box_turn {W W' : World} {row : Option Nat} {B : Nat} {t : TypeId} {v : Value} (h : Boxed W B t v) (hg : W.grownBy W' row) (hr : ∀ r, row = some r → ∃ o : Obj, W.heap[r]? = some o ∧ o.isCells = false) : Boxed W' B t v :=
  h.kept hg (fun e => by
    obtain ⟨o, ho, hc⟩ := hr B e.symm
    rw [show W.heap[B]? = _ from h] at ho; cases ho; cases hc)
theorem RI.own (w : World) (Bx B : Nat) (hB : w.heap.size ≤ B) : OwnFrom B (RI w Bx) := fun s W W' row h hg hr => by
  have hr' : ∀ r, row = some r → ∃ o : Obj, W.heap[r]? = some o ∧ o.isCells = false := fun r e => (hr r e).2
  obtain ⟨u, hu⟩ := h.c
  exact ⟨box_turn h.x hg hr', ⟨u, box_turn hu hg hr'⟩, h.b.grown hg h.b.size (fun k e => Nat.le_trans hB (hr k e).1)⟩
end Go.Proofs.YtomnfkihieinbaaDoor.PAll
