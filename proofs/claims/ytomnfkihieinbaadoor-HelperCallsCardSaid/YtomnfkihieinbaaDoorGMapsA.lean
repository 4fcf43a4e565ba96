/- The texts MapsSep, MapsBase, MapsW1, MapsW2, MapsW3, MapsW4, MapsW5, MapsW6, MapsW7, MapsW8 of this claim, joined. -/
import Derived.Test.YtomnfkihieinbaaDoorGRefB
import Derived.Maps.OwnSet
import Derived.StringKeys
import Derived.Laws.BytesArg
import Derived.Test.YtomnfkihieinbaaDoorPAllx1
import Derived.IntWalk
import Derived.Deep.RegionLaw
/- What owns which blocks: resources, their union, the frame; the program's memory and the reference's as resources. -/
set_option linter.unusedVariables false
set_option linter.unusedSimpArgs false
namespace Go.Proofs.YtomnfkihieinbaaDoor.PAll
open Go.RowKit Go.Shelf Go.Proofs.YtomnfkihieinbaaDoorW.PrintWords Go.Proofs.YtomnfkihieinbaaDoorW.PrintLast Go.Proofs.YtomnfkihieinbaaDoorW.PrintMore
/-- What lies in the blocks 'own' of a world. -/
structure Res where
  at_ : World → (Nat → Prop) → Prop
  keep : ∀ {X X' : World} {own : Nat → Prop}, at_ X own → (∀ k, own k → k < X.heap.size → X'.heap[k]? = X.heap[k]?) → at_ X' own
/-- Two resources side by side. -/
def Res.and (R F : Res) : Res where
  at_ X own := ∃ o1 o2 : Nat → Prop, (∀ k, own k ↔ o1 k ∨ o2 k) ∧ (∀ k, o1 k → ¬ o2 k) ∧ R.at_ X o1 ∧ F.at_ X o2
  keep := fun {X X' own} ⟨o1, o2, h1, h2, h3, h4⟩ hk => ⟨o1, o2, h1, h2, R.keep h3 (fun k hk' => hk k ((h1 k).2 (.inl hk'))), F.keep h4 (fun k hk' => hk k ((h1 k).2 (.inr hk')))⟩
def Res.none : Res := ⟨fun _ own => ∀ k, ¬ own k, fun h _ => h⟩
/-- The resource lies in the world; the blocks 'fr' are none of its own. -/
def Has (X : World) (fr : Nat → Prop) (R : Res) : Prop := (∀ k, fr k → k < X.heap.size) ∧ ∃ own : Nat → Prop, (∀ k, own k → ¬ fr k ∧ k < X.heap.size) ∧ R.at_ X own
/-- What lies in 'fr' stays. -/
def Kept (fr : Nat → Prop) (X X' : World) : Prop := Out (fun k => ¬ fr k) X X'
theorem Kept.refl (fr : Nat → Prop) (X : World) : Kept fr X X := Out.refl _ _
theorem Kept.trans {fr : Nat → Prop} {X Y Z : World} (h : Kept fr X Y) (k : Kept fr Y Z) : Kept fr X Z := Out.trans h k (fun _ _ h => h)
theorem Kept.mono {fr fr' : Nat → Prop} {X Y : World} (h : Kept fr X Y) (hf : ∀ k, fr' k → fr k) : Kept fr' X Y := Out.mono h (fun k _ hn hf' => hn (hf k hf'))
theorem below_kept {X Y : World} (h : Below X.heap.size X Y) (fr : Nat → Prop) : Kept fr X Y := below_out h _
theorem Kept.size {fr : Nat → Prop} {X Y : World} (h : Kept fr X Y) : X.heap.size ≤ Y.heap.size := Out.size h
theorem Kept.block {fr : Nat → Prop} {X Y : World} (h : Kept fr X Y) {k : Nat} (hk : k < X.heap.size) (hf : fr k) : Y.heap[k]? = X.heap[k]? := Out.block h k hk (fun hn => hn hf)
theorem Kept.cell {fr : Nat → Prop} {X Y : World} (h : Kept fr X Y) {g o : Nat} {v : Value} (hf : fr g) (hc : X.cell? ⟨g, o, none⟩ = some v) : Y.cell? ⟨g, o, none⟩ = some v := by
  have := h.block (World.block_lt_of_cell? X _ hc) hf
  unfold World.cell? at hc ⊢
  rw [this]
  exact hc
theorem Kept.below {fr : Nat → Prop} {X Y : World} (h : Kept fr X Y) {n : Nat} (hn : n ≤ X.heap.size) (hf : ∀ k, k < n → fr k) : Below n X Y := Out.below h hn (fun k hk => by
  rcases Nat.lt_or_ge k n with h' | h'
  · exact absurd (hf k h') hk
  · exact h')
theorem Has.fr {X : World} {fr : Nat → Prop} {R : Res} (h : Has X fr R) : ∀ k, fr k → k < X.heap.size := h.1
theorem Has.below {X X' : World} {fr : Nat → Prop} {R : Res} (h : Has X fr R) (hb : Below X.heap.size X X') : Has X' fr R := by
  obtain ⟨h0, own, h1, h2⟩ := h
  exact ⟨fun k hk => Nat.lt_of_lt_of_le (h0 k hk) hb.size, own, fun k hk => ⟨(h1 k hk).1, Nat.lt_of_lt_of_le (h1 k hk).2 hb.size⟩, R.keep h2 (fun k _ hk => hb.block k hk)⟩
theorem Has.weaken {X : World} {fr fr' : Nat → Prop} {R : Res} (h : Has X fr R) (hf : ∀ k, fr' k → fr k) : Has X fr' R := by
  obtain ⟨h0, own, h1, h2⟩ := h
  exact ⟨fun k hk => h0 k (hf k hk), own, fun k hk => ⟨fun h => (h1 k hk).1 (hf k h), (h1 k hk).2⟩, h2⟩
/-- A block that is new, or nobody's, is let alone. -/
theorem Has.more {X X' : World} {fr : Nat → Prop} {R : Res} (h : Has X fr R) (hb : Below X.heap.size X X') : Has X' (fun k => fr k ∨ (X.heap.size ≤ k ∧ k < X'.heap.size)) R := by
  obtain ⟨h0, own, h1, h2⟩ := h
  refine ⟨?_, own, fun k hk => ⟨?_, Nat.lt_of_lt_of_le (h1 k hk).2 hb.size⟩, R.keep h2 (fun k _ hk => hb.block k hk)⟩
  · rintro k (hk | hk)
    · exact Nat.lt_of_lt_of_le (h0 k hk) hb.size
    · exact hk.2
  · rintro (h | h)
    · exact (h1 k hk).1 h
    · have := (h1 k hk).2; omega
theorem Has.swap {X : World} {fr : Nat → Prop} {R F : Res} (h : Has X fr (R.and F)) : Has X fr (F.and R) := by
  obtain ⟨h0, own, h1, o1, o2, e1, e2, e3, e4⟩ := h
  exact ⟨h0, own, h1, o2, o1, fun k => (e1 k).trans Or.comm, fun k h h' => e2 k h' h, e4, e3⟩
theorem Has.left {X : World} {fr : Nat → Prop} {R F : Res} (h : Has X fr (R.and F)) : Has X fr R := by
  obtain ⟨h0, own, h1, o1, o2, e1, e2, e3, e4⟩ := h
  exact ⟨h0, o1, fun k hk => h1 k ((e1 k).2 (.inl hk)), e3⟩
theorem Has.imp {X : World} {fr : Nat → Prop} {R R' : Res} (h : Has X fr R) (hi : ∀ own, R.at_ X own → R'.at_ X own) : Has X fr R' := by
  obtain ⟨h0, own, h1, h2⟩ := h
  exact ⟨h0, own, h1, hi own h2⟩
theorem frame_post {X X' : World} {fr : Nat → Prop} {own o1 o2 : Nat → Prop} {R' F : Res} (h0 : ∀ k, fr k → k < X.heap.size) (h1 : ∀ k, own k → ¬ fr k ∧ k < X.heap.size) (e1 : ∀ k, own k ↔ o1 k ∨ o2 k) (e4 : F.at_ X o2)
    (hg : Has X' (fun k => fr k ∨ o2 k) R') (hk : Kept (fun k => fr k ∨ o2 k) X X') : Has X' fr (R'.and F) ∧ Kept fr X X' := by
  obtain ⟨g0, own', g1, g2⟩ := hg
  refine ⟨⟨fun k hk => g0 k (.inl hk), fun k => own' k ∨ o2 k, ?_, own', o2, fun k => Iff.rfl, fun k hk h => (g1 k hk).1 (.inr h), g2, F.keep e4 (fun k hk' hlt => hk.block hlt (.inr hk'))⟩, hk.mono (fun k h => .inl h)⟩
  rintro k (h | h)
  · exact ⟨fun hf => (g1 k h).1 (.inl hf), (g1 k h).2⟩
  · exact ⟨(h1 k ((e1 k).2 (.inr h))).1, g0 k (.inr h)⟩
/-- The frame: what a call does to R it does to R beside F. -/
theorem frameC {P : Program} {f : Nat} {args : Array Value} {X : World} {fr : Nat → Prop} {R R' F : Res} {E : Ending → World → Prop} (h : Has X fr (R.and F))
    (hop : ∀ fr', (∀ k, fr k → fr' k) → Has X fr' R → Calls P f args X fun e X' => E e X' ∧ Has X' fr' R' ∧ Kept fr' X X') : Calls P f args X fun e X' => E e X' ∧ Has X' fr (R'.and F) ∧ Kept fr X X' := by
  obtain ⟨h0, own, h1, o1, o2, e1, e2, e3, e4⟩ := h
  refine (hop (fun k => fr k ∨ o2 k) (fun k h => .inl h) ⟨?_, o1, fun k hk => ⟨?_, (h1 k ((e1 k).2 (.inl hk))).2⟩, e3⟩).mono ?_
  · rintro k (hk | hk)
    · exact h0 k hk
    · exact (h1 k ((e1 k).2 (.inr hk))).2
  · rintro (h | h)
    · exact (h1 k ((e1 k).2 (.inl hk))).1 h
    · exact e2 k hk h
  · rintro e X' ⟨he, hg, hk⟩
    exact ⟨he, frame_post h0 h1 e1 e4 hg hk⟩
/-! ### the two memories -/
def raddG (R : List Reg) (base : Int) (bs : List Int) : List Reg := if addOk R base bs.length then R ++ [⟨base, bs⟩] else R
/-- The program's memory in block m holds the regions K. -/
def PM (m : Nat) (K : List Reg) : Res where
  at_ X own := ∃ L, MemAt X 0 own m L ∧ Inv L ∧ L.Perm K
  keep := fun ⟨L, h1, h2, h3⟩ hk => ⟨L, h1.keep (fun k hlt ho => hk k ho hlt), h2, h3⟩
/-- The reference's memory in block b holds the regions R. -/
def RM (b : Nat) (R : List Reg) : Res where
  at_ X own := RefAt X 0 own b R ∧ DL R
  keep := fun ⟨h1, h2⟩ hk => ⟨h1.keep (fun k hlt ho => hk k ho hlt), h2⟩
theorem Has.dlP {X : World} {fr : Nat → Prop} {m : Nat} {K : List Reg} (h : Has X fr (PM m K)) : DL K := by
  obtain ⟨h0, own, h1, L, h2, h3, h4⟩ := h
  exact (inv_DL h3).perm h4
theorem Has.permP {X : World} {fr : Nat → Prop} {m : Nat} {K K' : List Reg} (h : Has X fr (PM m K)) (hp : K.Perm K') : Has X fr (PM m K') := h.imp (fun own ⟨L, h1, h2, h3⟩ => ⟨L, h1, h2, h3.trans hp⟩)
theorem pm_lift {X X' : World} {fr own : Nat → Prop} {m : Nat} {L' K' : List Reg} (h0 : ∀ k, fr k → k < X.heap.size) (h1 : ∀ k, own k → ¬ fr k ∧ k < X.heap.size) (hm : MemAt X' 0 (orNew own X) m L') (ho : Out own X X') (hI : Inv L') (hp : L'.Perm K') : Has X' fr (PM m K') ∧ Kept fr X X' := by
  refine ⟨⟨fun k hk => Nat.lt_of_lt_of_le (h0 k hk) ho.size, fun k => orNew own X k ∧ k < X'.heap.size, ?_, L', hm.bound, hI, hp⟩, ho.mono (fun k _ hk => (h1 k hk).1)⟩
  rintro k ⟨hk, hlt⟩
  rcases hk with hk | hk
  · exact ⟨(h1 k hk).1, hlt⟩
  · exact ⟨fun h => by have := h0 k h; omega, hlt⟩
theorem rm_lift {X X' : World} {fr own : Nat → Prop} {b : Nat} {R' : List Reg} (h0 : ∀ k, fr k → k < X.heap.size) (h1 : ∀ k, own k → ¬ fr k ∧ k < X.heap.size) (hm : RefAt X' 0 (orNew own X) b R') (ho : Out own X X') (hI : DL R') : Has X' fr (RM b R') ∧ Kept fr X X' := by
  refine ⟨⟨fun k hk => Nat.lt_of_lt_of_le (h0 k hk) ho.size, fun k => orNew own X k ∧ k < X'.heap.size, ?_, hm.bound, hI⟩, ho.mono (fun k _ hk => (h1 k hk).1)⟩
  rintro k ⟨hk, hlt⟩
  rcases hk with hk | hk
  · exact ⟨(h1 k hk).1, hlt⟩
  · exact ⟨fun h => by have := h0 k h; omega, hlt⟩
/-! ### the program's operations -/
theorem pm_add (X : World) (fr : Nat → Prop) (m : Nat) (K : List Reg) (base : Int) (A0 : Option Addr) (c0 : Nat) (bs : List Int) (h : Has X fr (PM m K)) (hl : K.length ≤ 999999) (ha0 : 0 ≤ base) (ha1 : base < 18446744073709551616) (hr0 : Kd.C (Kd.int .u8) X A0 bs.length bs) (hc0 : bs.length ≤ c0) (hbl : bs.length ≤ 4294967296) (hw : ∀ x ∈ bs, 0 ≤ x ∧ x < 256) :
    Calls Tryd.prog 30 #[.pointer (some ⟨m, 0, none⟩), .int .u64 base, .slice A0 bs.length c0] X fun e X' => e = .returned (.bool (addOk K base bs.length)) ∧ Has X' fr (PM m (addG K base bs)) ∧ Kept fr X X' := by
  have hT := h
  obtain ⟨h0, own, h1, L, h2, h3, h4⟩ := h
  refine (mem_Add X 0 own m L base A0 c0 bs h2 h3 (by rw [h4.length_eq]; exact hl) (Nat.zero_le _) ha0 ha1 hr0 hc0 hbl).mono ?_
  intro e X' hp
  unfold AddPost at hp
  unfold addG
  rw [← addOk_perm h4]
  by_cases ho : addOk L base bs.length = true
  · rw [if_pos ho] at hp
    rw [if_pos ho, ho]
    obtain ⟨rfl, ⟨i, hi, hm⟩, hout⟩ := hp
    obtain ⟨g1, g2⟩ := pm_lift h0 h1 hm hout (inv_insert h3 ho ha0 hw hbl hi) ((ins_perm L _ i).trans (h4.cons _))
    exact ⟨rfl, g1, g2⟩
  · rw [if_neg ho] at hp
    rw [if_neg ho]
    have ho' : addOk L base bs.length = false := by simpa using ho
    rw [ho']
    exact ⟨hp.1, hT.below hp.2, below_kept hp.2 _⟩
theorem pm_rem (X : World) (fr : Nat → Prop) (m : Nat) (K : List Reg) (a : Int) (h : Has X fr (PM m K)) (hl : K.length ≤ 999999) (ha0 : 0 ≤ a) (ha1 : a < 18446744073709551616) :
    Calls Tryd.prog 82 #[.pointer (some ⟨m, 0, none⟩), .int .u64 a] X fun e X' => e = .returned (.bool (K.any (fun r => r.base == a))) ∧ Has X' fr (PM m (remR K a)) ∧ Kept fr X X' := by
  have hT := h
  obtain ⟨h0, own, h1, L, h2, h3, h4⟩ := h
  refine (mem_Remove X 0 own m L a h2 h3 (by rw [h4.length_eq]; omega) ha0 ha1).mono ?_
  intro e X' hp
  unfold RemPost at hp
  obtain ⟨e1, e2⟩ := remF_eq h3 a
  rw [← any_perm h4, ← e1]
  cases hf : remF L a with
  | none =>
    rw [hf] at hp e2
    have hpp : K.Perm (remR K a) := h4.symm.trans ((by rw [show L = remR L a from e2]; exact rem_perm h4 a : L.Perm (remR K a)))
    exact ⟨hp.1, (hT.below hp.2).permP hpp, below_kept hp.2 _⟩
  | some L' =>
    rw [hf] at hp e2
    have e3 : L' = remR L a := e2
    subst e3
    obtain ⟨g1, g2⟩ := pm_lift h0 h1 (hp.2.1.mono (fun _ _ h => .inl h)) hp.2.2 (inv_rem h3 a) (rem_perm h4 a)
    exact ⟨hp.1, g1, g2⟩
theorem pm_bytes (X : World) (fr : Nat → Prop) (m : Nat) (K : List Reg) (a n : Int) (h : Has X fr (PM m K)) (hl : K.length ≤ 999999) (ha0 : 0 ≤ a) (ha1 : a < 18446744073709551616) (hn0 : -9223372036854775808 ≤ n) (hn1 : n < 9223372036854775808) :
    Calls Tryd.prog 22 #[.pointer (some ⟨m, 0, none⟩), .int .u64 a, .int .i64 n] X (BytesPost X K a n) := by
  obtain ⟨h0, own, h1, L, h2, h3, h4⟩ := h
  refine (mem_Bytes X 0 own m L a n h2 h3 (by rw [h4.length_eq]; omega) ha0 ha1 hn0 hn1).mono ?_
  intro e X' hp
  unfold BytesPost at hp ⊢
  rw [← bytesF_perm (inv_DL h3) h4]
  exact hp
theorem pm_put_post {X X' : World} {fr own : Nat → Prop} {m : Nat} {K L : List Reg} {a : Int} {bs : List Int} {e : Ending} (hw : ∀ x ∈ bs, 0 ≤ x ∧ x < 256) (h0 : ∀ k, fr k → k < X.heap.size) (h1 : ∀ k, own k → ¬ fr k ∧ k < X.heap.size) (h2 : MemAt X 0 own m L) (h3 : Inv L) (h4 : L.Perm K) (hp : PutPost X 0 own m L a bs e X') :
    e = .returned (.bool (K.any (hitR a bs.length))) ∧ Has X' fr (PM m (putG K a bs)) ∧ Kept fr X X' := by
  have hT : Has X fr (PM m K) := ⟨h0, own, h1, L, h2, h3, h4⟩
  unfold PutPost at hp
  rw [← any_perm h4]
  cases hf : putF L a bs with
  | none =>
    rw [hf] at hp
    obtain ⟨e1, e2⟩ := putF_none hf
    have hpp : K.Perm (putG K a bs) := h4.symm.trans ((by rw [e2]; exact put_perm h4 a bs : L.Perm (putG K a bs)))
    rw [e1]
    exact ⟨hp.1, (hT.below hp.2).permP hpp, below_kept hp.2 _⟩
  | some L' =>
    rw [hf] at hp
    obtain ⟨e1, e2⟩ := putF_some (inv_DL h3) hf
    subst e2
    rw [e1]
    obtain ⟨g1, g2⟩ := pm_lift h0 h1 (hp.2.1.mono (fun _ _ h => .inl h)) hp.2.2 (inv_put h3 hw) (put_perm h4 a bs)
    exact ⟨hp.1, g1, g2⟩
theorem pm_put (X : World) (fr : Nat → Prop) (m : Nat) (K : List Reg) (a : Int) (A0 : Option Addr) (c0 : Nat) (bs : List Int) (h : Has X fr (PM m K)) (hl : K.length ≤ 999999) (ha0 : 0 ≤ a) (ha1 : a < 18446744073709551616) (hr0 : Kd.C (Kd.int .u8) X A0 bs.length bs) (hbl : bs.length ≤ 4294967296) (hw : ∀ x ∈ bs, 0 ≤ x ∧ x < 256) :
    Calls Tryd.prog 81 #[.pointer (some ⟨m, 0, none⟩), .int .u64 a, .slice A0 bs.length c0] X fun e X' => e = .returned (.bool (K.any (hitR a bs.length))) ∧ Has X' fr (PM m (putG K a bs)) ∧ Kept fr X X' := by
  obtain ⟨h0, own, h1, L, h2, h3, h4⟩ := h
  exact (mem_Put X 0 own m L a A0 c0 bs h2 h3 (by rw [h4.length_eq]; omega) ha0 ha1 hr0 (by omega)).mono fun e X' hp => pm_put_post hw h0 h1 h2 h3 h4 hp
theorem pm_len (X : World) (fr : Nat → Prop) (m : Nat) (K : List Reg) (h : Has X fr (PM m K)) : Calls Tryd.prog 20 #[.pointer (some ⟨m, 0, none⟩)] X fun e X' => e = .returned (.int .i64 K.length) ∧ X = X' := by
  obtain ⟨h0, own, h1, L, h2, h3, h4⟩ := h
  rw [← h4.length_eq]
  exact mem_Len X 0 own m L h2
theorem pm_new (X : World) (fr : Nat → Prop) (h0 : ∀ k, fr k → k < X.heap.size) : Calls Tryd.prog 29 #[] X fun e X' => e = .returned (.pointer (some ⟨X.heap.size, 0, none⟩)) ∧ Has X' fr (PM X.heap.size []) ∧ Below X.heap.size X X' := by
  refine (mem_New X).mono ?_
  rintro e X' ⟨he, hm, hb⟩
  obtain ⟨v, ps, q⟩ := hm
  have hlt := (Array.getElem?_eq_some_iff.1 q.blk).1
  refine ⟨he, ⟨fun k hk => Nat.lt_of_lt_of_le (h0 k hk) hb.size, fun k => k = X.heap.size, fun k hk => ⟨fun h => by have := h0 k h; omega, by omega⟩, [], ⟨v, ps, q.blk, q.om, Nat.zero_le _, own_weaken q.row (Nat.zero_le _), q.orow, q.len, fun i p r hp hr => by simp at hr, q.nd⟩, inv_nil, List.Perm.refl _⟩, hb⟩
/-! ### the reference's operations -/
theorem rm_add (X : World) (fr : Nat → Prop) (b : Nat) (R : List Reg) (base : Int) (A0 : Option Addr) (c0 : Nat) (bs : List Int) (h : Has X fr (RM b R)) (hl : R.length ≤ 999999) (ha0 : 0 ≤ base) (ha1 : base < 18446744073709551616) (hr0 : Kd.C (Kd.int .u8) X A0 bs.length bs) (hc0 : bs.length ≤ c0) (hbl : bs.length ≤ 4294967296) (hw : ∀ x ∈ bs, 0 ≤ x ∧ x < 256) :
    Calls Tryd.prog 18 #[.pointer (some ⟨b, 0, none⟩), .int .u64 base, .slice A0 bs.length c0] X fun e X' => e = .returned (.bool (addOk R base bs.length)) ∧ Has X' fr (RM b (raddG R base bs)) ∧ Kept fr X X' := by
  have hT := h
  obtain ⟨h0, own, h1, h7, h8⟩ := h
  refine (ref_Add X 0 own b R base A0 c0 bs h7 h8.ok hl (Nat.zero_le _) ha0 ha1 hr0 hc0 hbl).mono ?_
  intro e X' hp
  unfold RAddPost at hp
  unfold raddG
  by_cases ho : addOk R base bs.length = true
  · rw [if_pos ho] at hp
    rw [if_pos ho, ho]
    obtain ⟨g1, g2⟩ := rm_lift h0 h1 hp.2.1 hp.2.2 ((h8.add ha0 hw hbl ho).perm (List.perm_append_singleton _ _).symm)
    exact ⟨hp.1, g1, g2⟩
  · rw [if_neg ho] at hp
    rw [if_neg ho]
    have ho' : addOk R base bs.length = false := by simpa using ho
    rw [ho']
    exact ⟨hp.1, hT.below hp.2, below_kept hp.2 _⟩
theorem rm_rem (X : World) (fr : Nat → Prop) (b : Nat) (R : List Reg) (a : Int) (h : Has X fr (RM b R)) (hl : R.length ≤ 999999) :
    Calls Tryd.prog 63 #[.pointer (some ⟨b, 0, none⟩), .int .u64 a] X fun e X' => e = .returned (.bool (R.any (fun r => r.base == a))) ∧ Has X' fr (RM b (remR R a)) ∧ Kept fr X X' := by
  obtain ⟨h0, own, h1, h7, h8⟩ := h
  refine (ref_Remove X 0 own b R a h7 (by omega) (Nat.zero_le _)).mono ?_
  intro e X' hp
  unfold RemRPost at hp
  obtain ⟨g1, g2⟩ := rm_lift h0 h1 hp.2.1 hp.2.2 (h8.rem a)
  rw [← rem_lt]
  exact ⟨hp.1, g1, g2⟩
theorem rm_bytes (X : World) (fr : Nat → Prop) (b : Nat) (R : List Reg) (a n : Int) (h : Has X fr (RM b R)) (hl : R.length ≤ 999999) (ha0 : 0 ≤ a) (ha1 : a < 18446744073709551616) (hn0 : -9223372036854775808 ≤ n) (hn1 : n < 9223372036854775808) :
    Calls Tryd.prog 40 #[.pointer (some ⟨b, 0, none⟩), .int .u64 a, .int .i64 n] X (BytesPost X R a n) := by
  obtain ⟨h0, own, h1, h7, h8⟩ := h
  exact ref_Bytes X 0 own b R a n h7 h8.ok (by omega) ha0 ha1 hn0 hn1
theorem rm_put_post {X X' : World} {fr own : Nat → Prop} {b : Nat} {R : List Reg} {a : Int} {bs : List Int} {e : Ending} (hw : ∀ x ∈ bs, 0 ≤ x ∧ x < 256) (h0 : ∀ k, fr k → k < X.heap.size) (h1 : ∀ k, own k → ¬ fr k ∧ k < X.heap.size) (h7 : RefAt X 0 own b R) (h8 : DL R) (hp : RPutPost X 0 own b R a bs e X') :
    e = .returned (.bool (R.any (hitR a bs.length))) ∧ Has X' fr (RM b (putG R a bs)) ∧ Kept fr X X' := by
  have hT : Has X fr (RM b R) := ⟨h0, own, h1, h7, h8⟩
  unfold RPutPost at hp
  cases hf : putF R a bs with
  | none =>
    rw [hf] at hp
    obtain ⟨e1, e2⟩ := putF_none hf
    rw [e1, ← e2]
    exact ⟨hp.1, hT.below hp.2, below_kept hp.2 _⟩
  | some L' =>
    rw [hf] at hp
    obtain ⟨e1, e2⟩ := putF_some h8 hf
    subst e2
    rw [e1]
    obtain ⟨g1, g2⟩ := rm_lift h0 h1 (hp.2.1.mono (fun _ _ h => .inl h)) hp.2.2 (h8.put hw)
    exact ⟨hp.1, g1, g2⟩
theorem rm_put (X : World) (fr : Nat → Prop) (b : Nat) (R : List Reg) (a : Int) (A0 : Option Addr) (c0 : Nat) (bs : List Int) (h : Has X fr (RM b R)) (hl : R.length ≤ 999999) (ha0 : 0 ≤ a) (ha1 : a < 18446744073709551616) (hr0 : Kd.C (Kd.int .u8) X A0 bs.length bs) (hbl : bs.length < 4294967296) (hw : ∀ x ∈ bs, 0 ≤ x ∧ x < 256) (hA : 0 < bs.length → ∀ ad, A0 = some ad → fr ad.block) :
    Calls Tryd.prog 62 #[.pointer (some ⟨b, 0, none⟩), .int .u64 a, .slice A0 bs.length c0] X fun e X' => e = .returned (.bool (R.any (hitR a bs.length))) ∧ Has X' fr (RM b (putG R a bs)) ∧ Kept fr X X' := by
  obtain ⟨h0, own, h1, h7, h8⟩ := h
  exact (ref_Put X 0 own b R a A0 c0 bs h7 h8.ok (by omega) ha0 ha1 hbl hr0 (fun hp ad e ho => (h1 _ ho).1 (hA hp ad e))).mono fun e X' hp => rm_put_post hw h0 h1 h7 h8 hp
end Go.Proofs.YtomnfkihieinbaaDoor.PAll
/- The program's maps: what lies in the heap. -/
set_option linter.unusedVariables false
set_option linter.unusedSimpArgs false
namespace Go.Proofs.YtomnfkihieinbaaDoor.PAll
open Go.RowKit Go.Shelf Go.Maps Go.Proofs.YtomnfkihieinbaaDoorW.PrintWords Go.Proofs.YtomnfkihieinbaaDoorW.PrintLast Go.Proofs.YtomnfkihieinbaaDoorW.PrintMore
/-! ### keys -/
def IsBytes (l : List Int) : Prop := ∀ x ∈ l, 0 ≤ x ∧ x < 256
def kl (key : List Int) : Lit := .string (strOfNums key).data.toList
theorem strOfNums_inj {a b : List Int} (ha : IsBytes a) (hb : IsBytes b) (h : (strOfNums a).data.toList = (strOfNums b).data.toList) : a = b := by
  rw [strOfNums_data, strOfNums_data] at h
  have hl : a.length = b.length := by simpa using congrArg List.length h
  apply List.ext_getElem hl
  intro i h1 h2
  have e : (a.map fun n => UInt8.ofNat n.toNat)[i]? = (b.map fun n => UInt8.ofNat n.toNat)[i]? := by rw [h]
  rw [List.getElem?_map, List.getElem?_map, List.getElem?_eq_getElem h1, List.getElem?_eq_getElem h2] at e
  have e2 : UInt8.ofNat a[i].toNat = UInt8.ofNat b[i].toNat := Option.some.inj e
  obtain ⟨a1, a2⟩ := ha _ (List.getElem_mem h1)
  obtain ⟨b1, b2⟩ := hb _ (List.getElem_mem h2)
  have e3 := congrArg UInt8.toNat e2
  rw [UInt8.toNat_ofNat', UInt8.toNat_ofNat', Nat.mod_eq_of_lt (by omega), Nat.mod_eq_of_lt (by omega)] at e3
  omega
theorem kl_inj {a b : List Int} (ha : IsBytes a) (hb : IsBytes b) (h : kl a = kl b) : a = b := strOfNums_inj ha hb (Lit.string.inj h)
theorem kl_ne {a b : List Int} (ha : IsBytes a) (hb : IsBytes b) (h : a ≠ b) : kl a ≠ kl b := fun e => h (kl_inj ha hb e)
theorem keyLit (key : List Int) : WideAt.IsKeyLit (kl key) := trivial
theorem strLaw : Keyed Tryd.prog 9 := string_keyed Tryd.underlying9
theorem zeroU64 (w : World) : (zeroValue 30).run Tryd.prog w = .ok (.int .u64 0) w := by kernel_rfl
theorem keyOf_kl (key : List Int) (h : key.length ≤ maxLen) : keyOf Tryd.prog 9 (.string (strOfNums key)) = some (kl key) := WideMaps.keyOf_string_mk Tryd.underlying9 (by rw [strOfNums_size]; exact h)
/-- The bytes of a key, made a string. -/
theorem conv_key {w : World} {A : Option Addr} {key : List Int} (c : Nat) (h : Kd.C (Kd.int .u8) w A key.length key) : (convert 26 9 (.slice A key.length c)).run Tryd.prog w = .ok (.string (strOfNums key)) w := by
  cases A with
  | none =>
    have hk : key = [] := by
      rcases Nat.eq_zero_or_pos key.length with h0 | h0
      · exact List.eq_nil_of_length_eq_zero h0
      · obtain ⟨ad, e, _⟩ := h.2.2 h0
        cases e
    subst hk
    exact run_convert_bytes_nil w 26 5 Tryd.underlying26 Tryd.underlying5 0 c 9 Tryd.underlying9
  | some ad =>
    have hl : (loadCells ad key.length).run Tryd.prog w = .ok (key.map (Value.int .u8)).toArray w := by
      have := run_loadCells_list (P := Tryd.prog) w ad (key.map (Value.int .u8)) (fun j v hj => by
        have hjl : j < key.length := by
          have := (List.getElem?_eq_some_iff.1 hj).1
          simpa using this
        obtain ⟨ad', e, hx⟩ := Kd.at_int h (j : Int) (by omega) (by omega)
        cases e
        rw [Int.toNat_natCast] at hx
        rw [hx, ← hj, List.getElem?_map, List.getElem?_eq_getElem hjl]
        unfold rd
        rw [Int.toNat_natCast, List.getD_eq_getElem?_getD, List.getElem?_eq_getElem hjl]
        rfl)
      simpa using this
    rw [run_convert_bytes_string w _ _ 5 (some ad) key.length c Tryd.underlying26 Tryd.underlying5 Tryd.underlying9, run_bytesToString w ad key.length c key hl, foldl_push_bytes]
    simp [strOfNums, ByteArray.empty, ByteArray.emptyWithCapacity]
    rfl
/-! ### entries -/
structure MapS where
  name : ByteArray
  key : Int
  value : Int
  entries : Int
  ents : List (List Int × Int)
  next : Int
def lookE (ents : List (List Int × Int)) (key : List Int) : Option Int := (ents.find? (fun e => decide (e.1 = key))).map (·.2)
/-- What the map in memory holds of the entries. -/
structure MRel (D : DataW Unit) (ents : List (List Int × Int)) : Prop where
  tidy : Tidy D
  has : ∀ key, IsBytes key → Maps.has D (kl key) = (lookE ents key).isSome
  at_ : ∀ key n, IsBytes key → lookE ents key = some n → D.atKey (kl key) (.lit (.int .u64 0)) = .lit (.int .u64 n)
  size : Maps.size D = ents.length
  wf : ∀ e ∈ ents, IsBytes e.1
theorem MRel.start : MRel (.map []) [] := ⟨tidy_empty, fun key _ => by rfl, fun key n _ h => by simp [lookE] at h, rfl, fun e he => by simp at he⟩
theorem lookE_snoc (ents : List (List Int × Int)) (key : List Int) (n : Int) (k : List Int) (h : lookE ents key = none) : lookE (ents ++ [(key, n)]) k = if k = key then some n else lookE ents k := by
  unfold lookE at h ⊢
  rw [List.find?_append]
  by_cases hk : k = key
  · subst hk
    rw [if_pos rfl]
    have : ents.find? (fun e => decide (e.1 = k)) = none := by simpa using h
    rw [this]
    simp
  · rw [if_neg hk]
    cases hf : ents.find? (fun e => decide (e.1 = k)) with
    | none =>
      have : ¬ key = k := fun e => hk e.symm
      simp [this]
    | some e => rfl
theorem MRel.put {D : DataW Unit} {ents : List (List Int × Int)} (h : MRel D ents) {key : List Int} (hk : IsBytes key) (n : Int) (hn : lookE ents key = none) : MRel (D.put (kl key) (.lit (.int .u64 n))) (ents ++ [(key, n)]) := by
  refine ⟨h.tidy.put (keyLit key) _, fun k hkb => ?_, fun k m hkb hm => ?_, ?_, ?_⟩
  · rw [lookE_snoc _ _ _ _ hn]
    by_cases e : k = key
    · subst e
      rw [has_put_same h.tidy.isMap (keyLit k), if_pos rfl]
      rfl
    · rw [has_put_other (kl_ne hkb hk e), if_neg e, h.has k hkb]
  · rw [lookE_snoc _ _ _ _ hn] at hm
    by_cases e : k = key
    · subst e
      rw [if_pos rfl] at hm
      cases hm
      exact atKey_put_same h.tidy.isMap (keyLit k) _ _
    · rw [if_neg e] at hm
      rw [atKey_put_other (kl_ne hkb hk e)]
      exact h.at_ k m hkb hm
  · rw [size_put h.tidy, h.has key hk, hn]
    simp [h.size]
  · intro e he
    rcases List.mem_append.1 he with he | he
    · exact h.wf e he
    · rw [List.mem_singleton.1 he]; exact hk
def delE (ents : List (List Int × Int)) (key : List Int) : List (List Int × Int) := ents.filter (fun e => decide (e.1 ≠ key))
theorem lookE_del (ents : List (List Int × Int)) (key k : List Int) : lookE (delE ents key) k = if k = key then none else lookE ents k := by
  unfold lookE delE
  by_cases hk : k = key
  · subst hk
    rw [if_pos rfl]
    have : (ents.filter (fun e => decide (e.1 ≠ k))).find? (fun e => decide (e.1 = k)) = none := by
      rw [List.find?_eq_none]
      intro e he
      have := (List.mem_filter.1 he).2
      simpa using this
    rw [this]
    rfl
  · rw [if_neg hk, find_filter_keep (f := fun e : List Int × Int => decide (e.1 = k)) (g := fun e : List Int × Int => decide (e.1 ≠ key)) (fun p hp => by
      simp only [decide_eq_true_eq] at hp ⊢
      rw [hp]
      exact hk)]
/-- No key stands twice. -/
def NoTwice (ents : List (List Int × Int)) : Prop := (ents.map (·.1)).Nodup
theorem lookE_mem {ents : List (List Int × Int)} {key : List Int} : (lookE ents key).isSome = true ↔ key ∈ ents.map (·.1) := by
  unfold lookE
  rw [Option.isSome_map, List.find?_isSome, List.mem_map]
  constructor
  · rintro ⟨e, he, h⟩; exact ⟨e, he, by simpa using h⟩
  · rintro ⟨e, he, h⟩; exact ⟨e, he, by simpa using h⟩
theorem del_length {ents : List (List Int × Int)} (hnd : NoTwice ents) {key : List Int} : (delE ents key).length + (if (lookE ents key).isSome then 1 else 0) = ents.length := by
  induction ents with
  | nil => rfl
  | cons e ents ih =>
    unfold NoTwice at hnd
    rw [List.map_cons, List.nodup_cons] at hnd
    have ih := ih hnd.2
    by_cases hk : e.1 = key
    · have h1 : lookE (e :: ents) key = some e.2 := by simp [lookE, hk]
      have h2 : (lookE ents key).isSome = false := by
        rw [Bool.eq_false_iff]
        intro h
        rw [lookE_mem, ← hk] at h
        exact hnd.1 h
      have h3 : delE (e :: ents) key = delE ents key := by simp [delE, hk]
      rw [h1, h3]
      rw [h2] at ih
      simp at ih ⊢
      exact ih
    · have h1 : lookE (e :: ents) key = lookE ents key := by simp [lookE, hk]
      have h3 : delE (e :: ents) key = e :: delE ents key := by simp [delE, hk]
      rw [h1, h3, List.length_cons, List.length_cons]
      omega
theorem MRel.del {D : DataW Unit} {ents : List (List Int × Int)} (h : MRel D ents) (hnd : NoTwice ents) {key : List Int} (hk : IsBytes key) : MRel (D.del (kl key)) (delE ents key) := by
  refine ⟨h.tidy.del _, fun k hkb => ?_, fun k m hkb hm => ?_, ?_, fun e he => h.wf e (List.mem_filter.1 he).1⟩
  · rw [lookE_del]
    by_cases e : k = key
    · subst e
      rw [has_del_same, if_pos rfl]
      rfl
    · rw [has_del_other (kl_ne hkb hk e), if_neg e, h.has k hkb]
  · rw [lookE_del] at hm
    by_cases e : k = key
    · rw [if_pos e] at hm; cases hm
    · rw [if_neg e] at hm
      rw [atKey_del_other (kl_ne hkb hk e)]
      exact h.at_ k m hkb hm
  · have h1 := size_del h.tidy (k := kl key)
    have h2 := del_length hnd (key := key)
    rw [h.has key hk, h.size] at h1
    cases hs : (lookE ents key).isSome <;> rw [hs] at h1 h2 <;> simp at h1 h2 <;> omega
/-! ### resources -/
/-- The number of entries that is told is no greater than it must be. -/
theorem ownsMap_tight {w : World} {P : Program} {k : TypeId} {R : Value → Option (DataW Unit × List MemPlace)} {b n : Nat} {D : DataW Unit} (h : w.ownsMap P k R b n D) : w.ownsMap P k R b (Maps.size D) D := by
  obtain ⟨es, clock, hb, F, _, rfl⟩ := h
  exact ⟨es, clock, hb, F, by show es.size ≤ (List.foldr DataW.insert [] _).length; rw [length_read]; exact Nat.le_refl _, rfl⟩
def oneCells (s : MapS) (mb : Nat) : List Value := [.string s.name, .int .i64 s.key, .int .i64 s.value, .int .i64 s.entries, .map (some mb), .int .u64 s.next]
/-- One map's struct lies in block ob, its Go map in block mb. -/
def OneR (ob mb : Nat) (s : MapS) : Res where
  at_ X own := (∀ k, own k ↔ k = ob ∨ k = mb) ∧ ob ≠ mb ∧ X.heap[ob]? = some (.cells (oneCells s mb).toArray 94 (0, 0)) ∧ ∃ D, X.ownsMap Tryd.prog 9 (plainElem Tryd.prog 30) mb (Maps.size D) D ∧ MRel D s.ents
  keep := fun {X X' own} ⟨h1, h2, h3, D, h4, h5⟩ hk => by
    have hlt : ob < X.heap.size := (Array.getElem?_eq_some_iff.1 h3).1
    refine ⟨h1, h2, (hk ob ((h1 ob).2 (.inl rfl)) hlt).trans h3, D, ?_, h5⟩
    obtain ⟨es, clock, hb, F, hn, he⟩ := h4
    exact ⟨es, clock, (hk mb ((h1 mb).2 (.inr rfl)) (Array.getElem?_eq_some_iff.1 hb).1).trans hb, F, hn, he⟩
def Ones : List (Nat × Nat) → List MapS → Res
  | p :: ps, s :: S => (OneR p.1 p.2 s).and (Ones ps S)
  | _, _ => Res.none
theorem ones_split : ∀ (ps : List (Nat × Nat)) (S : List MapS) (i : Nat) (p : Nat × Nat) (s : MapS), ps[i]? = some p → S[i]? = some s →
    ∃ F : Res, (∀ X own, (Ones ps S).at_ X own → ((OneR p.1 p.2 s).and F).at_ X own) ∧ (∀ s' X own, ((OneR p.1 p.2 s').and F).at_ X own → (Ones ps (S.set i s')).at_ X own)
  | [], _, i, p, s, h, _ => by simp at h
  | _ :: _, [], i, p, s, _, h => by simp at h
  | q :: ps, t :: S, 0, p, s, hp, hs => by
    simp at hp hs
    subst hp; subst hs
    exact ⟨Ones ps S, fun X own h => h, fun s' X own h => h⟩
  | q :: ps, t :: S, i + 1, p, s, hp, hs => by
    obtain ⟨F, hF1, hF2⟩ := ones_split ps S i p s (by simpa using hp) (by simpa using hs)
    refine ⟨(OneR q.1 q.2 t).and F, fun X own h => ?_, fun s' X own h => ?_⟩
    · obtain ⟨o1, o2, h1, h2, h3, h4⟩ := h
      obtain ⟨o3, o4, g1, g2, g3, g4⟩ := hF1 X o2 h4
      refine ⟨o3, fun k => o1 k ∨ o4 k, fun k => ?_, ?_, g3, o1, o4, fun k => Iff.rfl, fun k hk hk' => h2 k hk ((g1 k).2 (.inr hk')), h3, g4⟩
      · rw [h1, g1]
        constructor
        · rintro (h | h | h); exact .inr (.inl h); exact .inl h; exact .inr (.inr h)
        · rintro (h | h | h); exact .inr (.inl h); exact .inl h; exact .inr (.inr h)
      · rintro k hk (h | h)
        · exact h2 k h ((g1 k).2 (.inl hk))
        · exact g2 k hk h
    · obtain ⟨o3, o5, h1, h2, h3, o1, o4, f1, f2, f3, f4⟩ := h
      refine ⟨o1, fun k => o3 k ∨ o4 k, fun k => ?_, ?_, f3, hF2 s' X _ ⟨o3, o4, fun k => Iff.rfl, fun k hk hk' => h2 k hk ((f1 k).2 (.inr hk')), h3, f4⟩⟩
      · rw [h1, f1]
        constructor
        · rintro (h | h | h); exact .inr (.inl h); exact .inl h; exact .inr (.inr h)
        · rintro (h | h | h); exact .inr (.inl h); exact .inl h; exact .inr (.inr h)
      · rintro k hk (h | h)
        · exact h2 k h ((f1 k).2 (.inl hk))
        · exact f2 k hk h
/-- The struct Maps lies in block t: its list in v, its memory in block m. -/
def HeadR (t m : Nat) (v : Value) (ps : List (Nat × Nat)) : Res where
  at_ X own := (∀ k, own k ↔ k = t ∨ v.ownBlock = some k) ∧ X.heap[t]? = some (.cells #[v, .pointer (some ⟨m, 0, none⟩)] 103 (0, 0)) ∧ X.ownsRow 0 89 1 v ps.length (ps.map fun p => ptr p.1)
  keep := fun {X X' own} ⟨h1, h2, h3⟩ hk => by
    refine ⟨h1, (hk t ((h1 t).2 (.inl rfl)) (Array.getElem?_eq_some_iff.1 h2).1).trans h2, row_keep h3 (fun k hk' => hk k ((h1 k).2 (.inr hk')) (own_lt h3 k hk'))⟩
/-- The program's maps. -/
def MP (t m : Nat) (v : Value) (ps : List (Nat × Nat)) (S : List MapS) : Res := (HeadR t m v ps).and (Ones ps S)
end Go.Proofs.YtomnfkihieinbaaDoor.PAll
/- maps: get, Index, Def. -/
set_option linter.unusedVariables false
set_option linter.unusedSimpArgs false
namespace Go.Proofs.YtomnfkihieinbaaDoor.PAll
open Go.RowKit Go.Shelf Go.Maps Go.Proofs.YtomnfkihieinbaaDoorW.PrintWords Go.Proofs.YtomnfkihieinbaaDoorW.PrintLast Go.Proofs.YtomnfkihieinbaaDoorW.PrintMore
theorem mp_head {X : World} {own : Nat → Prop} {t m : Nat} {v : Value} {ps : List (Nat × Nat)} {S : List MapS} (h : (MP t m v ps S).at_ X own) : ∃ A c, v = .slice A ps.length c ∧ X.cell? ⟨t, 0, none⟩ = some v ∧ X.cell? ⟨t, 1, none⟩ = some (.pointer (some ⟨m, 0, none⟩)) ∧ own t ∧ t < X.heap.size ∧ ∀ (i : Nat) (p : Nat × Nat), ps[i]? = some p → ∃ g, A = some ⟨g, 0, none⟩ ∧ X.cell? ⟨g, i, none⟩ = some (.pointer (some ⟨p.1, 0, none⟩)) := by
  obtain ⟨o1, o2, h1, h2, ⟨f1, f2, f3⟩, h4⟩ := h
  obtain ⟨A, c, rfl⟩ := own_slice f3
  refine ⟨A, c, rfl, (blk2 f2).1, (blk2 f2).2.1, (h1 t).2 (.inl ((f1 t).2 (.inl rfl))), (Array.getElem?_eq_some_iff.1 f2).1, fun i p hp => ?_⟩
  obtain ⟨g, cap, hv, hc, _⟩ := row_cell f3 (i := i) (u := ptr p.1) (by rw [List.getElem?_map, hp]; rfl)
  injection hv with e1 e2 e3
  exact ⟨g, e1, hc⟩
theorem mp_one {X : World} {own : Nat → Prop} {t m : Nat} {v : Value} {ps : List (Nat × Nat)} {S : List MapS} (h : (MP t m v ps S).at_ X own) {i : Nat} {p : Nat × Nat} {s : MapS} (hp : ps[i]? = some p) (hs : S[i]? = some s) :
    ∃ D, X.heap[p.1]? = some (.cells (oneCells s p.2).toArray 94 (0, 0)) ∧ X.ownsMap Tryd.prog 9 (plainElem Tryd.prog 30) p.2 (Maps.size D) D ∧ MRel D s.ents ∧ own p.1 ∧ own p.2 ∧ p.1 ≠ p.2 := by
  obtain ⟨o1, o2, h1, h2, h3, h4⟩ := h
  obtain ⟨F, hF, _⟩ := ones_split ps S i p s hp hs
  obtain ⟨o3, o4, g1, g2, ⟨k1, k2, k3, D, k4, k5⟩, g4⟩ := hF X o2 h4
  exact ⟨D, k3, k4, k5, (h1 _).2 (.inr ((g1 _).2 (.inl ((k1 _).2 (.inl rfl))))), (h1 _).2 (.inr ((g1 _).2 (.inl ((k1 _).2 (.inr rfl))))), k2⟩
theorem one_cell {X : World} {ob mb : Nat} {s : MapS} (h : X.heap[ob]? = some (.cells (oneCells s mb).toArray 94 (0, 0))) :
    X.cell? ⟨ob, 0, none⟩ = some (.string s.name) ∧ X.cell? ⟨ob, 1, none⟩ = some (.int .i64 s.key) ∧ X.cell? ⟨ob, 2, none⟩ = some (.int .i64 s.value) ∧ X.cell? ⟨ob, 3, none⟩ = some (.int .i64 s.entries) ∧ X.cell? ⟨ob, 4, none⟩ = some (.map (some mb)) ∧ X.cell? ⟨ob, 5, none⟩ = some (.int .u64 s.next) ∧ X.frozen? ⟨ob, 5, none⟩ = false :=
  ⟨(blk_cell h 0).trans rfl, (blk_cell h 1).trans rfl, (blk_cell h 2).trans rfl, (blk_cell h 3).trans rfl, (blk_cell h 4).trans rfl, (blk_cell h 5).trans rfl, by simp [World.frozen?, h]⟩
/-- The map with an index. -/
def getP {α : Type} (ps : List α) (i : Int) : Option α := if 0 ≤ i then ps[i.toNat]? else none
def ptrO (o : Option (Nat × Nat)) : Value := match o with | none => .pointer none | some p => .pointer (some ⟨p.1, 0, none⟩)
set_option maxHeartbeats 1000000 in
set_option maxRecDepth 100000 in
theorem get_c (X : World) (own : Nat → Prop) (t m : Nat) (v : Value) (ps : List (Nat × Nat)) (S : List MapS) (i : Int) (h : (MP t m v ps S).at_ X own) (hl : ps.length ≤ 100000) :
    Calls Tryd.prog 34 #[.pointer (some ⟨t, 0, none⟩), .int .i64 i] X fun e X' => e = .returned (ptrO (getP ps i)) ∧ X = X' := by
  obtain ⟨A, c, rfl, h0, h1, _, _, hp⟩ := mp_head h
  unfold getP
  by_cases hi : 0 ≤ i
  · obtain ⟨n, rfl⟩ : ∃ n : Nat, i = n := ⟨i.toNat, by omega⟩
    rw [if_pos hi, Int.toNat_natCast]
    by_cases hn : n < ps.length
    · have e1 : ps[n]? = some ps[n] := List.getElem?_eq_getElem hn
      obtain ⟨p, hpe⟩ : ∃ p, ps[n]? = some p := ⟨_, e1⟩
      obtain ⟨g, rfl, hc⟩ := hp n p hpe
      rw [hpe]
      have hn0 : (0 : Int) ≤ (n : Int) := by omega
      have hn1 : (n : Int) < (ps.length : Int) := by omega
      clear h hp e1 hpe
      go_enter Tryd.func34, Tryd.ntmps34
      go_wp2
      go_ret
      exact ⟨rfl, rfl⟩
    · have e1 : ps[n]? = none := List.getElem?_eq_none (by omega)
      rw [e1]
      clear h hp e1
      go_enter Tryd.func34, Tryd.ntmps34
      go_wp2
      go_ret
      exact ⟨rfl, rfl⟩
  · rw [if_neg hi]
    clear h hp
    go_enter Tryd.func34, Tryd.ntmps34
    go_wp2
    go_ret
    exact ⟨rfl, rfl⟩
/-- What Index answers. -/
def indexF (n : Nat) (hd : Int) : Int × Bool := if 2305843009213693952 ≤ hd ∧ hd < 2305843009213693952 + n then (hd - 2305843009213693952, true) else (0, false)
set_option maxHeartbeats 1000000 in
set_option maxRecDepth 100000 in
theorem index_c (X : World) (own : Nat → Prop) (t m : Nat) (v : Value) (ps : List (Nat × Nat)) (S : List MapS) (hd : Int) (h : (MP t m v ps S).at_ X own) (hl : ps.length ≤ 100000) (h0 : 0 ≤ hd) (h1 : hd < 18446744073709551616) :
    Calls Tryd.prog 28 #[.pointer (some ⟨t, 0, none⟩), .int .u64 hd] X fun e X' => e = .returned (.tuple #[.int .i64 (indexF ps.length hd).1, .bool (indexF ps.length hd).2]) ∧ X = X' := by
  obtain ⟨A, c, rfl, hc0, hc1, _, _, hp⟩ := mp_head h
  clear h hp
  unfold indexF
  by_cases hlt : hd < 2305843009213693952
  · rw [if_neg (by omega)]
    have hd1 : decide (hd < 2305843009213693952) = true := decide_eq_true hlt
    go_enter Tryd.func28, Tryd.ntmps28
    go_wp2
    go_ret2
    exact ⟨rfl, rfl⟩
  · have hd1 : decide (hd < 2305843009213693952) = false := decide_eq_false hlt
    obtain ⟨n, hn⟩ : ∃ n : Nat, hd = 2305843009213693952 + n := ⟨(hd - 2305843009213693952).toNat, by omega⟩
    have hsub : IntKind.u64.wrap (hd - 2305843009213693952) = n := by rw [u64_mod]; omega
    have hlen : IntKind.u64.wrap (ps.length : Int) = ps.length := by rw [u64_mod]; exact Int.emod_eq_of_lt (by omega) (by omega)
    have hconv : IntKind.i64.wrap (n : Int) = n ∨ ¬ n < ps.length := by
      by_cases hh : n < ps.length
      · left; exact IntWalk.i64_in _ (by omega)
      · exact .inr hh
    by_cases hh : n < ps.length
    · rw [if_pos (by omega), show hd - 2305843009213693952 = (n : Int) by omega]
      have hconv := hconv.resolve_right (fun h => h hh)
      have hnn : n < 100000 := by omega
      clear h0 h1 hn
      go_enter Tryd.func28, Tryd.ntmps28
      go_wp2
      go_ret2
      exact ⟨rfl, rfl⟩
    · rw [if_neg (by omega)]
      have hnn : ps.length ≤ n := by omega
      clear h0 h1 hn hconv
      go_enter Tryd.func28, Tryd.ntmps28
      go_wp2
      go_ret2
      exact ⟨rfl, rfl⟩
end Go.Proofs.YtomnfkihieinbaaDoor.PAll
/- maps: Lookup. -/
set_option linter.unusedVariables false
set_option linter.unusedSimpArgs false
namespace Go.Proofs.YtomnfkihieinbaaDoor.PAll
open Go.RowKit Go.Shelf Go.Maps Go.Proofs.YtomnfkihieinbaaDoorW.PrintWords Go.Proofs.YtomnfkihieinbaaDoorW.PrintLast Go.Proofs.YtomnfkihieinbaaDoorW.PrintMore
def addrI (i n : Int) : Int := (IntKind.u64.wrap (4611686018427387904 + (IntKind.u64.wrap ((IntKind.u64.wrap i) * 281474976710656)))) + (IntKind.u64.wrap (n * 65536))
def addrF (i n : Int) : Int := IntKind.u64.wrap (addrI i n)
theorem addr_c (i n : Int) (w : World) : Calls Tryd.prog 35 #[.int .i64 i, .int .u64 n] w fun e w' => e = .returned (.int .u64 (addrF i n)) ∧ ∃ k, w' = w.drewN k :=
  (maps_address.calls i n (addrF i n) w rfl).mono fun e w' h => ⟨h.1, by obtain ⟨k, hk⟩ := h.2.out; exact ⟨k, hk⟩⟩
theorem u64_rng (z : Int) : 0 ≤ IntKind.u64.wrap z ∧ IntKind.u64.wrap z < 18446744073709551616 := by
  have h := u64_mod z
  omega
theorem addr_range (i n : Int) : 0 ≤ addrF i n ∧ addrF i n < 18446744073709551616 := u64_rng (addrI i n)
/-- What a look-up in the Go map gives. -/
theorem look_run {X : World} {mb : Nat} {D : DataW Unit} {ents : List (List Int × Int)} (h : X.ownsMap Tryd.prog 9 (plainElem Tryd.prog 30) mb (Maps.size D) D) (hm : MRel D ents) {key : List Int} (hk : IsBytes key) (hl : key.length ≤ maxLen) :
    ∃ n, (Instr.lookup 92 (.map (some mb)) (.string (strOfNums key)) true).run Tryd.prog X = .ok (.tuple #[.int .u64 n, .bool (lookE ents key).isSome]) X ∧ ∀ n', lookE ents key = some n' → n = n' := by
  obtain ⟨v, ps, hr, hv⟩ := h.look_ok strLaw Tryd.underlying92 (zeroU64 X) (plainElem_int Tryd.underlying30 (by decide)) (keyOf_kl key hl)
  obtain ⟨c, rfl, hc, _⟩ := plainElem_int_inv Tryd.underlying30 hv
  refine ⟨c, by rw [← hm.has key hk]; exact hr, fun n' hn' => ?_⟩
  have := hm.at_ key n' hk hn'
  have e : D.atKey (kl key) (.lit (.int .u64 0)) = .lit (.int .u64 c) := congrArg Prod.fst hc
  rw [this] at e
  have e2 : Lit.int .u64 n' = Lit.int .u64 c := by
    cases e
    rfl
  have e3 : n' = c := by
    cases e2
    rfl
  exact e3.symm
def lookF (S : List MapS) (i : Int) (key : List Int) : Int := match getP S i with
  | none => 0
  | some s => match lookE s.ents key with
    | none => 0
    | some n => addrF i n
theorem getP_len {α β : Type} {ps : List α} {S : List β} (hl : ps.length = S.length) (i : Int) : (getP ps i = none ∧ getP S i = none) ∨ ∃ (n : Nat) (p : α) (s : β), i = n ∧ ps[n]? = some p ∧ S[n]? = some s ∧ getP ps i = some p ∧ getP S i = some s := by
  unfold getP
  by_cases hi : 0 ≤ i
  · rw [if_pos hi, if_pos hi]
    rcases Nat.lt_or_ge i.toNat ps.length with h | h
    · exact .inr ⟨i.toNat, ps[i.toNat], S[i.toNat]'(by omega), by omega, List.getElem?_eq_getElem h, List.getElem?_eq_getElem (by omega), List.getElem?_eq_getElem h, List.getElem?_eq_getElem (by omega)⟩
    · exact .inl ⟨List.getElem?_eq_none h, List.getElem?_eq_none (by omega)⟩
  · rw [if_neg hi, if_neg hi]
    exact .inl ⟨rfl, rfl⟩
set_option maxHeartbeats 2000000 in
set_option maxRecDepth 100000 in
theorem lookup_c (X : World) (own : Nat → Prop) (t m : Nat) (v : Value) (ps : List (Nat × Nat)) (S : List MapS) (i : Int) (A0 : Option Addr) (c0 : Nat) (key : List Int) (h : (MP t m v ps S).at_ X own) (hl : ps.length ≤ 100000) (hps : ps.length = S.length) (hk : Kd.C (Kd.int .u8) X A0 key.length key) (hkb : IsBytes key) :
    Calls Tryd.prog 12 #[.pointer (some ⟨t, 0, none⟩), .int .i64 i, .slice A0 key.length c0] X fun e X' => e = .returned (.int .u64 (lookF S i key)) ∧ ∃ k, X' = X.drewN k := by
  have HG := Aside0.mk (get_c X own t m v ps S i h hl)
  obtain ⟨r, hr⟩ : ∃ r, lookF S i key = r := ⟨_, rfl⟩
  rw [hr]
  unfold lookF at hr
  rcases getP_len hps i with ⟨e1, e2⟩ | ⟨n, p, s, rfl, hp, hs, e1, e2⟩
  · rw [e1] at HG
    rw [e2] at hr
    dsimp only at hr
    subst hr
    clear h hk e1 e2
    unfold ptrO at HG
    go_enter Tryd.func12, Tryd.ntmps12
    go_wp2_with fail
    refine HG.out.mono ?_
    rintro e X' ⟨rfl, rfl⟩
    go_wp2_with fail
    go_ret
    exact ⟨rfl, 0, rfl⟩
  · rw [e1] at HG
    rw [e2] at hr
    dsimp only at hr
    unfold ptrO at HG
    obtain ⟨D, hb, hM, hR, _, _, _⟩ := mp_one h hp hs
    obtain ⟨_, _, _, _, hc4, _, _⟩ := one_cell hb
    have hc4' : X.drew.cell? ⟨p.1, 4, none⟩ = some (.map (some p.2)) := hc4
    have hconv := conv_key (w := X.drew) c0 hk
    obtain ⟨z, hlook, hz⟩ := look_run (X := X.drew) hM hR hkb (by have := hk.2.1; unfold maxLen; exact this)
    have HZ := Aside0.mk hz
    clear h hk e1 e2 hb hM hR hp hs hc4 hz
    cases hle : lookE s.ents key with
    | none =>
      rw [hle] at hlook hr
      dsimp only at hr
      subst hr
      simp only [Option.isSome_none] at hlook
      clear hle
      go_enter Tryd.func12, Tryd.ntmps12
      go_wp2_with fail
      refine HG.out.mono ?_
      rintro e X' ⟨rfl, rfl⟩
      go_wp2_with fail
      go_region_held3 (fun w' => w'.cell? ⟨p.1, 4, none⟩ = some (.map (some p.2)) ∧ (convert 26 9 (.slice A0 key.length c0)).run Tryd.prog w' = .ok (.string (strOfNums key)) w' ∧ (Instr.lookup 92 (.map (some p.2)) (.string (strOfNums key)) true).run Tryd.prog w' = .ok (.tuple #[.int .u64 z, .bool false]) w') ((exact ⟨hc4', hconv, hlook⟩)) (fail)
      go_wp2_with fail
      go_ret
      exact ⟨rfl, _, rfl⟩
    | some z' =>
      rw [hle] at hlook hr
      dsimp only at hr
      subst hr
      simp only [Option.isSome_some] at hlook
      obtain rfl := HZ.out z' hle
      clear hle
      go_enter Tryd.func12, Tryd.ntmps12
      go_wp2_with fail
      refine HG.out.mono ?_
      rintro e X' ⟨rfl, rfl⟩
      go_wp2_with fail
      go_region_held3 (fun w' => w'.cell? ⟨p.1, 4, none⟩ = some (.map (some p.2)) ∧ (convert 26 9 (.slice A0 key.length c0)).run Tryd.prog w' = .ok (.string (strOfNums key)) w' ∧ (Instr.lookup 92 (.map (some p.2)) (.string (strOfNums key)) true).run Tryd.prog w' = .ok (.tuple #[.int .u64 z, .bool true]) w') ((exact ⟨hc4', hconv, hlook⟩)) (fail)
      go_wp2_with fail
      refine (addr_c _ _ _).mono ?_
      rintro e X' ⟨rfl, k, rfl⟩
      go_wp2_with fail
      go_ret
      exact ⟨rfl, _, rfl⟩
end Go.Proofs.YtomnfkihieinbaaDoor.PAll
/- maps: Update. -/
set_option linter.unusedVariables false
set_option linter.unusedSimpArgs false
namespace Go.Proofs.YtomnfkihieinbaaDoor.PAll
open Go.RowKit Go.Shelf Go.Maps Go.Proofs.YtomnfkihieinbaaDoorW.PrintWords Go.Proofs.YtomnfkihieinbaaDoorW.PrintLast Go.Proofs.YtomnfkihieinbaaDoorW.PrintMore
/-- One map turns, the others stay. -/
theorem mp_turn {X Y : World} {own : Nat → Prop} {t m : Nat} {v : Value} {ps : List (Nat × Nat)} {S : List MapS} (h : (MP t m v ps S).at_ X own) {i : Nat} {p : Nat × Nat} {s : MapS} (hp : ps[i]? = some p) (hs : S[i]? = some s) (s' : MapS)
    (hk : ∀ k, own k → k < X.heap.size → k ≠ p.1 → k ≠ p.2 → Y.heap[k]? = X.heap[k]?) (hb : Y.heap[p.1]? = some (.cells (oneCells s' p.2).toArray 94 (0, 0))) {D : DataW Unit} {n : Nat} (hM : Y.ownsMap Tryd.prog 9 (plainElem Tryd.prog 30) p.2 n D) (hR : MRel D s'.ents) :
    (MP t m v ps (S.set i s')).at_ Y own := by
  obtain ⟨o1, o2, h1, h2, h3, h4⟩ := h
  obtain ⟨F, hF1, hF2⟩ := ones_split ps S i p s hp hs
  obtain ⟨o3, o4, g1, g2, ⟨k1, k2, k3, _, _, _⟩, g4⟩ := hF1 X o2 h4
  refine ⟨o1, o2, h1, h2, (HeadR t m v ps).keep h3 (fun k hk1 hlt => hk k ((h1 k).2 (.inl hk1)) hlt ?_ ?_), hF2 s' Y o2 ⟨o3, o4, g1, g2, ⟨k1, k2, hb, D, ownsMap_tight hM, hR⟩, F.keep g4 (fun k hk4 hlt => hk k ((h1 k).2 (.inr ((g1 k).2 (.inr hk4)))) hlt ?_ ?_)⟩⟩
  · rintro rfl; exact h2 _ hk1 ((g1 _).2 (.inl ((k1 _).2 (.inl rfl))))
  · rintro rfl; exact h2 _ hk1 ((g1 _).2 (.inl ((k1 _).2 (.inr rfl))))
  · rintro rfl; exact g2 _ ((k1 _).2 (.inl rfl)) hk4
  · rintro rfl; exact g2 _ ((k1 _).2 (.inr rfl)) hk4
def updR (S : List MapS) (i : Int) (key value : List Int) : Int := match getP S i with
  | none => -22
  | some s => if (key.length : Int) = s.key ∧ (value.length : Int) = s.value then match lookE s.ents key with
    | some _ => 0
    | none => if (s.ents.length : Int) ≥ s.entries then -7 else 0
    else -22
def updS (S : List MapS) (i : Int) (key value : List Int) : List MapS := match getP S i with
  | none => S
  | some s => if (key.length : Int) = s.key ∧ (value.length : Int) = s.value then match lookE s.ents key with
    | some _ => S
    | none => if (s.ents.length : Int) ≥ s.entries then S else S.set i.toNat { s with ents := s.ents ++ [(key, s.next)], next := IntKind.u64.wrap (s.next + 1) }
    else S
def updK (S : List MapS) (K : List Reg) (i : Int) (key value : List Int) : List Reg := match getP S i with
  | none => K
  | some s => if (key.length : Int) = s.key ∧ (value.length : Int) = s.value then match lookE s.ents key with
    | some n => putG K (addrF i n) value
    | none => if (s.ents.length : Int) ≥ s.entries then K else addG K (addrF i s.next) value
    else K
/-- What an update walks in: what is known of the world. -/
structure UpdIn (X : World) (t m ob mb : Nat) (s : MapS) (A1 A2 : Option Addr) (c1 c2 : Nat) (key value : List Int) (D : DataW Unit) : Prop where
  ct : X.cell? ⟨t, 1, none⟩ = some (.pointer (some ⟨m, 0, none⟩))
  hb : X.heap[ob]? = some (.cells (oneCells s mb).toArray 94 (0, 0))
  hM : X.ownsMap Tryd.prog 9 (plainElem Tryd.prog 30) mb (Maps.size D) D
  hR : MRel D s.ents
  hk : Kd.C (Kd.int .u8) X A1 key.length key
  kb : IsBytes key
theorem UpdIn.below {X X' : World} {t m ob mb : Nat} {s : MapS} {A1 A2 : Option Addr} {c1 c2 : Nat} {key value : List Int} {D : DataW Unit} (h : UpdIn X t m ob mb s A1 A2 c1 c2 key value D) (hb : Below X.heap.size X X') : UpdIn X' t m ob mb s A1 A2 c1 c2 key value D :=
  ⟨pw_cell_below hb h.ct, (hb.block ob (Array.getElem?_eq_some_iff.1 h.hb).1).trans h.hb, h.hM.kept (grown_of_below hb none) (by simp), h.hR, Kd.C_below h.hk hb, h.kb⟩
theorem UpdIn.look {X : World} {t m ob mb : Nat} {s : MapS} {A1 A2 : Option Addr} {c1 c2 : Nat} {key value : List Int} {D : DataW Unit} (h : UpdIn X t m ob mb s A1 A2 c1 c2 key value D) :
    ∃ z, (∀ w, Below X.heap.size X w → w.cell? ⟨ob, 4, none⟩ = some (.map (some mb)) ∧ (convert 26 9 (.slice A1 key.length c1)).run Tryd.prog w = .ok (.string (strOfNums key)) w ∧ (Instr.lookup 92 (.map (some mb)) (.string (strOfNums key)) true).run Tryd.prog w = .ok (.tuple #[.int .u64 z, .bool (lookE s.ents key).isSome]) w) ∧ ∀ n', lookE s.ents key = some n' → z = n' := by
  have hf : ∀ w, Below X.heap.size X w → ∃ n, (Instr.lookup 92 (.map (some mb)) (.string (strOfNums key)) true).run Tryd.prog w = .ok (.tuple #[.int .u64 n, .bool (lookE s.ents key).isSome]) w ∧ (∀ n', lookE s.ents key = some n' → n = n') ∧ D.atKey (kl key) (.lit (.int .u64 0)) = .lit (.int .u64 n) := fun w hb => by
    have h2 := h.below hb
    have hl : key.length ≤ maxLen := by have := h.hk.2.1; unfold maxLen; exact this
    obtain ⟨v, ps, hr, hv⟩ := h2.hM.look_ok strLaw Tryd.underlying92 (zeroU64 w) (plainElem_int Tryd.underlying30 (by decide)) (keyOf_kl key hl)
    obtain ⟨c, rfl, hc, _⟩ := plainElem_int_inv Tryd.underlying30 hv
    have e : D.atKey (kl key) (.lit (.int .u64 0)) = .lit (.int .u64 c) := congrArg Prod.fst hc
    refine ⟨c, by rw [← h.hR.has key h.kb]; exact hr, fun n' hn' => ?_, e⟩
    have := h.hR.at_ key n' h.kb hn'
    rw [this] at e
    have e2 : Lit.int .u64 n' = Lit.int .u64 c := by
      cases e
      rfl
    cases e2
    rfl
  obtain ⟨z, _, h2, h3⟩ := hf X (Below.refl _ _)
  refine ⟨z, fun w hb => ?_, h2⟩
  obtain ⟨z', g1, _, g3⟩ := hf w hb
  rw [h3] at g3
  have e2 : Lit.int .u64 z = Lit.int .u64 z' := by
    cases g3
    rfl
  cases e2
  obtain ⟨_, _, _, _, c4, _, _⟩ := one_cell (h.below hb).hb
  exact ⟨c4, conv_key c1 (h.below hb).hk, g1⟩
set_option maxHeartbeats 2000000 in
set_option maxRecDepth 100000 in
theorem upd_bad (X : World) (own : Nat → Prop) (t m : Nat) (v : Value) (ps : List (Nat × Nat)) (S : List MapS) (i : Int) (A1 A2 : Option Addr) (c1 c2 : Nat) (key value : List Int) (h : (MP t m v ps S).at_ X own) (hl : ps.length ≤ 100000) (hps : ps.length = S.length)
    (hbad : ∀ s, getP S i = some s → ¬ ((key.length : Int) = s.key ∧ (value.length : Int) = s.value)) :
    Calls Tryd.prog 68 #[.pointer (some ⟨t, 0, none⟩), .int .i64 i, .slice A1 key.length c1, .slice A2 value.length c2] X fun e X' => e = .returned (.int .i64 (-22)) ∧ X = X' := by
  have HG := Aside0.mk (get_c X own t m v ps S i h hl)
  rcases getP_len hps i with ⟨e1, e2⟩ | ⟨n, p, s, rfl, hp, hs, e1, e2⟩
  · rw [e1] at HG
    unfold ptrO at HG
    clear h e1 e2 hbad
    go_enter Tryd.func68, Tryd.ntmps68
    go_wp2_with fail
    refine HG.out.mono ?_
    rintro e X' ⟨rfl, rfl⟩
    go_wp2_with fail
    go_ret
    exact ⟨rfl, rfl⟩
  · rw [e1] at HG
    unfold ptrO at HG
    have hb := hbad s e2
    obtain ⟨D, hbk, hM, hR, _, _, _⟩ := mp_one h hp hs
    obtain ⟨_, hc1, hc2, _, hc4, _, _⟩ := one_cell hbk
    clear h e1 e2 hbad hM hR hp hs hbk hc4
    by_cases hk : (key.length : Int) = s.key
    · have hv : ((value.length : Int) != s.value) = true := by
        rw [bne_iff_ne]
        exact fun h => hb ⟨hk, h⟩
      have hk2 : ((key.length : Int) != s.key) = false := by simp [hk]
      clear hb hk
      go_enter Tryd.func68, Tryd.ntmps68
      go_wp2_with fail
      refine HG.out.mono ?_
      rintro e X' ⟨rfl, rfl⟩
      go_wp2_with fail
      go_ret
      exact ⟨rfl, rfl⟩
    · have hk2 : ((key.length : Int) != s.key) = true := by simpa using hk
      clear hb hk
      go_enter Tryd.func68, Tryd.ntmps68
      go_wp2_with fail
      refine HG.out.mono ?_
      rintro e X' ⟨rfl, rfl⟩
      go_wp2_with fail
      go_ret
      exact ⟨rfl, rfl⟩
end Go.Proofs.YtomnfkihieinbaaDoor.PAll
/- maps: Update where the key is there, and where the map is full. -/
set_option linter.unusedVariables false
set_option linter.unusedSimpArgs false
namespace Go.Proofs.YtomnfkihieinbaaDoor.PAll
open Go.RowKit Go.Shelf Go.Maps Go.Proofs.YtomnfkihieinbaaDoorW.PrintWords Go.Proofs.YtomnfkihieinbaaDoorW.PrintLast Go.Proofs.YtomnfkihieinbaaDoorW.PrintMore
set_option maxHeartbeats 4000000 in
set_option maxRecDepth 100000 in
theorem upd_put (X : World) (fr : Nat → Prop) (t m : Nat) (v : Value) (ps : List (Nat × Nat)) (S : List MapS) (K : List Reg) (n : Nat) (A1 A2 : Option Addr) (c1 c2 : Nat) (key value : List Int) (h : Has X fr ((MP t m v ps S).and (PM m K))) (hl : ps.length ≤ 100000) (hps : ps.length = S.length) (hK : K.length ≤ 99999)
    (p : Nat × Nat) (s : MapS) (hp : ps[n]? = some p) (hs : S[n]? = some s) (e1 : getP ps (n : Int) = some p) (hkl : (key.length : Int) = s.key) (hvl : (value.length : Int) = s.value) (z : Int) (hz : lookE s.ents key = some z)
    (hk : ∀ X', Kept fr X X' → Kd.C (Kd.int .u8) X' A1 key.length key) (hkb : IsBytes key) (hv : ∀ X', Kept fr X X' → Kd.C (Kd.int .u8) X' A2 value.length value) (hvb : IsBytes value) (hvs : value.length ≤ 65536) :
    Calls Tryd.prog 68 #[.pointer (some ⟨t, 0, none⟩), .int .i64 n, .slice A1 key.length c1, .slice A2 value.length c2] X fun e X' => e = .returned (.int .i64 0) ∧ Has X' fr ((MP t m v ps S).and (PM m (putG K (addrF n z) value))) ∧ Kept fr X X' := by
  obtain ⟨h0, own, h1, o2, o1, f1, f2, hPM, hMP⟩ := h.swap
  have HG := Aside0.mk (get_c X o1 t m v ps S n hMP hl)
  rw [e1] at HG
  unfold ptrO at HG
  obtain ⟨D, hbk, hM, hR, _, _, _⟩ := mp_one hMP hp hs
  obtain ⟨_, _, _, _, hct, hot, htl, _⟩ := mp_head hMP
  obtain ⟨_, hc1, hc2, _, _, _, _⟩ := one_cell hbk
  obtain ⟨z', hF, hz'⟩ := UpdIn.look (⟨hct, hbk, hM, hR, hk X (Kept.refl _ _), hkb⟩ : UpdIn X t m p.1 p.2 s A1 A2 c1 c2 key value D)
  obtain rfl := hz' z hz
  rw [hz] at hF
  simp only [Option.isSome_some] at hF
  have HF := Aside0.mk hF
  have HPM : Aside0 (Has X (fun k => fr k ∨ o1 k) (PM m K)) := ⟨⟨by
    rintro k (hk | hk)
    · exact h0 k hk
    · exact (h1 k ((f1 k).2 (.inr hk))).2, o2, fun k hk => ⟨by
      rintro (h | h)
      · exact (h1 k ((f1 k).2 (.inl hk))).1 h
      · exact f2 k hk h, (h1 k ((f1 k).2 (.inl hk))).2⟩, hPM⟩⟩
  have HPUT : Aside0 (∀ w, Below X.heap.size X w → Calls Tryd.prog 81 #[.pointer (some ⟨m, 0, none⟩), .int .u64 (addrF n z'), .slice A2 value.length c2] w fun e w' => (∃ b, e = .returned (.bool b)) ∧ w'.cell? ⟨t, 1, none⟩ = some (.pointer (some ⟨m, 0, none⟩)) ∧ Aside0 (Has w' fr ((MP t m v ps S).and (PM m (putG K (addrF n z') value))) ∧ Kept fr X w')) := ⟨fun w hb => by
    refine (pm_put w _ m K (addrF n z') A2 c2 value (HPM.out.below hb) (by omega) (addr_range _ _).1 (addr_range _ _).2 (hv w (below_kept hb _)) (by omega) hvb).mono ?_
    rintro e w' ⟨he, hH, hKp⟩
    have hKX := (below_kept hb _).trans hKp
    obtain ⟨g1, g2⟩ := frame_post h0 h1 f1 hMP hH hKX
    exact ⟨⟨_, he⟩, hKX.cell (.inr (by obtain ⟨q1, q2, r1, r2, ⟨r3, _, _⟩, _⟩ := hMP; exact (r1 t).2 (.inl ((r3 t).2 (.inl rfl))))) hct, ⟨g1.swap, g2⟩⟩⟩
  have HCT : Aside0 (∀ w, Below X.heap.size X w → w.cell? ⟨t, 1, none⟩ = some (.pointer (some ⟨m, 0, none⟩))) := ⟨fun w hb => pw_cell_below hb hct⟩
  have hk2 : ((key.length : Int) != s.key) = false := by simp [hkl]
  have hv2 : ((value.length : Int) != s.value) = false := by simp [hvl]
  clear h h1 f1 f2 hPM hMP e1 hbk hM hR hct hot htl hF hz' hz hp hs hk hv hkl hvl h0
  go_enter Tryd.func68, Tryd.ntmps68
  go_wp2_with fail
  refine HG.out.mono ?_
  rintro e X' ⟨rfl, rfl⟩
  go_wp2_with fail
  go_region_held3 (fun w => w.cell? ⟨p.1, 4, none⟩ = some (.map (some p.2)) ∧ (convert 26 9 (.slice A1 key.length c1)).run Tryd.prog w = .ok (.string (strOfNums key)) w ∧ (Instr.lookup 92 (.map (some p.2)) (.string (strOfNums key)) true).run Tryd.prog w = .ok (.tuple #[.int .u64 z', .bool true]) w) ((exact HF.out _ (by repeat (first | exact Below.refl _ _ | apply below_drew | apply pw_below_drewN)))) (fail)
  go_wp2_with fail
  go_region_held3 (fun w => w.cell? ⟨t, 1, none⟩ = some (.pointer (some ⟨m, 0, none⟩))) (first | assumption | exact HCT.out _ (by repeat (first | exact Below.refl _ _ | apply below_drew | apply pw_below_drewN))) (first | (go_at_call 35; refine (addr_c _ _ _).mono ?_; rintro e w5 ⟨rfl, k5, rfl⟩) | (go_at_call 81; refine (HPUT.out _ (by repeat (first | exact Below.refl _ _ | apply below_drew | apply pw_below_drewN))).mono ?_; rintro e w6 ⟨⟨b6, rfl⟩, hct6, HQ⟩))
  go_wp2_with fail
  go_ret
  exact ⟨rfl, HQ.out.1, HQ.out.2⟩
set_option maxHeartbeats 4000000 in
set_option maxRecDepth 100000 in
theorem upd_full (X : World) (own : Nat → Prop) (t m : Nat) (v : Value) (ps : List (Nat × Nat)) (S : List MapS) (n : Nat) (A1 A2 : Option Addr) (c1 c2 : Nat) (key value : List Int) (hMP : (MP t m v ps S).at_ X own) (hl : ps.length ≤ 100000)
    (p : Nat × Nat) (s : MapS) (hp : ps[n]? = some p) (hs : S[n]? = some s) (e1 : getP ps (n : Int) = some p) (hkl : (key.length : Int) = s.key) (hvl : (value.length : Int) = s.value) (hz : lookE s.ents key = none) (hfull : (s.ents.length : Int) ≥ s.entries)
    (hk : Kd.C (Kd.int .u8) X A1 key.length key) (hkb : IsBytes key) :
    Calls Tryd.prog 68 #[.pointer (some ⟨t, 0, none⟩), .int .i64 n, .slice A1 key.length c1, .slice A2 value.length c2] X fun e X' => e = .returned (.int .i64 (-7)) ∧ Below X.heap.size X X' := by
  have HG := Aside0.mk (get_c X own t m v ps S n hMP hl)
  rw [e1] at HG
  unfold ptrO at HG
  obtain ⟨D, hbk, hM, hR, _, _, _⟩ := mp_one hMP hp hs
  obtain ⟨_, _, _, _, hct, hot, htl, _⟩ := mp_head hMP
  obtain ⟨_, hc1, hc2, hc3, _, _, _⟩ := one_cell hbk
  have hU : UpdIn X t m p.1 p.2 s A1 A2 c1 c2 key value D := ⟨hct, hbk, hM, hR, hk, hkb⟩
  obtain ⟨z', hF, _⟩ := hU.look
  rw [hz] at hF
  simp only [Option.isSome_none] at hF
  have HF := Aside0.mk hF
  have HL : Aside0 (∀ w, Below X.heap.size X w → w.cell? ⟨p.1, 4, none⟩ = some (.map (some p.2)) ∧ w.cell? ⟨p.1, 3, none⟩ = some (.int .i64 s.entries) ∧ (∀ ty, (Builtin.len_ #[92] ty #[.map (some p.2)]).run Tryd.prog w = .ok (.int .i64 s.ents.length) w)) := ⟨fun w hb => by
    obtain ⟨_, _, _, c3, c4, _, _⟩ := one_cell (hU.below hb).hb
    refine ⟨c4, c3, fun ty => ?_⟩
    rw [← hR.size]
    exact (hU.below hb).hM.len Tryd.underlying92 ty⟩
  have hk2 : ((key.length : Int) != s.key) = false := by simp [hkl]
  have hv2 : ((value.length : Int) != s.value) = false := by simp [hvl]
  have hge : decide (s.entries ≤ (s.ents.length : Int)) = true := decide_eq_true hfull
  clear hMP e1 hbk hM hR hct hot htl hF hz hp hs hk hkl hvl hU hfull hc3
  go_enter Tryd.func68, Tryd.ntmps68
  go_wp2_with fail
  refine HG.out.mono ?_
  rintro e X' ⟨rfl, rfl⟩
  go_wp2_with fail
  go_region_held3 (fun w => w.cell? ⟨p.1, 4, none⟩ = some (.map (some p.2)) ∧ (convert 26 9 (.slice A1 key.length c1)).run Tryd.prog w = .ok (.string (strOfNums key)) w ∧ (Instr.lookup 92 (.map (some p.2)) (.string (strOfNums key)) true).run Tryd.prog w = .ok (.tuple #[.int .u64 z', .bool false]) w) ((exact HF.out _ (by repeat (first | exact Below.refl _ _ | apply below_drew | apply pw_below_drewN)))) (fail)
  go_wp2_with fail
  go_region_held3 (fun w => w.cell? ⟨p.1, 4, none⟩ = some (.map (some p.2)) ∧ w.cell? ⟨p.1, 3, none⟩ = some (.int .i64 s.entries) ∧ (∀ ty, (Builtin.len_ #[92] ty #[.map (some p.2)]).run Tryd.prog w = .ok (.int .i64 s.ents.length) w)) ((exact HL.out _ (by repeat (first | exact Below.refl _ _ | apply below_drew | apply pw_below_drewN)))) (fail)
  go_wp2_with fail
  go_ret
  exact ⟨rfl, by repeat (first | exact Below.refl _ _ | apply below_drew | apply pw_below_drewN)⟩
end Go.Proofs.YtomnfkihieinbaaDoor.PAll
/- maps: Update of a new key. -/
set_option linter.unusedVariables false
set_option linter.unusedSimpArgs false
namespace Go.Proofs.YtomnfkihieinbaaDoor.PAll
open Go.RowKit Go.Shelf Go.Maps Go.Proofs.YtomnfkihieinbaaDoorW.PrintWords Go.Proofs.YtomnfkihieinbaaDoorW.PrintLast Go.Proofs.YtomnfkihieinbaaDoorW.PrintMore
theorem Has.other {X X' : World} {fr : Nat → Prop} {R : Res} (h : Has X fr R) (hs : X.heap.size ≤ X'.heap.size) (hk : ∀ k, k < X.heap.size → ¬ fr k → X'.heap[k]? = X.heap[k]?) : Has X' fr R := by
  obtain ⟨h0, own, h1, h2⟩ := h
  exact ⟨fun k hk => Nat.lt_of_lt_of_le (h0 k hk) hs, own, fun k hk => ⟨(h1 k hk).1, Nat.lt_of_lt_of_le (h1 k hk).2 hs⟩, R.keep h2 (fun k ho hlt => hk k hlt (h1 k ho).1)⟩
/-- Two resources are laid side by side. -/
theorem Has.join {X : World} {fr o1 : Nat → Prop} {R F : Res} (h : Has X (fun k => fr k ∨ o1 k) R) (ho : ∀ k, o1 k → ¬ fr k) (hF : F.at_ X o1) : Has X fr (R.and F) := by
  obtain ⟨h0, own, h1, h2⟩ := h
  refine ⟨fun k hk => h0 k (.inl hk), fun k => own k ∨ o1 k, ?_, own, o1, fun k => Iff.rfl, fun k hk hk' => (h1 k hk).1 (.inr hk'), h2, hF⟩
  rintro k (hk | hk)
  · exact ⟨fun h => (h1 k hk).1 (.inl h), (h1 k hk).2⟩
  · exact ⟨ho k hk, h0 k (.inr hk)⟩
/-- .. and taken apart. -/
theorem Has.part {X : World} {fr : Nat → Prop} {R F : Res} (h : Has X fr (R.and F)) : ∃ o1, (∀ k, o1 k → ¬ fr k ∧ k < X.heap.size) ∧ F.at_ X o1 ∧ Has X (fun k => fr k ∨ o1 k) R := by
  obtain ⟨h0, own, h1, o2, o1, f1, f2, hR, hF⟩ := h
  refine ⟨o1, fun k hk => h1 k ((f1 k).2 (.inr hk)), hF, ⟨by
    rintro k (hk | hk)
    · exact h0 k hk
    · exact (h1 k ((f1 k).2 (.inr hk))).2, o2, fun k hk => ⟨by
      rintro (h | h)
      · exact (h1 k ((f1 k).2 (.inl hk))).1 h
      · exact f2 k hk h, (h1 k ((f1 k).2 (.inl hk))).2⟩, hR⟩⟩
theorem mp_t {X : World} {own : Nat → Prop} {t m : Nat} {v : Value} {ps : List (Nat × Nat)} {S : List MapS} (h : (MP t m v ps S).at_ X own) : own t := by
  obtain ⟨q1, q2, r1, r2, ⟨r3, _, _⟩, _⟩ := h
  exact (r1 t).2 (.inl ((r3 t).2 (.inl rfl)))
set_option maxHeartbeats 4000000 in
set_option maxRecDepth 100000 in
theorem upd_new (X : World) (fr : Nat → Prop) (t m : Nat) (v : Value) (ps : List (Nat × Nat)) (S : List MapS) (K : List Reg) (n : Nat) (A1 A2 : Option Addr) (c1 c2 : Nat) (key value : List Int) (h : Has X fr ((MP t m v ps S).and (PM m K))) (hl : ps.length ≤ 100000) (hps : ps.length = S.length) (hK : K.length ≤ 99999)
    (p : Nat × Nat) (s : MapS) (hp : ps[n]? = some p) (hs : S[n]? = some s) (e1 : getP ps (n : Int) = some p) (hkl : (key.length : Int) = s.key) (hvl : (value.length : Int) = s.value) (hz : lookE s.ents key = none) (hnf : ¬ (s.ents.length : Int) ≥ s.entries) (hel : s.ents.length ≤ 1000000) (hn0 : 0 ≤ s.next) (hn1 : s.next < 4294967296)
    (hk : ∀ X', Kept fr X X' → Kd.C (Kd.int .u8) X' A1 key.length key) (hkb : IsBytes key) (hv : ∀ X', Kept fr X X' → Kd.C (Kd.int .u8) X' A2 value.length value) (hvb : IsBytes value) (hvc : value.length ≤ c2) (hvs : value.length ≤ 65536) :
    Calls Tryd.prog 68 #[.pointer (some ⟨t, 0, none⟩), .int .i64 n, .slice A1 key.length c1, .slice A2 value.length c2] X fun e X' => e = .returned (.int .i64 0) ∧ Has X' fr ((MP t m v ps (S.set n { s with ents := s.ents ++ [(key, s.next)], next := IntKind.u64.wrap (s.next + 1) })).and (PM m (addG K (addrF n s.next) value))) ∧ Kept fr X X' := by
  obtain ⟨o1, f1, hMP, hPM⟩ := h.swap.part
  have HG := Aside0.mk (get_c X o1 t m v ps S n hMP hl)
  rw [e1] at HG
  unfold ptrO at HG
  obtain ⟨D, hbk, hM, hR, hoo, hom, hom2⟩ := mp_one hMP hp hs
  obtain ⟨_, _, _, _, hct, hot, htl, _⟩ := mp_head hMP
  obtain ⟨_, hc1, hc2, hc3, _, hc5, _⟩ := one_cell hbk
  have hU : UpdIn X t m p.1 p.2 s A1 A2 c1 c2 key value D := ⟨hct, hbk, hM, hR, hk X (Kept.refl _ _), hkb⟩
  obtain ⟨z', hF, _⟩ := hU.look
  rw [hz] at hF
  simp only [Option.isSome_none] at hF
  have HF := Aside0.mk hF
  have HL : Aside0 (∀ w, Below X.heap.size X w → w.cell? ⟨p.1, 4, none⟩ = some (.map (some p.2)) ∧ w.cell? ⟨p.1, 3, none⟩ = some (.int .i64 s.entries) ∧ (∀ ty, (Builtin.len_ #[92] ty #[.map (some p.2)]).run Tryd.prog w = .ok (.int .i64 s.ents.length) w)) := ⟨fun w hb => by
    obtain ⟨_, _, _, c3, c4, _, _⟩ := one_cell (hU.below hb).hb
    refine ⟨c4, c3, fun ty => ?_⟩
    rw [← hR.size]
    exact (hU.below hb).hM.len Tryd.underlying92 ty⟩
  have HCT : Aside0 (∀ w, Below X.heap.size X w → w.cell? ⟨t, 1, none⟩ = some (.pointer (some ⟨m, 0, none⟩)) ∧ w.cell? ⟨p.1, 5, none⟩ = some (.int .u64 s.next)) := ⟨fun w hb => ⟨pw_cell_below hb hct, pw_cell_below hb hc5⟩⟩
  have HADD : Aside0 (∀ w, Below X.heap.size X w → Calls Tryd.prog 30 #[.pointer (some ⟨m, 0, none⟩), .int .u64 (addrF n s.next), .slice A2 value.length c2] w fun e w' => (∃ b, e = .returned (.bool b)) ∧ (w'.cell? ⟨t, 1, none⟩ = some (.pointer (some ⟨m, 0, none⟩)) ∧ w'.cell? ⟨p.1, 5, none⟩ = some (.int .u64 s.next)) ∧
      Aside0 (Has w' (fun k => fr k ∨ o1 k) (PM m (addG K (addrF n s.next) value)) ∧ Kept (fun k => fr k ∨ o1 k) X w')) := ⟨fun w hb => by
    refine (pm_add w _ m K (addrF n s.next) A2 c2 value (hPM.below hb) (by omega) (addr_range _ _).1 (addr_range _ _).2 (hv w (below_kept hb _)) hvc (by omega) hvb).mono ?_
    rintro e w' ⟨he, hH, hKp⟩
    have hKX := (below_kept hb _).trans hKp
    exact ⟨⟨_, he⟩, ⟨hKX.cell (.inr (mp_t hMP)) hct, hKX.cell (.inr hoo) hc5⟩, ⟨hH, hKX⟩⟩⟩
  -- behind Add
  have H6 : Aside0 (∀ w, Kept (fun k => fr k ∨ o1 k) X w → UpdIn w t m p.1 p.2 s A1 A2 c1 c2 key value D ∧ (MP t m v ps S).at_ w o1) := ⟨fun w hw => ⟨⟨hw.cell (.inr (mp_t hMP)) hct, (hw.block (Array.getElem?_eq_some_iff.1 hbk).1 (.inr hoo)).trans hbk, by
      obtain ⟨es, clock, hbb, F, hnn, he⟩ := hM
      exact ⟨es, clock, (hw.block (Array.getElem?_eq_some_iff.1 hbb).1 (.inr hom)).trans hbb, F, hnn, he⟩, hR, hk w (hw.mono (fun k h => .inl h)), hkb⟩, (MP t m v ps S).keep hMP (fun k hk hlt => hw.block hlt (.inr hk))⟩⟩
  have HO := Aside0.mk f1
  have HO3 := Aside0.mk (And.intro hoo (And.intro hom hom2))
  have HKEY : Aside0 (key.length ≤ maxLen) := ⟨by have := hU.hk.2.1; unfold maxLen; exact this⟩
  have HSZ : Aside0 (Maps.size D < maxLen) := ⟨by rw [hR.size]; unfold maxLen; omega⟩
  have HPUT : Aside0 (MRel (D.put (kl key) (.lit (.int .u64 s.next))) (s.ents ++ [(key, s.next)])) := ⟨hR.put hkb s.next hz⟩
  have HPS := Aside0.mk (And.intro hp hs)
  have HKC := Aside0.mk hk
  have HNX : Aside0 ((Lit.int .u64 s.next).wf = true) := ⟨by
    show (decide ((IntKind.u64).min ≤ s.next) && decide (s.next ≤ (IntKind.u64).max)) = true
    rw [show (IntKind.u64).min = 0 by decide, show (IntKind.u64).max = 18446744073709551615 by decide, decide_eq_true hn0, decide_eq_true (by omega)]
    rfl⟩
  have hk2 : ((key.length : Int) != s.key) = false := by simp [hkl]
  have hv2 : ((value.length : Int) != s.value) = false := by simp [hvl]
  have hge : decide (s.entries ≤ (s.ents.length : Int)) = false := decide_eq_false hnf
  clear h f1 hPM hMP e1 hbk hM hR hct hot htl hF hz hp hs hk hkl hvl hU hnf hc3 hv hvc hoo hom hom2 hc5 hel
  go_enter Tryd.func68, Tryd.ntmps68
  go_wp2_with fail
  refine HG.out.mono ?_
  rintro e X' ⟨rfl, rfl⟩
  go_wp2_with fail
  go_region_held3 (fun w => w.cell? ⟨p.1, 4, none⟩ = some (.map (some p.2)) ∧ (convert 26 9 (.slice A1 key.length c1)).run Tryd.prog w = .ok (.string (strOfNums key)) w ∧ (Instr.lookup 92 (.map (some p.2)) (.string (strOfNums key)) true).run Tryd.prog w = .ok (.tuple #[.int .u64 z', .bool false]) w) ((exact HF.out _ (by repeat (first | exact Below.refl _ _ | apply below_drew | apply pw_below_drewN)))) (fail)
  go_wp2_with fail
  go_region_held3 (fun w => w.cell? ⟨p.1, 4, none⟩ = some (.map (some p.2)) ∧ w.cell? ⟨p.1, 3, none⟩ = some (.int .i64 s.entries) ∧ (∀ ty, (Builtin.len_ #[92] ty #[.map (some p.2)]).run Tryd.prog w = .ok (.int .i64 s.ents.length) w)) ((exact HL.out _ (by repeat (first | exact Below.refl _ _ | apply below_drew | apply pw_below_drewN)))) (fail)
  go_wp2_with fail
  go_region_held3 (fun w => w.cell? ⟨t, 1, none⟩ = some (.pointer (some ⟨m, 0, none⟩)) ∧ w.cell? ⟨p.1, 5, none⟩ = some (.int .u64 s.next)) (first | assumption | exact HCT.out _ (by repeat (first | exact Below.refl _ _ | apply below_drew | apply pw_below_drewN))) (first | (go_at_call 35; refine (addr_c _ _ _).mono ?_; rintro e w5 ⟨rfl, k5, rfl⟩) | (go_at_call 30; refine (HADD.out _ (by repeat (first | exact Below.refl _ _ | apply below_drew | apply pw_below_drewN))).mono ?_; rintro e w6 ⟨⟨b6, rfl⟩, hct6, HQ⟩))
  obtain ⟨hU6, hMP6⟩ := H6.out w6 HQ.out.2
  have HMP6 := Aside0.mk hMP6
  have hU6d := hU6.below (below_drew (Below.refl _ _))
  obtain ⟨w7, hrun, hM7, hT7⟩ := hU6d.hM.store strLaw Tryd.underlying92 HSZ.out (keyOf_kl key HKEY.out) (plainElem_int Tryd.underlying30 HNX.out)
  have hG7 := hT7.grown
  obtain ⟨_, _, _, _, d4, d5, _⟩ := one_cell hU6d.hb
  have hconv6 := conv_key (w := w6.drew) c1 hU6d.hk
  have hb7 : w7.heap[p.1]? = some (.cells (oneCells s p.2).toArray 94 (0, 0)) := (hG7.block p.1 (Array.getElem?_eq_some_iff.1 hU6d.hb).1 (fun e => HO3.out.2.2 (Option.some.inj e))).trans hU6d.hb
  obtain ⟨_, _, _, _, e4, e5, hfro⟩ := one_cell hb7
  have hK7 : Kept fr X w7 := ((HQ.out.2.mono (fun k h => .inl h)).trans (Out.refl _ _).drew).trans ((grown_out hG7).mono (fun k _ e hf => by cases e; exact (HO.out _ HO3.out.2.1).1 hf))
  have hconv7 := conv_key (w := w7) c1 (HKC.out w7 hK7)
  have HK7 := Aside0.mk hK7
  have HM7 := Aside0.mk hM7
  have HB7 := Aside0.mk hb7
  have HG7 := Aside0.mk hG7
  clear hU6 hMP6 hU6d hM7 hT7 hG7 hb7 hK7 hct6
  go_wp2_with fail
  go_region_held3 (fun w => w.cell? ⟨p.1, 4, none⟩ = some (.map (some p.2)) ∧ w.cell? ⟨p.1, 5, none⟩ = some (.int .u64 s.next) ∧ (convert 26 9 (.slice A1 key.length c1)).run Tryd.prog w = .ok (.string (strOfNums key)) w) (first | exact ⟨d4, d5, hconv6⟩ | exact ⟨e4, e5, hconv7⟩) (fail)
  have hwn : IntKind.u64.wrap (s.next + 1) = s.next + 1 := by rw [u64_mod]; exact Int.emod_eq_of_lt (by omega) (by omega)
  have HWN := Aside0.mk hwn
  clear hwn
  go_wp2_with fail
  have HQ8 : Aside0 (Has (w7.setCell ⟨p.1, 5, none⟩ (.int .u64 (s.next + 1))) fr ((MP t m v ps (S.set n { s with ents := s.ents ++ [(key, s.next)], next := IntKind.u64.wrap (s.next + 1) })).and (PM m (addG K (addrF n s.next) value))) ∧ Kept fr X (w7.setCell ⟨p.1, 5, none⟩ (.int .u64 (s.next + 1)))) := ⟨by
    have hblk : ∀ k, k < w6.heap.size → k ≠ p.1 → k ≠ p.2 → (w7.setCell ⟨p.1, 5, none⟩ (.int .u64 (s.next + 1))).heap[k]? = w6.heap[k]? := fun k hk h1 h2 => by
      rw [Below.heap_setCell w7 ⟨p.1, 5, none⟩ _ k h1]
      exact HG7.out.block k hk (fun e => h2 (Option.some.inj e))
    have hsz : w6.heap.size ≤ (w7.setCell ⟨p.1, 5, none⟩ (.int .u64 (s.next + 1))).heap.size := by
      have := HG7.out.size
      simpa [World.setCell] using this
    have hMP8 : (MP t m v ps (S.set n { s with ents := s.ents ++ [(key, s.next)], next := IntKind.u64.wrap (s.next + 1) })).at_ (w7.setCell ⟨p.1, 5, none⟩ (.int .u64 (s.next + 1))) o1 := by
      refine mp_turn (D := D.put (kl key) (.lit (.int .u64 s.next))) HMP6.out HPS.out.1 HPS.out.2 _ (fun k _ hlt h1 h2 => hblk k hlt h1 h2) ?_ (HM7.out.setCell (fun e => HO3.out.2.2 e.symm) _) HPUT.out
      have := blk_put HB7.out 5 (.int .u64 (s.next + 1)) rfl
      rw [HWN.out]
      exact this
    refine ⟨(Has.join (HQ.out.1.other hsz (fun k hk hn => hblk k hk (fun e => hn (.inr (by rw [e]; exact HO3.out.1))) (fun e => hn (.inr (by rw [e]; exact HO3.out.2.1))))) (fun k hk => (HO.out k hk).1) hMP8).swap, HK7.out.trans ((set_out w7 p.1 5 _).mono (fun k _ e hf => ?_))⟩
    subst e
    exact (HO.out _ HO3.out.1).1 hf⟩
  go_ret
  exact ⟨rfl, HQ8.out.1, HQ8.out.2⟩
end Go.Proofs.YtomnfkihieinbaaDoor.PAll
/- maps: Update whole; Delete. -/
set_option linter.unusedVariables false
set_option linter.unusedSimpArgs false
namespace Go.Proofs.YtomnfkihieinbaaDoor.PAll
open Go.RowKit Go.Shelf Go.Maps Go.Proofs.YtomnfkihieinbaaDoorW.PrintWords Go.Proofs.YtomnfkihieinbaaDoorW.PrintLast Go.Proofs.YtomnfkihieinbaaDoorW.PrintMore
structure SOk (s : MapS) : Prop where
  nd : NoTwice s.ents
  len : s.ents.length ≤ 1000000
  n0 : 0 ≤ s.next
  n1 : s.next < 4294967296
theorem update_c (X : World) (fr : Nat → Prop) (t m : Nat) (v : Value) (ps : List (Nat × Nat)) (S : List MapS) (K : List Reg) (i : Int) (A1 A2 : Option Addr) (c1 c2 : Nat) (key value : List Int) (h : Has X fr ((MP t m v ps S).and (PM m K))) (hl : ps.length ≤ 100000) (hps : ps.length = S.length) (hK : K.length ≤ 99999) (hS : ∀ s ∈ S, SOk s)
    (hk : ∀ X', Kept fr X X' → Kd.C (Kd.int .u8) X' A1 key.length key) (hkb : IsBytes key) (hv : ∀ X', Kept fr X X' → Kd.C (Kd.int .u8) X' A2 value.length value) (hvb : IsBytes value) (hvc : value.length ≤ c2) (hvs : value.length ≤ 65536) :
    Calls Tryd.prog 68 #[.pointer (some ⟨t, 0, none⟩), .int .i64 i, .slice A1 key.length c1, .slice A2 value.length c2] X fun e X' => e = .returned (.int .i64 (updR S i key value)) ∧ Has X' fr ((MP t m v ps (updS S i key value)).and (PM m (updK S K i key value))) ∧ Kept fr X X' := by
  obtain ⟨o1, f1, hMP, hPM⟩ := h.swap.part
  rcases getP_len hps i with ⟨e1, e2⟩ | ⟨n, p, s, rfl, hp, hs, e1, e2⟩
  · unfold updR updS updK
    rw [e2]
    refine (upd_bad X o1 t m v ps S i A1 A2 c1 c2 key value hMP hl hps (fun s hs => by rw [e2] at hs; cases hs)).mono ?_
    rintro e X' ⟨he, rfl⟩
    exact ⟨he, h, Kept.refl _ _⟩
  · unfold updR updS updK
    rw [e2]
    dsimp only
    by_cases hb : (key.length : Int) = s.key ∧ (value.length : Int) = s.value
    · rw [if_pos hb, if_pos hb, if_pos hb]
      cases hz : lookE s.ents key with
      | some z => exact upd_put X fr t m v ps S K n A1 A2 c1 c2 key value h hl hps hK p s hp hs e1 hb.1 hb.2 z hz hk hkb hv hvb hvs
      | none =>
        dsimp only
        by_cases hf : (s.ents.length : Int) ≥ s.entries
        · rw [if_pos hf, if_pos hf, if_pos hf]
          refine (upd_full X o1 t m v ps S n A1 A2 c1 c2 key value hMP hl p s hp hs e1 hb.1 hb.2 hz hf (hk X (Kept.refl _ _)) hkb).mono ?_
          rintro e X' ⟨he, hbl⟩
          exact ⟨he, h.below hbl, below_kept hbl _⟩
        · rw [if_neg hf, if_neg hf, if_neg hf, Int.toNat_natCast]
          have hso := hS s (List.mem_of_getElem? hs)
          exact upd_new X fr t m v ps S K n A1 A2 c1 c2 key value h hl hps hK p s hp hs e1 hb.1 hb.2 hz hf hso.len hso.n0 hso.n1 hk hkb hv hvb hvc hvs
    · rw [if_neg hb, if_neg hb, if_neg hb]
      refine (upd_bad X o1 t m v ps S n A1 A2 c1 c2 key value hMP hl hps (fun s' hs' => by rw [e2] at hs'; cases hs'; exact hb)).mono ?_
      rintro e X' ⟨he, rfl⟩
      exact ⟨he, h, Kept.refl _ _⟩
/-! ### Delete -/
def delR (S : List MapS) (i : Int) (key : List Int) : Int := match getP S i with
  | none => -22
  | some s => if (key.length : Int) = s.key then match lookE s.ents key with
    | some _ => 0
    | none => -2
    else -22
def delS (S : List MapS) (i : Int) (key : List Int) : List MapS := match getP S i with
  | none => S
  | some s => if (key.length : Int) = s.key then match lookE s.ents key with
    | some _ => S.set i.toNat { s with ents := delE s.ents key }
    | none => S
    else S
def delK (S : List MapS) (K : List Reg) (i : Int) (key : List Int) : List Reg := match getP S i with
  | none => K
  | some s => if (key.length : Int) = s.key then match lookE s.ents key with
    | some n => remR K (addrF i n)
    | none => K
    else K
set_option maxHeartbeats 2000000 in
set_option maxRecDepth 100000 in
theorem del_bad (X : World) (own : Nat → Prop) (t m : Nat) (v : Value) (ps : List (Nat × Nat)) (S : List MapS) (i : Int) (A1 : Option Addr) (c1 : Nat) (key : List Int) (h : (MP t m v ps S).at_ X own) (hl : ps.length ≤ 100000) (hps : ps.length = S.length)
    (hbad : ∀ s, getP S i = some s → ¬ (key.length : Int) = s.key) :
    Calls Tryd.prog 69 #[.pointer (some ⟨t, 0, none⟩), .int .i64 i, .slice A1 key.length c1] X fun e X' => e = .returned (.int .i64 (-22)) ∧ X = X' := by
  have HG := Aside0.mk (get_c X own t m v ps S i h hl)
  rcases getP_len hps i with ⟨e1, e2⟩ | ⟨n, p, s, rfl, hp, hs, e1, e2⟩
  · rw [e1] at HG
    unfold ptrO at HG
    clear h e1 e2 hbad
    go_enter Tryd.func69, Tryd.ntmps69
    go_wp2_with fail
    refine HG.out.mono ?_
    rintro e X' ⟨rfl, rfl⟩
    go_wp2_with fail
    go_ret
    exact ⟨rfl, rfl⟩
  · rw [e1] at HG
    unfold ptrO at HG
    have hb := hbad s e2
    obtain ⟨D, hbk, hM, hR, _, _, _⟩ := mp_one h hp hs
    obtain ⟨_, hc1, _, _, _, _, _⟩ := one_cell hbk
    have hk2 : ((key.length : Int) != s.key) = true := by simpa using hb
    clear h e1 e2 hbad hM hR hp hs hbk hb
    go_enter Tryd.func69, Tryd.ntmps69
    go_wp2_with fail
    refine HG.out.mono ?_
    rintro e X' ⟨rfl, rfl⟩
    go_wp2_with fail
    go_ret
    exact ⟨rfl, rfl⟩
set_option maxHeartbeats 4000000 in
set_option maxRecDepth 100000 in
theorem del_miss (X : World) (own : Nat → Prop) (t m : Nat) (v : Value) (ps : List (Nat × Nat)) (S : List MapS) (n : Nat) (A1 : Option Addr) (c1 : Nat) (key : List Int) (hMP : (MP t m v ps S).at_ X own) (hl : ps.length ≤ 100000)
    (p : Nat × Nat) (s : MapS) (hp : ps[n]? = some p) (hs : S[n]? = some s) (e1 : getP ps (n : Int) = some p) (hkl : (key.length : Int) = s.key) (hz : lookE s.ents key = none)
    (hk : Kd.C (Kd.int .u8) X A1 key.length key) (hkb : IsBytes key) :
    Calls Tryd.prog 69 #[.pointer (some ⟨t, 0, none⟩), .int .i64 n, .slice A1 key.length c1] X fun e X' => e = .returned (.int .i64 (-2)) ∧ Below X.heap.size X X' := by
  have HG := Aside0.mk (get_c X own t m v ps S n hMP hl)
  rw [e1] at HG
  unfold ptrO at HG
  obtain ⟨D, hbk, hM, hR, _, _, _⟩ := mp_one hMP hp hs
  obtain ⟨_, _, _, _, hct, hot, htl, _⟩ := mp_head hMP
  obtain ⟨_, hc1, _, _, _, _, _⟩ := one_cell hbk
  have hU : UpdIn X t m p.1 p.2 s A1 A1 c1 c1 key key D := ⟨hct, hbk, hM, hR, hk, hkb⟩
  obtain ⟨z', hF, _⟩ := hU.look
  rw [hz] at hF
  simp only [Option.isSome_none] at hF
  have HF := Aside0.mk hF
  have hk2 : ((key.length : Int) != s.key) = false := by simp [hkl]
  clear hMP e1 hbk hM hR hct hot htl hF hz hp hs hk hkl hU
  go_enter Tryd.func69, Tryd.ntmps69
  go_wp2_with fail
  refine HG.out.mono ?_
  rintro e X' ⟨rfl, rfl⟩
  go_wp2_with fail
  go_region_held3 (fun w => w.cell? ⟨p.1, 4, none⟩ = some (.map (some p.2)) ∧ (convert 26 9 (.slice A1 key.length c1)).run Tryd.prog w = .ok (.string (strOfNums key)) w ∧ (Instr.lookup 92 (.map (some p.2)) (.string (strOfNums key)) true).run Tryd.prog w = .ok (.tuple #[.int .u64 z', .bool false]) w) ((exact HF.out _ (by repeat (first | exact Below.refl _ _ | apply below_drew | apply pw_below_drewN)))) (fail)
  go_wp2_with fail
  go_ret
  exact ⟨rfl, by repeat (first | exact Below.refl _ _ | apply below_drew | apply pw_below_drewN)⟩
set_option maxHeartbeats 4000000 in
set_option maxRecDepth 100000 in
theorem del_hit (X : World) (fr : Nat → Prop) (t m : Nat) (v : Value) (ps : List (Nat × Nat)) (S : List MapS) (K : List Reg) (n : Nat) (A1 : Option Addr) (c1 : Nat) (key : List Int) (h : Has X fr ((MP t m v ps S).and (PM m K))) (hl : ps.length ≤ 100000) (hps : ps.length = S.length) (hK : K.length ≤ 99999)
    (p : Nat × Nat) (s : MapS) (hp : ps[n]? = some p) (hs : S[n]? = some s) (e1 : getP ps (n : Int) = some p) (hkl : (key.length : Int) = s.key) (z : Int) (hz : lookE s.ents key = some z) (hnd : NoTwice s.ents)
    (hk : ∀ X', Kept fr X X' → Kd.C (Kd.int .u8) X' A1 key.length key) (hkb : IsBytes key) :
    Calls Tryd.prog 69 #[.pointer (some ⟨t, 0, none⟩), .int .i64 n, .slice A1 key.length c1] X fun e X' => e = .returned (.int .i64 0) ∧ Has X' fr ((MP t m v ps (S.set n { s with ents := delE s.ents key })).and (PM m (remR K (addrF n z)))) ∧ Kept fr X X' := by
  obtain ⟨o1, f1, hMP, hPM⟩ := h.swap.part
  have HG := Aside0.mk (get_c X o1 t m v ps S n hMP hl)
  rw [e1] at HG
  unfold ptrO at HG
  obtain ⟨D, hbk, hM, hR, hoo, hom, hom2⟩ := mp_one hMP hp hs
  obtain ⟨_, _, _, _, hct, hot, htl, _⟩ := mp_head hMP
  obtain ⟨_, hc1, _, _, _, _, _⟩ := one_cell hbk
  have hU : UpdIn X t m p.1 p.2 s A1 A1 c1 c1 key key D := ⟨hct, hbk, hM, hR, hk X (Kept.refl _ _), hkb⟩
  obtain ⟨z', hF, hz'⟩ := hU.look
  obtain rfl := hz' z hz
  rw [hz] at hF
  simp only [Option.isSome_some] at hF
  have HF := Aside0.mk hF
  have HCT : Aside0 (∀ w, Below X.heap.size X w → w.cell? ⟨t, 1, none⟩ = some (.pointer (some ⟨m, 0, none⟩))) := ⟨fun w hb => pw_cell_below hb hct⟩
  have HREM : Aside0 (∀ w, Below X.heap.size X w → Calls Tryd.prog 82 #[.pointer (some ⟨m, 0, none⟩), .int .u64 (addrF n z')] w fun e w' => (∃ b, e = .returned (.bool b)) ∧ w'.cell? ⟨t, 1, none⟩ = some (.pointer (some ⟨m, 0, none⟩)) ∧
      Aside0 (Has w' (fun k => fr k ∨ o1 k) (PM m (remR K (addrF n z'))) ∧ Kept (fun k => fr k ∨ o1 k) X w')) := ⟨fun w hb => by
    refine (pm_rem w _ m K (addrF n z') (hPM.below hb) (by omega) (addr_range _ _).1 (addr_range _ _).2).mono ?_
    rintro e w' ⟨he, hH, hKp⟩
    have hKX := (below_kept hb _).trans hKp
    exact ⟨⟨_, he⟩, hKX.cell (.inr (mp_t hMP)) hct, ⟨hH, hKX⟩⟩⟩
  have H6 : Aside0 (∀ w, Kept (fun k => fr k ∨ o1 k) X w → UpdIn w t m p.1 p.2 s A1 A1 c1 c1 key key D ∧ (MP t m v ps S).at_ w o1) := ⟨fun w hw => ⟨⟨hw.cell (.inr (mp_t hMP)) hct, (hw.block (Array.getElem?_eq_some_iff.1 hbk).1 (.inr hoo)).trans hbk, by
      obtain ⟨es, clock, hbb, F, hnn, he⟩ := hM
      exact ⟨es, clock, (hw.block (Array.getElem?_eq_some_iff.1 hbb).1 (.inr hom)).trans hbb, F, hnn, he⟩, hR, hk w (hw.mono (fun k h => .inl h)), hkb⟩, (MP t m v ps S).keep hMP (fun k hk hlt => hw.block hlt (.inr hk))⟩⟩
  have HO := Aside0.mk f1
  have HO3 := Aside0.mk (And.intro hoo (And.intro hom hom2))
  have HKEY : Aside0 (key.length ≤ maxLen) := ⟨by have := hU.hk.2.1; unfold maxLen; exact this⟩
  have HDEL : Aside0 (MRel (D.del (kl key)) (delE s.ents key)) := ⟨hR.del hnd hkb⟩
  have HPS := Aside0.mk (And.intro hp hs)
  have HKC := Aside0.mk hk
  have hk2 : ((key.length : Int) != s.key) = false := by simp [hkl]
  clear h f1 hPM hMP e1 hbk hM hR hct hot htl hF hz hz' hp hs hk hkl hU hoo hom hom2
  go_enter Tryd.func69, Tryd.ntmps69
  go_wp2_with fail
  refine HG.out.mono ?_
  rintro e X' ⟨rfl, rfl⟩
  go_wp2_with fail
  go_region_held3 (fun w => w.cell? ⟨p.1, 4, none⟩ = some (.map (some p.2)) ∧ (convert 26 9 (.slice A1 key.length c1)).run Tryd.prog w = .ok (.string (strOfNums key)) w ∧ (Instr.lookup 92 (.map (some p.2)) (.string (strOfNums key)) true).run Tryd.prog w = .ok (.tuple #[.int .u64 z', .bool true]) w) ((exact HF.out _ (by repeat (first | exact Below.refl _ _ | apply below_drew | apply pw_below_drewN)))) (fail)
  go_wp2_with fail
  go_region_held3 (fun w => w.cell? ⟨t, 1, none⟩ = some (.pointer (some ⟨m, 0, none⟩))) (first | assumption | exact HCT.out _ (by repeat (first | exact Below.refl _ _ | apply below_drew | apply pw_below_drewN))) (first | (go_at_call 35; refine (addr_c _ _ _).mono ?_; rintro e w5 ⟨rfl, k5, rfl⟩) | (go_at_call 82; refine (HREM.out _ (by repeat (first | exact Below.refl _ _ | apply below_drew | apply pw_below_drewN))).mono ?_; rintro e w6 ⟨⟨b6, rfl⟩, hct6, HQ⟩))
  obtain ⟨hU6, hMP6⟩ := H6.out w6 HQ.out.2
  have HMP6 := Aside0.mk hMP6
  have hU6d := hU6.below (below_drew (Below.refl _ _))
  obtain ⟨w7, hrun, hM7, hT7⟩ := hU6d.hM.drop strLaw Tryd.underlying92 (keyOf_kl key HKEY.out) 0
  have hG7 := hT7.grown
  obtain ⟨_, _, _, _, d4, _, _⟩ := one_cell hU6d.hb
  have hconv6 := conv_key (w := w6.drew) c1 hU6d.hk
  have hb7 : w7.heap[p.1]? = some (.cells (oneCells s p.2).toArray 94 (0, 0)) := (hG7.block p.1 (Array.getElem?_eq_some_iff.1 hU6d.hb).1 (fun e => HO3.out.2.2 (Option.some.inj e))).trans hU6d.hb
  obtain ⟨_, _, _, _, e4, _, _⟩ := one_cell hb7
  have hK7 : Kept fr X w7 := ((HQ.out.2.mono (fun k h => .inl h)).trans (Out.refl _ _).drew).trans ((grown_out hG7).mono (fun k _ e hf => by cases e; exact (HO.out _ HO3.out.2.1).1 hf))
  have hconv7 := conv_key (w := w7) c1 (HKC.out w7 hK7)
  have HQ8 : Aside0 (Has w7 fr ((MP t m v ps (S.set n { s with ents := delE s.ents key })).and (PM m (remR K (addrF n z')))) ∧ Kept fr X w7) := ⟨by
    have hblk : ∀ k, k < w6.heap.size → k ≠ p.1 → k ≠ p.2 → w7.heap[k]? = w6.heap[k]? := fun k hk h1 h2 => hG7.block k hk (fun e => h2 (Option.some.inj e))
    have hMP8 : (MP t m v ps (S.set n { s with ents := delE s.ents key })).at_ w7 o1 := mp_turn (D := D.del (kl key)) HMP6.out HPS.out.1 HPS.out.2 _ (fun k _ hlt h1 h2 => hblk k hlt h1 h2) hb7 hM7 HDEL.out
    exact ⟨(Has.join (HQ.out.1.other hG7.size (fun k hk hn => hblk k hk (fun e => hn (.inr (by rw [e]; exact HO3.out.1))) (fun e => hn (.inr (by rw [e]; exact HO3.out.2.1))))) (fun k hk => (HO.out k hk).1) hMP8).swap, hK7⟩⟩
  clear hU6 hMP6 hU6d hM7 hT7 hG7 hb7 hK7 hct6
  go_wp2_with fail
  go_region_held3 (fun w => w.cell? ⟨p.1, 4, none⟩ = some (.map (some p.2)) ∧ (convert 26 9 (.slice A1 key.length c1)).run Tryd.prog w = .ok (.string (strOfNums key)) w) (first | exact ⟨d4, hconv6⟩ | exact ⟨e4, hconv7⟩) (fail)
  go_wp2_with fail
  go_ret
  exact ⟨rfl, HQ8.out.1, HQ8.out.2⟩
theorem delete_c (X : World) (fr : Nat → Prop) (t m : Nat) (v : Value) (ps : List (Nat × Nat)) (S : List MapS) (K : List Reg) (i : Int) (A1 : Option Addr) (c1 : Nat) (key : List Int) (h : Has X fr ((MP t m v ps S).and (PM m K))) (hl : ps.length ≤ 100000) (hps : ps.length = S.length) (hK : K.length ≤ 99999) (hS : ∀ s ∈ S, SOk s)
    (hk : ∀ X', Kept fr X X' → Kd.C (Kd.int .u8) X' A1 key.length key) (hkb : IsBytes key) :
    Calls Tryd.prog 69 #[.pointer (some ⟨t, 0, none⟩), .int .i64 i, .slice A1 key.length c1] X fun e X' => e = .returned (.int .i64 (delR S i key)) ∧ Has X' fr ((MP t m v ps (delS S i key)).and (PM m (delK S K i key))) ∧ Kept fr X X' := by
  obtain ⟨o1, f1, hMP, hPM⟩ := h.swap.part
  rcases getP_len hps i with ⟨e1, e2⟩ | ⟨n, p, s, rfl, hp, hs, e1, e2⟩
  · unfold delR delS delK
    rw [e2]
    refine (del_bad X o1 t m v ps S i A1 c1 key hMP hl hps (fun s hs => by rw [e2] at hs; cases hs)).mono ?_
    rintro e X' ⟨he, rfl⟩
    exact ⟨he, h, Kept.refl _ _⟩
  · unfold delR delS delK
    rw [e2]
    dsimp only
    by_cases hb : (key.length : Int) = s.key
    · rw [if_pos hb, if_pos hb, if_pos hb]
      cases hz : lookE s.ents key with
      | some z =>
        dsimp only
        rw [Int.toNat_natCast]
        exact del_hit X fr t m v ps S K n A1 c1 key h hl hps hK p s hp hs e1 hb z hz (hS s (List.mem_of_getElem? hs)).nd hk hkb
      | none =>
        refine (del_miss X o1 t m v ps S n A1 c1 key hMP hl p s hp hs e1 hb hz (hk X (Kept.refl _ _)) hkb).mono ?_
        rintro e X' ⟨he, hbl⟩
        exact ⟨he, h.below hbl, below_kept hbl _⟩
    · rw [if_neg hb, if_neg hb, if_neg hb]
      refine (del_bad X o1 t m v ps S n A1 c1 key hMP hl hps (fun s' hs' => by rw [e2] at hs'; cases hs'; exact hb)).mono ?_
      rintro e X' ⟨he, rfl⟩
      exact ⟨he, h, Kept.refl _ _⟩
end Go.Proofs.YtomnfkihieinbaaDoor.PAll
/- maps: Def, New. -/
set_option linter.unusedVariables false
set_option linter.unusedSimpArgs false
namespace Go.Proofs.YtomnfkihieinbaaDoor.PAll
open Go.RowKit Go.Shelf Go.Maps Go.Proofs.YtomnfkihieinbaaDoorW.PrintWords Go.Proofs.YtomnfkihieinbaaDoorW.PrintLast Go.Proofs.YtomnfkihieinbaaDoorW.PrintMore
/-! ### Def -/
def zeroDef : S28 := ⟨⟨#[]⟩, 0, 0, 0⟩
def defOf (s : MapS) : S28 := ⟨s.name, s.key, s.value, s.entries⟩
def defF (S : List MapS) (i : Int) : S28 := match getP S i with
  | none => zeroDef
  | some s => defOf s
def defV (d : S28) : Value := .agg #[.string d.f0, .int .i64 d.f1, .int .i64 d.f2, .int .i64 d.f3]
set_option maxHeartbeats 2000000 in
set_option maxRecDepth 100000 in
theorem def_c (X : World) (own : Nat → Prop) (t m : Nat) (v : Value) (ps : List (Nat × Nat)) (S : List MapS) (i : Int) (h : (MP t m v ps S).at_ X own) (hl : ps.length ≤ 100000) (hps : ps.length = S.length) (ho : ∀ k, own k → k < X.heap.size) :
    Calls Tryd.prog 32 #[.pointer (some ⟨t, 0, none⟩), .int .i64 i] X fun e X' => e = .returned (defV (defF S i)) ∧ Below X.heap.size X X' := by
  have HG : Aside0 (∀ w, Below X.heap.size X w → Calls Tryd.prog 34 #[.pointer (some ⟨t, 0, none⟩), .int .i64 i] w fun e X' => e = .returned (ptrO (getP ps i)) ∧ w = X') := ⟨fun w hb => get_c w own t m v ps S i ((MP t m v ps S).keep h (fun k _ hlt => hb.block k hlt)) hl⟩
  unfold defF
  rcases getP_len hps i with ⟨e1, e2⟩ | ⟨n, p, s, rfl, hp, hs, e1, e2⟩
  · rw [e1] at HG
    rw [e2]
    unfold ptrO at HG
    clear h e1 e2 ho
    go_enter Tryd.func32, Tryd.ntmps32
    go_wp2_with fail
    refine (HG.out _ (below_alloc (Below.refl _ _) _)).mono ?_
    rintro e X' ⟨rfl, rfl⟩
    go_wp2_with fail
    exact bodyPost_ret (v := defV zeroDef) (by simp [results, Tryd.results32, go_sem, defV, zeroDef]) rfl ⟨rfl, Below.alloc (Below.refl _ _) (Nat.le_refl _) _⟩
  · rw [e1] at HG
    rw [e2]
    unfold ptrO at HG
    obtain ⟨D, hbk, hM, hR, _, _, _⟩ := mp_one h hp hs
    obtain ⟨W1, hW1⟩ : ∃ W1, X.alloc (.cells #[.string ⟨#[]⟩, .int .i64 0, .int .i64 0, .int .i64 0] 28) = W1 := ⟨_, rfl⟩
    have hB1 : Below X.heap.size X W1 := by rw [← hW1]; exact below_alloc (Below.refl _ _) _
    have HC : Aside0 (∀ w, Below X.heap.size X w → w.cell? ⟨p.1, 0, none⟩ = some (.string s.name) ∧ w.cell? ⟨p.1, 1, none⟩ = some (.int .i64 s.key) ∧ w.cell? ⟨p.1, 2, none⟩ = some (.int .i64 s.value) ∧ w.cell? ⟨p.1, 3, none⟩ = some (.int .i64 s.entries)) := ⟨fun w hb => by
      obtain ⟨a0, a1, a2, a3, _, _, _⟩ := one_cell ((hb.block p.1 (Array.getElem?_eq_some_iff.1 hbk).1).trans hbk)
      exact ⟨a0, a1, a2, a3⟩⟩
    obtain ⟨b0, b1, b2, b3⟩ := HC.out _ (below_alloc (Below.refl X.heap.size X) (.cells #[.string ⟨#[]⟩, .int .i64 0, .int .i64 0, .int .i64 0] 28))
    clear h e1 e2 ho hM hR hp hs hbk hB1 hW1
    go_enter Tryd.func32, Tryd.ntmps32
    go_wp2_with fail
    refine (HG.out _ (below_alloc (Below.refl _ _) _)).mono ?_
    rintro e X' ⟨rfl, rfl⟩
    go_wp2_with fail
    exact bodyPost_ret (v := defV (defOf s)) (by simp [results, Tryd.results32, go_sem, defV, defOf]) rfl ⟨rfl, Below.alloc (Below.refl _ _) (Nat.le_refl _) _⟩
end Go.Proofs.YtomnfkihieinbaaDoor.PAll
/- maps: New. -/
set_option linter.unusedVariables false
set_option linter.unusedSimpArgs false
namespace Go.Proofs.YtomnfkihieinbaaDoor.PAll
open Go.RowKit Go.Shelf Go.Maps Go.Proofs.YtomnfkihieinbaaDoorW.PrintWords Go.Proofs.YtomnfkihieinbaaDoorW.PrintLast Go.Proofs.YtomnfkihieinbaaDoorW.PrintMore
def newS (d : S28) : MapS := ⟨d.f0, d.f1, d.f2, d.f3, [], 0⟩
theorem ones_snoc : ∀ (ps : List (Nat × Nat)) (S : List MapS) (p : Nat × Nat) (s : MapS) (X : World) (o1 o2 : Nat → Prop), ps.length = S.length → (Ones ps S).at_ X o1 → (OneR p.1 p.2 s).at_ X o2 → (∀ k, o1 k → ¬ o2 k) → (Ones (ps ++ [p]) (S ++ [s])).at_ X (fun k => o1 k ∨ o2 k)
  | [], [], p, s, X, o1, o2, _, h1, h2, hd => ⟨o2, o1, fun k => Or.comm, fun k hk hk' => hd k hk' hk, h2, h1⟩
  | q :: ps, u :: S, p, s, X, o1, o2, hl, h1, h2, hd => by
    obtain ⟨o3, o4, g1, g2, g3, g4⟩ := h1
    have := ones_snoc ps S p s X o4 o2 (by simpa using hl) g4 h2 (fun k hk => hd k ((g1 k).2 (.inr hk)))
    refine ⟨o3, fun k => o4 k ∨ o2 k, fun k => ?_, ?_, g3, this⟩
    · show (o1 k ∨ o2 k) ↔ (o3 k ∨ (o4 k ∨ o2 k))
      rw [g1, or_assoc]
    · rintro k hk (h | h)
      · exact g2 k hk h
      · exact hd k ((g1 k).2 (.inl hk)) h
  | [], _ :: _, _, _, _, _, _, hl, _, _, _ => by simp at hl
  | _ :: _, [], _, _, _, _, _, hl, _, _, _ => by simp at hl
/-- A map is added behind the others. -/
theorem mp_push {X Y : World} {n0 : Nat} {t m : Nat} {v v' : Value} {ps : List (Nat × Nat)} {S : List MapS} (h : Has X (fun k => k < n0) (MP t m v ps S)) (hps : ps.length = S.length) (ob mb : Nat) (s : MapS) (hob : X.heap.size ≤ ob) (hmb : X.heap.size ≤ mb) (hom : ob ≠ mb)
    (hk : ∀ k, k < X.heap.size → k ≠ t → v.ownBlock ≠ some k → Y.heap[k]? = X.heap[k]?) (hs : X.heap.size ≤ Y.heap.size) (ht : Y.heap[t]? = some (.cells #[v', .pointer (some ⟨m, 0, none⟩)] 103 (0, 0)))
    (hrow : Y.ownsRow 0 89 1 v' (ps.length + 1) ((ps.map fun p => ptr p.1) ++ [ptr ob])) (hv' : ∀ k, v'.ownBlock = some k → v.ownBlock = some k ∨ (X.heap.size ≤ k ∧ k ≠ ob ∧ k ≠ mb))
    (hb : Y.heap[ob]? = some (.cells (oneCells s mb).toArray 94 (0, 0))) {D : DataW Unit} {n : Nat} (hM : Y.ownsMap Tryd.prog 9 (plainElem Tryd.prog 30) mb n D) (hR : MRel D s.ents) :
    Has Y (fun k => k < n0) (MP t m v' (ps ++ [(ob, mb)]) (S ++ [s])) := by
  obtain ⟨h0, own, h1, o1, o2, f1, f2, ⟨g1, g2, g3⟩, h4⟩ := h
  have ho2 : ∀ k, o2 k → k < X.heap.size := fun k hk => (h1 k ((f1 k).2 (.inr hk))).2
  have htl : t < X.heap.size := (Array.getElem?_eq_some_iff.1 g2).1
  have ht2 : ¬ o2 t := f2 t ((g1 t).2 (.inl rfl))
  have hv2 : ∀ k, v.ownBlock = some k → ¬ o2 k := fun k hk => f2 k ((g1 k).2 (.inr hk))
  have hn0 : ∀ k, k < n0 → k < X.heap.size := h0
  have hobl : ob < Y.heap.size := (Array.getElem?_eq_some_iff.1 hb).1
  have hmbl : mb < Y.heap.size := hM.lt
  have hO2 : (Ones ps S).at_ Y o2 := (Ones ps S).keep h4 (fun k hk2 hlt => hk k hlt (fun e => ht2 (e ▸ hk2)) (fun e => hv2 k e hk2))
  refine ⟨fun k hk => Nat.lt_of_lt_of_le (h0 k hk) hs, fun k => (k = t ∨ v'.ownBlock = some k) ∨ (o2 k ∨ (k = ob ∨ k = mb)), ?_, fun k => k = t ∨ v'.ownBlock = some k, fun k => o2 k ∨ (k = ob ∨ k = mb), fun k => Iff.rfl, ?_, ⟨fun k => Iff.rfl, ht, by simpa using hrow⟩, ones_snoc ps S (ob, mb) s Y o2 (fun k => k = ob ∨ k = mb) hps hO2 ⟨fun k => Iff.rfl, hom, hb, D, ownsMap_tight hM, hR⟩ (fun k hk e => by have := ho2 k hk; omega)⟩
  · rintro k ((rfl | hk') | (hk' | hk'))
    · exact ⟨(h1 _ ((f1 _).2 (.inl ((g1 _).2 (.inl rfl))))).1, by omega⟩
    · refine ⟨?_, own_lt hrow k hk'⟩
      rcases hv' k hk' with h | h
      · exact (h1 _ ((f1 _).2 (.inl ((g1 _).2 (.inr h))))).1
      · intro hlt; have := hn0 k hlt; omega
    · exact ⟨(h1 _ ((f1 _).2 (.inr hk'))).1, by have := ho2 k hk'; omega⟩
    · refine ⟨fun hlt => ?_, by omega⟩
      have := hn0 k hlt
      omega
  · rintro k (rfl | hk') (h | h)
    · exact ht2 h
    · omega
    · rcases hv' k hk' with h' | h'
      · exact hv2 k h' h
      · have := ho2 k h; omega
    · rcases hv' k hk' with h' | h'
      · have := own_lt g3 k h'; omega
      · omega
def inR (n most : Int) : Bool := decide (1 ≤ n ∧ n ≤ most)
theorem inRange_c (n most : Int) (w : World) : Calls Tryd.prog 52 #[.int .i64 n, .int .i64 most] w fun e w' => e = .returned (.bool (inR n most)) ∧ ∃ k, w' = w.drewN k := by
  refine (maps_inRange.calls n most (inR n most) w ?_).mono fun e w' h => ⟨h.1, by obtain ⟨k, hk⟩ := h.2.out; exact ⟨k, hk⟩⟩
  unfold maps_inRange.f inR
  by_cases h : n ≥ 1
  · rw [if_pos h]
    congr 1
    exact decide_eq_decide.2 ⟨fun h2 => ⟨h, h2⟩, fun h2 => h2.2⟩
  · rw [if_neg h, decide_eq_false (fun h2 => h h2.1)]
/-- The sizes of a declaration are right. -/
def sizesB (d : S28) : Bool := inR d.f1 64 && inR d.f2 256 && inR d.f3 1024
/-- What New answers. -/
def NewPost (X : World) (m : Nat) (ds : List S28) (e : Ending) (X' : World) : Prop :=
  if ds.all sizesB = true then ∃ t v ps, e = .returned (.tuple #[.pointer (some ⟨t, 0, none⟩), .int .i64 0]) ∧ ps.length = ds.length ∧ Has X' (fun k => k < X.heap.size) (MP t m v ps (ds.map newS)) ∧ Below X.heap.size X X'
  else e = .returned (.tuple #[.pointer none, .int .i64 9]) ∧ Below X.heap.size X X'
theorem infoPtr : (Tryd.prog.info? 89).map (fun i => (i.zero, i.size, i.bytes)) = some (some (.pointer none), 1, 8) := by kernel_rfl
set_option maxHeartbeats 4000000 in
set_option maxRecDepth 100000 in
theorem new_c' (X : World) (m : Nat) (A0 : Option Addr) (c0 : Nat) (ds : List S28) (hC : Kd.C k28 X A0 ds.length ds) (hl : ds.length ≤ 255) :
    Calls Tryd.prog 31 #[.pointer (some ⟨m, 0, none⟩), .slice A0 ds.length c0] X (NewPost X m ds) := by
  have HC := Aside0.mk hC
  obtain ⟨i0, hi, hz0, hz1, hz2⟩ := info_parts infoPtr
  have hmm := @run_makeMap Tryd.prog
  clear hC
  go_enter Tryd.func31, Tryd.ntmps31
  go_wp2_with fail
  obtain ⟨t, ht⟩ : ∃ t, X.heap.size = t := ⟨_, rfl⟩
  obtain ⟨W1, hW1⟩ : ∃ W1, X.alloc (.cells #[.slice none 0 0, .pointer (some ⟨m, 0, none⟩)] 103) = W1 := ⟨_, rfl⟩
  have HB1 : Aside0 (Below X.heap.size X W1) := ⟨by rw [← hW1]; exact below_alloc (Below.refl _ _) _⟩
  have HM1 : Aside0 (Has W1 (fun k => k < X.heap.size) (MP t m (.slice none 0 0) [] [])) := ⟨by
    have hb : W1.heap[t]? = some (.cells #[.slice none 0 0, .pointer (some ⟨m, 0, none⟩)] 103 (0, 0)) := by rw [← hW1, ← ht]; exact heap_alloc_new X _
    have hlt := (Array.getElem?_eq_some_iff.1 hb).1
    refine ⟨fun k hk => by omega, fun k => k = t, fun k hk => ⟨by omega, by omega⟩, fun k => k = t, fun _ => False, fun k => by simp, fun k _ h => h, ⟨fun k => by simp [Value.ownBlock], hb, World.ownsRow_nil _ _ _ _⟩, fun k h => h⟩⟩
  have HT := Aside0.mk ht
  rw [ht, hW1]
  clear ht hW1
  go_loopw [19] (fun v19 wr => ∃ (k : Nat) (v : Value) (ps : List (Nat × Nat)), k ≤ ds.length ∧ v19 = .int .i64 k ∧ Aside0 (ps.length = k) ∧ Aside0 ((ds.take k).all sizesB = true) ∧ Aside0 (Has wr (fun k => k < X.heap.size) (MP t m v ps ((ds.take k).map newS))) ∧ Aside0 (Below X.heap.size X wr)) (fun v19 _ => ds.length - (intOf v19).toNat)
  case atStart => exact ⟨0, .slice none 0 0, [], Nat.zero_le _, rfl, ⟨rfl⟩, ⟨rfl⟩, HM1, HB1⟩
  case round =>
    obtain ⟨k, v, ps, hk, rfl, HPS, HALL, HMP, HB⟩ := hrel
    by_cases hlt : k < ds.length
    · obtain ⟨ad, rfl, g0, g1, g2, g3⟩ := at_T28 HC.out (k : Int) (by omega) (by omega)
      rw [Int.toNat_natCast] at g0 g1 g2 g3
      obtain ⟨d, hd⟩ : ∃ d, rd_T28 ds (k : Int) = d := ⟨_, rfl⟩
      rw [hd] at g0 g1 g2 g3
      have HD : Aside0 (ds[k]? = some d) := ⟨by
        rw [← hd]
        unfold rd_T28
        rw [Int.toNat_natCast, List.getD_eq_getElem?_getD, List.getElem?_eq_getElem hlt]
        rfl⟩
      replace g0 := pw_cell_below HB.out g0
      replace g1 := pw_cell_below HB.out g1
      replace g2 := pw_cell_below HB.out g2
      replace g3 := pw_cell_below HB.out g3
      clear hd
      have HR : Aside0 (∀ n most w, Calls Tryd.prog 52 #[.int .i64 n, .int .i64 most] w fun e w' => e = .returned (.bool (inR n most)) ∧ Below w.heap.size w w') := ⟨fun n most w => (inRange_c n most w).mono fun e w' ⟨he, k, hk⟩ => ⟨he, by rw [hk]; exact pw_below_drewN (Below.refl _ _) _⟩⟩
      have HTK : Aside0 (ds.take (k + 1) = ds.take k ++ [d]) := ⟨by rw [List.take_add_one, HD.out]; rfl⟩
      obtain ⟨wd, hwd⟩ : ∃ wd, wr.alloc (.cells #[.string d.f0, .int .i64 d.f1, .int .i64 d.f2, .int .i64 d.f3] 28) = wd := ⟨_, rfl⟩
      obtain ⟨db, hdb⟩ : ∃ db, wr.heap.size = db := ⟨_, rfl⟩
      have HBK : Aside0 (wd.heap[db]? = some (.cells #[.string d.f0, .int .i64 d.f1, .int .i64 d.f2, .int .i64 d.f3] 28 (0, 0))) := ⟨by rw [← hwd, ← hdb]; exact heap_alloc_new wr _⟩
      have HBD : Aside0 (Below wr.heap.size wr wd) := ⟨by rw [← hwd]; exact below_alloc (Below.refl _ _) _⟩
      have HMD := Aside0.mk (HMP.out.below HBD.out)
      have HXD : Aside0 (Below X.heap.size X wd) := ⟨below_then HB.out HB.out.size HBD.out⟩
      have HDC : Aside0 (∀ w, Below wd.heap.size wd w → w.cell? ⟨db, 0, none⟩ = some (.string d.f0) ∧ w.cell? ⟨db, 1, none⟩ = some (.int .i64 d.f1) ∧ w.cell? ⟨db, 2, none⟩ = some (.int .i64 d.f2) ∧ w.cell? ⟨db, 3, none⟩ = some (.int .i64 d.f3)) := ⟨fun w hb => ⟨pw_cell_below hb ((blk_cell HBK.out 0).trans rfl), pw_cell_below hb ((blk_cell HBK.out 1).trans rfl), pw_cell_below hb ((blk_cell HBK.out 2).trans rfl), pw_cell_below hb ((blk_cell HBK.out 3).trans rfl)⟩⟩
      have HWD := Aside0.mk hwd
      have HDB := Aside0.mk hdb
      have HBAD : Aside0 (sizesB d = false → ∀ w, Below wd.heap.size wd w → Aside0 (NewPost X m ds (.returned (.tuple #[.pointer none, .int .i64 9])) w)) := ⟨fun hs w hb => ⟨by
        unfold NewPost
        have : ds.all sizesB = false := by
          rw [List.all_eq_false]
          exact ⟨d, List.mem_of_getElem? HD.out, by simp [hs]⟩
        rw [this]
        exact ⟨rfl, below_then HXD.out HXD.out.size hb⟩⟩⟩
      clear hwd hdb
      cases r1 : inR d.f1 64 with
      | false =>
        have HNO := Aside0.mk (HBAD.out (by unfold sizesB; rw [r1]; rfl))
        have H1 := Aside0.mk (HR.out d.f1 64)
        rw [r1] at H1
        clear r1
        go_wp2_with fail
        rw [HWD.out, HDB.out]
        refine (H1.out _).mono ?_
        rintro e w3 ⟨rfl, hb3⟩
        have HQ := HNO.out w3 hb3
        go_wp2_with fail
        go_ret2
        exact HQ.out
      | true =>
        have H1 := Aside0.mk (HR.out d.f1 64)
        rw [r1] at H1
        cases r2 : inR d.f2 256 with
        | false =>
          have HNO := Aside0.mk (HBAD.out (by unfold sizesB; rw [r1, r2]; rfl))
          have H2 := Aside0.mk (HR.out d.f2 256)
          rw [r2] at H2
          clear r1 r2
          go_wp2_with fail
          rw [HWD.out, HDB.out]
          refine (H1.out _).mono ?_
          rintro e w3 ⟨rfl, hb3⟩
          obtain ⟨d0, d1, d2, d3⟩ := HDC.out w3 hb3
          go_wp2_with fail
          refine (H2.out _).mono ?_
          rintro e w4 ⟨rfl, hb4⟩
          have HQ := HNO.out w4 (below_then hb3 hb3.size hb4)
          go_wp2_with fail
          go_ret2
          exact HQ.out
        | true =>
          have H2 := Aside0.mk (HR.out d.f2 256)
          rw [r2] at H2
          cases r3 : inR d.f3 1024 with
          | false =>
            have HNO := Aside0.mk (HBAD.out (by unfold sizesB; rw [r1, r2, r3]; rfl))
            have H3 := Aside0.mk (HR.out d.f3 1024)
            rw [r3] at H3
            clear r1 r2 r3
            go_wp2_with fail
            rw [HWD.out, HDB.out]
            refine (H1.out _).mono ?_
            rintro e w3 ⟨rfl, hb3⟩
            obtain ⟨d0, d1, d2, d3⟩ := HDC.out w3 hb3
            go_wp2_with fail
            refine (H2.out _).mono ?_
            rintro e w4 ⟨rfl, hb4⟩
            have HB4 := Aside0.mk (below_then hb3 hb3.size hb4)
            obtain ⟨x0, x1, x2, x3⟩ := HDC.out w4 HB4.out
            clear hb3 hb4
            go_wp2_with fail
            refine (H3.out _).mono ?_
            rintro e w5 ⟨rfl, hb5⟩
            have HQ := HNO.out w5 (below_then HB4.out HB4.out.size hb5)
            go_wp2_with fail
            go_ret2
            exact HQ.out
          | true =>
            have HSZ : Aside0 (sizesB d = true) := ⟨by unfold sizesB; rw [r1, r2, r3]; rfl⟩
            have H3 := Aside0.mk (HR.out d.f3 1024)
            rw [r3] at H3
            clear r1 r2 r3
            go_wp2_with fail
            rw [HWD.out, HDB.out]
            refine (H1.out _).mono ?_
            rintro e w3 ⟨rfl, hb3⟩
            obtain ⟨d0, d1, d2, d3⟩ := HDC.out w3 hb3
            go_wp2_with fail
            refine (H2.out _).mono ?_
            rintro e w4 ⟨rfl, hb4⟩
            have HB4 := Aside0.mk (below_then hb3 hb3.size hb4)
            obtain ⟨x0, x1, x2, x3⟩ := HDC.out w4 HB4.out
            clear hb3 hb4
            go_wp2_with fail
            refine (H3.out _).mono ?_
            rintro e w5 ⟨rfl, hb5⟩
            have HB5 := Aside0.mk (below_then HB4.out HB4.out.size hb5)
            obtain ⟨y0, y1, y2, y3⟩ := HDC.out w5 HB5.out
            have HM5 := Aside0.mk (HMD.out.below HB5.out)
            clear hb5 d0 d1 d2 d3 x0 x1 x2 x3
            obtain ⟨own5, hown5, hat5⟩ := HM5.out.2
            obtain ⟨A5, c5, hv5, ht5, _, hot5, htl5, _⟩ := mp_head hat5
            have hbt : w5.heap[t]? = some (.cells #[v, .pointer (some ⟨m, 0, none⟩)] 103 (0, 0)) := by
              obtain ⟨q1, q2, r1, r2, ⟨_, r4, _⟩, _⟩ := hat5
              exact r4
            have hrow5 : w5.ownsRow 0 89 1 v ps.length (ps.map fun p => ptr p.1) := by
              obtain ⟨q1, q2, r1, r2, ⟨_, _, r5⟩, _⟩ := hat5
              exact r5
            obtain ⟨o1, ho1⟩ : ∃ o1, Obj.map #[] 0 = o1 := ⟨_, rfl⟩
            obtain ⟨o2, ho2⟩ : ∃ o2, Obj.cells #[.string d.f0, .int .i64 d.f1, .int .i64 d.f2, .int .i64 d.f3, .map (some w5.heap.size), .int .u64 0] 94 (0, 0) = o2 := ⟨_, rfl⟩
            obtain ⟨o3, ho3⟩ : ∃ o3, Obj.cells #[.pointer (some ⟨w5.heap.size + 1, 0, none⟩)] 89 (0, 0) = o3 := ⟨_, rfl⟩
            have HTC : Aside0 (∀ w, Below w5.heap.size w5 w → w.cell? ⟨t, 0, none⟩ = some v ∧ w.frozen? ⟨t, 0, none⟩ = false) := ⟨fun w hb => by
              have hb' := (hb.block t htl5).trans hbt
              exact ⟨(blk2 hb').1, (blk2 hb').2.2.1⟩⟩
            have HDC5 : Aside0 (∀ w, Below w5.heap.size w5 w → w.cell? ⟨db, 0, none⟩ = some (.string d.f0) ∧ w.cell? ⟨db, 1, none⟩ = some (.int .i64 d.f1) ∧ w.cell? ⟨db, 2, none⟩ = some (.int .i64 d.f2) ∧ w.cell? ⟨db, 3, none⟩ = some (.int .i64 d.f3)) := ⟨fun w hb => HDC.out w (below_then HB5.out HB5.out.size hb)⟩
            have hb0 : Below w5.heap.size w5 w5.drew := below_drew (Below.refl _ _)
            have hb1 : Below w5.heap.size w5 (w5.alloc o1).drew := below_drew (below_alloc (Below.refl _ _) _)
            have hb2 : Below w5.heap.size w5 ((w5.alloc o1).alloc o2).drew := below_drew (below_alloc (below_alloc (Below.refl _ _) _) _)
            have hb3 : Below w5.heap.size w5 (((w5.alloc o1).alloc o2).alloc o3).drew := below_drew (below_alloc (below_alloc (below_alloc (Below.refl _ _) _) _) _)
            have HB3 := Aside0.mk hb3
            have t0 := (HTC.out _ hb0).1
            have t1 := (HTC.out _ hb1).1
            have t2 := (HTC.out _ hb2).1
            have t3 := (HTC.out _ hb3).1
            obtain ⟨p0, p1, p2, p3⟩ := HDC5.out _ hb0
            obtain ⟨q0, q1, q2, q3⟩ := HDC5.out _ hb1
            have HROW : Aside0 ((((w5.alloc o1).alloc o2).alloc o3).drew.ownsRow 0 89 1 v ps.length (ps.map fun p => ptr p.1)) := ⟨pw_own_below hrow5 hb3⟩
            have hsz3 : ((w5.alloc o1).alloc o2).heap.size = w5.heap.size + 1 + 1 := by simp
            have HNEWS : Aside0 (∀ j u, [ptr (w5.heap.size + 1)][j]? = some u → (((w5.alloc o1).alloc o2).alloc o3).drew.cell? ((⟨w5.heap.size + 1 + 1, 0, none⟩ : Addr).add j) = some u) := ⟨by
              have := heap_alloc_new ((w5.alloc o1).alloc o2) o3
              rw [hsz3, ← ho3] at this
              rw [← ho3]
              exact World.news_of_block (w := (((w5.alloc o1).alloc o2).alloc (.cells #[.pointer (some ⟨w5.heap.size + 1, 0, none⟩)] 89 (0, 0))).drew) this⟩
            have HON : Aside0 (∀ u ∈ [ptr (w5.heap.size + 1)], u.oneCell' = true) := ⟨fun u hu => by rw [List.mem_singleton.1 hu]; rfl⟩
            have hpl : ps.length ≤ 255 := by have := HPS.out; omega
            have HAPP : Aside0 (ps.length + 1 ≤ maxLen ∧ (ps.length + 1) * 8 ≤ 140737488355328) := ⟨by unfold maxLen; omega, by omega⟩
            have HBT := Aside0.mk hbt
            have HT8 : Aside0 (∀ w8, (((w5.alloc o1).alloc o2).alloc o3).drew.grownBy w8 v.ownBlock → w8.heap[t]? = some (.cells #[v, .pointer (some ⟨m, 0, none⟩)] 103 (0, 0))) := ⟨fun w8 hg => by
              have hvt : v.ownBlock ≠ some t := fun e => by
                obtain ⟨cc, hcc⟩ := row_block hrow5 e
                exact two_blocks hcc hbt (by decide) rfl
              rw [hg.block t (Nat.lt_of_lt_of_le htl5 HB3.out.size) (fun e => hvt e.symm)]
              exact (HB3.out.block t htl5).trans hbt⟩
            have HFIN : Aside0 (∀ w8 g2 cap2, w8.ownsRow 0 89 1 (.slice (some ⟨g2, 0, none⟩) (ps.length + 1) cap2) (ps.length + 1) ((ps.map fun p => ptr p.1) ++ [ptr (w5.heap.size + 1)]) → (((w5.alloc o1).alloc o2).alloc o3).drew.grownBy w8 v.ownBlock → (v.ownBlock = some g2 ∨ g2 = (((w5.alloc o1).alloc o2).alloc o3).drew.heap.size) →
                Aside0 (Has (w8.setCell ⟨t, 0, none⟩ (.slice (some ⟨g2, 0, none⟩) (ps.length + 1) cap2)) (fun k => k < X.heap.size) (MP t m (.slice (some ⟨g2, 0, none⟩) (ps.length + 1) cap2) (ps ++ [(w5.heap.size + 1, w5.heap.size)]) ((ds.take (k + 1)).map newS)) ∧ Below X.heap.size X (w8.setCell ⟨t, 0, none⟩ (.slice (some ⟨g2, 0, none⟩) (ps.length + 1) cap2)))) := ⟨fun w8 g2 cap2 hown hgr hat => by
              have hs1 : (w5.alloc o1).heap.size = w5.heap.size + 1 := by simp
              have hs3 : (((w5.alloc o1).alloc o2).alloc o3).drew.heap.size = w5.heap.size + 1 + 1 + 1 := by
                show (((w5.alloc o1).alloc o2).alloc o3).heap.size = _
                simp
              have hm1 : (((w5.alloc o1).alloc o2).alloc o3).drew.heap[w5.heap.size]? = some (.map #[] 0) := by
                have e1 : (w5.alloc o1).heap[w5.heap.size]? = some o1 := heap_alloc_new w5 o1
                have hb : Below (w5.alloc o1).heap.size (w5.alloc o1) (((w5.alloc o1).alloc o2).alloc o3).drew := below_drew (below_alloc (below_alloc (Below.refl _ _) _) _)
                rw [hb.block w5.heap.size (by omega), e1, ← ho1]
              have hm2 : (((w5.alloc o1).alloc o2).alloc o3).drew.heap[w5.heap.size + 1]? = some o2 := by
                have e1 : ((w5.alloc o1).alloc o2).heap[(w5.alloc o1).heap.size]? = some o2 := heap_alloc_new (w5.alloc o1) o2
                rw [hs1] at e1
                have hb : Below ((w5.alloc o1).alloc o2).heap.size ((w5.alloc o1).alloc o2) (((w5.alloc o1).alloc o2).alloc o3).drew := below_drew (below_alloc (Below.refl _ _) _)
                rw [hb.block (w5.heap.size + 1) (by simp), e1]
              have hvl : ∀ z, v.ownBlock = some z → z < w5.heap.size := fun z hz => own_lt hrow5 z hz
              have h8 : ∀ z, z < w5.heap.size + 1 + 1 + 1 → v.ownBlock ≠ some z → w8.heap[z]? = (((w5.alloc o1).alloc o2).alloc o3).drew.heap[z]? := fun z hz hn => hgr.block z (by rw [hs3]; exact hz) (fun e => hn e.symm)
              have hset : ∀ z, z ≠ t → (w8.setCell ⟨t, 0, none⟩ (.slice (some ⟨g2, 0, none⟩) (ps.length + 1) cap2)).heap[z]? = w8.heap[z]? := fun z hz => Below.heap_setCell w8 ⟨t, 0, none⟩ _ z hz
              have hszs : (w8.setCell ⟨t, 0, none⟩ (.slice (some ⟨g2, 0, none⟩) (ps.length + 1) cap2)).heap.size = w8.heap.size := by simp [World.setCell]
              have hgt : g2 ≠ t := fun e => by
                obtain ⟨cc, hcc⟩ := row_block hown (g := g2) rfl
                rw [e, HT8.out w8 hgr] at hcc
                cases hcc
              have hw8 : w5.heap.size + 1 + 1 + 1 ≤ w8.heap.size := by have := hgr.size; rw [hs3] at this; exact this
              have hold : ∀ z, z < w5.heap.size → z ≠ t → v.ownBlock ≠ some z → (w8.setCell ⟨t, 0, none⟩ (.slice (some ⟨g2, 0, none⟩) (ps.length + 1) cap2)).heap[z]? = w5.heap[z]? := fun z hz h1 h2 => by
                rw [hset z h1, h8 z (by omega) h2]
                exact HB3.out.block z hz
              have e1 : (ds.take (k + 1)).map newS = (ds.take k).map newS ++ [newS d] := by rw [HTK.out, List.map_append]; rfl
              rw [e1]
              refine ⟨mp_push HM5.out (by have := HPS.out; simp; omega) (w5.heap.size + 1) w5.heap.size (newS d) (by omega) (Nat.le_refl _) (by omega) hold (by rw [hszs]; omega) (blk_put (HT8.out w8 hgr) 0 _ rfl) (row_keep hown (fun z hz => by cases hz; exact hset g2 hgt)) ?_ ?_ (D := .map []) (n := 0) ?_ MRel.start, ?_⟩
              · intro z hz
                obtain rfl : g2 = z := by simpa [Value.ownBlock] using hz
                rcases hat with h | h
                · exact .inl h
                · rw [hs3] at h; exact .inr (by omega)
              · rw [hset _ (by omega), h8 _ (by omega) (fun e => by have := hvl _ e; omega), hm2, ← ho2]
                rfl
              · refine ⟨#[], 0, ?_, ?_⟩
                · rw [hset _ (by omega), h8 _ (by omega) (fun e => by have := hvl _ e; omega), hm1]
                · have := World.ownsMap_made w5 Tryd.prog 9 (plainElem (H := Unit) Tryd.prog 30)
                  obtain ⟨es, clock, hb, F, hn, he⟩ := this
                  rw [heap_alloc_new] at hb
                  cases hb
                  exact ⟨F, hn, he⟩
              · have hX5 : Below X.heap.size X w5 := below_then HXD.out HXD.out.size HB5.out
                have htX : X.heap.size ≤ t := by rw [← HT.out]; exact Nat.le_refl _
                have hvX : ∀ z, v.ownBlock = some z → X.heap.size ≤ z := fun z hz => by
                  obtain ⟨_, own, h1, q1, q2, r1, r2, ⟨r3, _, _⟩, _⟩ := HM5.out
                  have := (h1 z ((r1 z).2 (.inl ((r3 z).2 (.inr hz))))).1
                  omega
                exact ((below_then hX5 hX5.size HB3.out).grown hgr (Nat.le_trans hX5.size HB3.out.size) hvX).setCell htX _⟩
            clear hown5 hat5 hbt hrow5 hb0 hb1 hb2 hb3 hsz3 ht5 hot5 htl5 hv5
            go_wp2_with fail
            go_region_law ((refine step_append_lies _ (by rfl) _ _ 99 (by rfl) 0 89 i0 _ 1 8 Tryd.underlying99 hi hz0 hz1 hz2 (by rfl) (by decide) v ps.length (ps.map fun p => ptr p.1) (by rfl) HROW.out ⟨w5.heap.size + 1 + 1, 0, none⟩ 1 1 [ptr (w5.heap.size + 1)] (by rfl) (by rfl) HNEWS.out HON.out (by decide) HAPP.out.1 HAPP.out.2 (Nat.zero_le _) _ rfl ?_; intro g2 cap2 w8 hown8 hgrow8 hat8 hlt8; have HQ8 := HFIN.out _ _ _ hown8 hgrow8 hat8; have ht8 := (blk2 (HT8.out _ hgrow8)).1; have hf8 := (blk2 (HT8.out _ hgrow8)).2.2.1; clear hown8 hgrow8 hat8 hlt8))
            all_goals
              have HALL2 : Aside0 ((ds.take (k + 1)).all sizesB = true) := ⟨by rw [HTK.out, List.all_append, HALL.out]; simp [HSZ.out]⟩
              have HPS2 : Aside0 ((ps ++ [(w5.heap.size + 1, w5.heap.size)]).length = k + 1) := ⟨by rw [List.length_append, HPS.out]; rfl⟩
              go_wp2_with fail
              exact ⟨⟨k + 1, _, _, by omega, by congr 1, HPS2, HALL2, ⟨HQ8.out.1⟩, ⟨HQ8.out.2⟩⟩, by simp [intOf]; omega⟩
    · obtain rfl : k = ds.length := by omega
      have HQ : Aside0 (NewPost X m ds (.returned (.tuple #[.pointer (some ⟨t, 0, none⟩), .int .i64 0])) wr) := ⟨by
        unfold NewPost
        have e : ds.take ds.length = ds := List.take_of_length_le (Nat.le_refl _)
        have h1 := HALL.out
        have h2 := HMP.out
        rw [e] at h1 h2
        rw [if_pos h1]
        exact ⟨t, v, ps, rfl, HPS.out, h2, HB.out⟩⟩
      go_wp2_with fail
      go_ret2
      exact HQ.out
end Go.Proofs.YtomnfkihieinbaaDoor.PAll
