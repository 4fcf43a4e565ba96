/- The texts HelpW1, HelpW3, HelpW4 of this claim, joined. -/
import Derived.Test.YtomnfkihieinbaaDoorGMemA
import Derived.Laws.EntriesVeiled
import Derived.Test.YtomnfkihieinbaaDoorGMapsA
import Derived.Deep.RegionHeld3
import Derived.Test.YtomnfkihieinbaaDoorGMapsC
/- helper: the table of helpers, in the text of helpers. -/
set_option linter.unusedVariables false
set_option linter.unusedSimpArgs false
namespace Go.Proofs.YtomnfkihieinbaaDoor.PAll
open Go.RowKit Go.Proofs.YtomnfkihieinbaaDoorW.PrintWords Go.Proofs.YtomnfkihieinbaaDoorW.PrintLast Go.Proofs.YtomnfkihieinbaaDoorW.PrintMore
def hV : Value := .agg #[.func (.func 53) #[] #[], .func (.func 54) #[] #[], .func (.func 55) #[] #[]]
set_option maxHeartbeats 2000000 in
theorem helpers_c (X : World) : Calls Tryd.prog 33 #[] X fun e X' => e = .returned hV ∧ Below X.heap.size X X' := by
  go_enter Tryd.func33, Tryd.ntmps33
  go_wp2_with fail
  exact bodyPost_ret (v := hV) (by simp [results, Tryd.results33, go_sem, hV]) rfl ⟨rfl, Below.alloc (Below.refl _ _) (Nat.le_refl _) _⟩
end Go.Proofs.YtomnfkihieinbaaDoor.PAll
/- helper: Call's walk, its callees by what they answer. -/
set_option linter.unusedVariables false
set_option linter.unusedSimpArgs false
namespace Go.Proofs.YtomnfkihieinbaaDoor.PAll
open Go.RowKit Go.Shelf Go.Maps Go.Proofs.YtomnfkihieinbaaDoorW.PrintWords Go.Proofs.YtomnfkihieinbaaDoorW.PrintLast Go.Proofs.YtomnfkihieinbaaDoorW.PrintMore
theorem one11 (r0 r1 r2 r3 r4 r5 r6 r7 r8 r9 r10 : Int) : (#[.int .u64 r0, .int .u64 r1, .int .u64 r2, .int .u64 r3, .int .u64 r4, .int .u64 r5, .int .u64 r6, .int .u64 r7, .int .u64 r8, .int .u64 r9, .int .u64 r10] : Array Value).all (·.oneCell') = true := by simp [Value.oneCell']
def IndexC (X : World) (t : Nat) (h : Int) (i : Int) (ok : Bool) : Prop := ∀ W, Below X.heap.size X W → Calls Tryd.prog 28 #[.pointer (some ⟨t, 0, none⟩), .int .u64 h] W fun e X' => e = .returned (.tuple #[.int .i64 i, .bool ok]) ∧ W = X'
set_option maxHeartbeats 2000000 in
set_option maxRecDepth 100000 in
theorem call_bad (X : World) (t m : Nat) (which i r0 r1 r2 r3 r4 r5 r6 r7 r8 r9 r10 : Int) (HI : Aside0 (IndexC X t r1 i false)) :
    Calls Tryd.prog 11 #[.pointer (some ⟨t, 0, none⟩), .pointer (some ⟨m, 0, none⟩), .int .i64 which, .agg #[.int .u64 r0, .int .u64 r1, .int .u64 r2, .int .u64 r3, .int .u64 r4, .int .u64 r5, .int .u64 r6, .int .u64 r7, .int .u64 r8, .int .u64 r9, .int .u64 r10]] X fun e X' => e = .returned (.tuple #[.agg #[.int .u64 r0, .int .u64 r1, .int .u64 r2, .int .u64 r3, .int .u64 r4, .int .u64 r5, .int .u64 r6, .int .u64 r7, .int .u64 r8, .int .u64 r9, .int .u64 r10], .int .i64 2]) ∧ Below X.heap.size X X' := by
  go_enter Tryd.func11, Tryd.ntmps11
  go_wp2_with fail
  refine (HI.out _ (below_alloc (below_alloc (Below.refl _ _) _) _)).mono ?_
  rintro e X' ⟨rfl, rfl⟩
  go_wp2_with fail
  exact bodyPost_ret (v := .tuple #[.agg #[.int .u64 r0, .int .u64 r1, .int .u64 r2, .int .u64 r3, .int .u64 r4, .int .u64 r5, .int .u64 r6, .int .u64 r7, .int .u64 r8, .int .u64 r9, .int .u64 r10], .int .i64 2]) (by simp [results, Tryd.results11, go_sem]) rfl ⟨rfl, below_alloc (below_alloc (Below.refl _ _) _) _⟩
def DefC (X : World) (t : Nat) (i : Int) (nm : ByteArray) (dk dv de : Int) : Prop := ∀ W, Below X.heap.size X W → Calls Tryd.prog 32 #[.pointer (some ⟨t, 0, none⟩), .int .i64 i] W fun e X' => e = .returned (.agg #[.string nm, .int .i64 dk, .int .i64 dv, .int .i64 de]) ∧ Below W.heap.size W X'
def BytesC (X : World) (m : Nat) (a n : Int) (ok : Bool) (bs : List Int) : Prop := ∀ W, Below X.heap.size X W → Calls Tryd.prog 22 #[.pointer (some ⟨m, 0, none⟩), .int .u64 a, .int .i64 n] W fun e X' => (∃ A nn c, e = .returned (.tuple #[.slice A nn c, .bool ok]) ∧ Aside0 (Kd.C (Kd.int .u8) X' A nn bs ∧ nn ≤ c ∧ ∀ ad, A = some ad → 0 < nn → W.heap.size ≤ ad.block)) ∧ Below W.heap.size W X'
/-- What the boxes hold: the registers, the result, the call. -/
structure Boxes (X W : World) (rs zs cs : Array Value) : Prop where
  below : Below X.heap.size X W
  p : W.heap[X.heap.size]? = some (.cells rs 33 (0, 0))
  r : W.heap[X.heap.size + 1]? = some (.cells zs 33 (0, 0))
  c : W.heap[X.heap.size + 2]? = some (.cells cs 84 (0, 0))
theorem Boxes.next {X W W' : World} {rs zs cs : Array Value} (h : Boxes X W rs zs cs) (hb : Below W.heap.size W W') : Boxes X W' rs zs cs := by
  have hl : ∀ {k : Nat} {o : Obj}, W.heap[k]? = some o → k < W.heap.size := fun hh => (Array.getElem?_eq_some_iff.1 hh).1
  exact ⟨h.below.trans (hb.mono h.below.size), (hb.block _ (hl h.p)).trans h.p, (hb.block _ (hl h.r)).trans h.r, (hb.block _ (hl h.c)).trans h.c⟩
theorem Boxes.setC {X W : World} {rs zs cs : Array Value} (h : Boxes X W rs zs cs) (j : Nat) (v : Value) (cs' : Array Value) (hc : cs' = cs.setIfInBounds j v) : Boxes X (W.setCell ⟨X.heap.size + 2, j, none⟩ v) rs zs cs' := by
  subst hc
  have hs : ∀ k, k ≠ X.heap.size + 2 → (W.setCell ⟨X.heap.size + 2, j, none⟩ v).heap[k]? = W.heap[k]? := fun k hk => Below.heap_setCell W ⟨X.heap.size + 2, j, none⟩ v k hk
  exact ⟨h.below.setCell (p := ⟨X.heap.size + 2, j, none⟩) (by show _ ≤ X.heap.size + 2; omega) v, (hs _ (by omega)).trans h.p, (hs _ (by omega)).trans h.r, by
    exact blk_put h.c j v rfl⟩
theorem boxes_start (X : World) (rs zs cs : Array Value) : Boxes X (((X.alloc (.cells rs 33)).alloc (.cells zs 33)).alloc (.cells cs 84)) rs zs cs := by
  have b1 : Below X.heap.size X (X.alloc (.cells rs 33)) := below_alloc (Below.refl _ _) _
  have b2 : Below X.heap.size X ((X.alloc (.cells rs 33)).alloc (.cells zs 33)) := below_alloc b1 _
  refine ⟨below_alloc b2 _, ?_, ?_, ?_⟩
  · rw [(below_alloc (Below.refl _ ((X.alloc (.cells rs 33)).alloc (.cells zs 33))) _).block _ (by simp; omega), (below_alloc (Below.refl _ (X.alloc (.cells rs 33))) _).block _ (by simp)]
    exact heap_alloc_new X _
  · rw [(below_alloc (Below.refl _ ((X.alloc (.cells rs 33)).alloc (.cells zs 33))) _).block _ (by simp)]
    have := heap_alloc_new (X.alloc (.cells rs 33)) (.cells zs 33)
    simpa using this
  · have := heap_alloc_new ((X.alloc (.cells rs 33)).alloc (.cells zs 33)) (.cells cs 84)
    simpa using this
set_option maxHeartbeats 4000000 in
set_option maxRecDepth 100000 in
theorem call_nokey (X : World) (t m : Nat) (which i r0 r1 r2 r3 r4 r5 r6 r7 r8 r9 r10 dk dv de : Int) (nm : ByteArray) (bs : List Int) (HI : Aside0 (IndexC X t r1 i true)) (HD : Aside0 (DefC X t i nm dk dv de)) (HY : Aside0 (BytesC X m r2 dk false bs)) :
    Calls Tryd.prog 11 #[.pointer (some ⟨t, 0, none⟩), .pointer (some ⟨m, 0, none⟩), .int .i64 which, .agg #[.int .u64 r0, .int .u64 r1, .int .u64 r2, .int .u64 r3, .int .u64 r4, .int .u64 r5, .int .u64 r6, .int .u64 r7, .int .u64 r8, .int .u64 r9, .int .u64 r10]] X fun e X' => e = .returned (.tuple #[.agg #[.int .u64 r0, .int .u64 r1, .int .u64 r2, .int .u64 r3, .int .u64 r4, .int .u64 r5, .int .u64 r6, .int .u64 r7, .int .u64 r8, .int .u64 r9, .int .u64 r10], .int .i64 1]) ∧ Below X.heap.size X X' := by
  have hfd : ∀ w : World, (Instr.field 28 (.agg #[.string nm, .int .i64 dk, .int .i64 dv, .int .i64 de]) 1).run Tryd.prog w = .ok (.int .i64 dk) w := fun _ => rfl
  have HB0 := Aside0.mk (boxes_start X #[.int .u64 r0, .int .u64 r1, .int .u64 r2, .int .u64 r3, .int .u64 r4, .int .u64 r5, .int .u64 r6, .int .u64 r7, .int .u64 r8, .int .u64 r9, .int .u64 r10] #[.int .u64 0, .int .u64 0, .int .u64 0, .int .u64 0, .int .u64 0, .int .u64 0, .int .u64 0, .int .u64 0, .int .u64 0, .int .u64 0, .int .u64 0] #[.pointer (some ⟨t, 0, none⟩), .int .i64 i, .slice none 0 0, .slice none 0 0])
  obtain ⟨W0, hW0⟩ : ∃ W0, (((X.alloc (.cells #[.int .u64 r0, .int .u64 r1, .int .u64 r2, .int .u64 r3, .int .u64 r4, .int .u64 r5, .int .u64 r6, .int .u64 r7, .int .u64 r8, .int .u64 r9, .int .u64 r10] 33)).alloc (.cells #[.int .u64 0, .int .u64 0, .int .u64 0, .int .u64 0, .int .u64 0, .int .u64 0, .int .u64 0, .int .u64 0, .int .u64 0, .int .u64 0, .int .u64 0] 33)).alloc (.cells #[.pointer (some ⟨t, 0, none⟩), .int .i64 i, .slice none 0 0, .slice none 0 0] 84)) = W0 := ⟨_, rfl⟩
  have HW0 := Aside0.mk hW0
  rw [hW0] at HB0
  clear hW0
  have HCELL : Aside0 (∀ w cs, Boxes X w #[.int .u64 r0, .int .u64 r1, .int .u64 r2, .int .u64 r3, .int .u64 r4, .int .u64 r5, .int .u64 r6, .int .u64 r7, .int .u64 r8, .int .u64 r9, .int .u64 r10] #[.int .u64 0, .int .u64 0, .int .u64 0, .int .u64 0, .int .u64 0, .int .u64 0, .int .u64 0, .int .u64 0, .int .u64 0, .int .u64 0, .int .u64 0] cs → w.cell? ⟨X.heap.size, 2, none⟩ = some (.int .u64 r2)) := ⟨fun w cs h => by simp [World.cell?, h.p]⟩
  have HCC : Aside0 (∀ w c0 c1 c2 c3, Boxes X w #[.int .u64 r0, .int .u64 r1, .int .u64 r2, .int .u64 r3, .int .u64 r4, .int .u64 r5, .int .u64 r6, .int .u64 r7, .int .u64 r8, .int .u64 r9, .int .u64 r10] #[.int .u64 0, .int .u64 0, .int .u64 0, .int .u64 0, .int .u64 0, .int .u64 0, .int .u64 0, .int .u64 0, .int .u64 0, .int .u64 0, .int .u64 0] #[c0, c1, c2, c3] → w.cell? ⟨X.heap.size + 2, 2, none⟩ = some c2 ∧ w.frozen? ⟨X.heap.size + 2, 2, none⟩ = false) := ⟨fun w c0 c1 c2 c3 h => ⟨by simp [World.cell?, h.c], by simp [World.frozen?, h.c]⟩⟩
  go_enter Tryd.func11, Tryd.ntmps11
  go_wp2_with fail
  refine (HI.out _ (below_alloc (below_alloc (Below.refl _ _) _) _)).mono ?_
  rintro e X' ⟨rfl, rfl⟩
  go_wp2_with fail
  rw [HW0.out]
  have hbx := HB0.out.next (below_drew (Below.refl _ _))
  have hx2 := HCELL.out _ _ hbx
  go_region_with (first | (go_at_call 32; refine (HD.out _ (Boxes.below (by assumption))).mono ?_; rintro e w4 ⟨rfl, hb4⟩; have hbx4 := Boxes.next (by assumption) hb4; have hx4 := HCELL.out _ _ hbx4; clear hb4) | (go_at_call 22; refine (HY.out _ (Boxes.below (by assumption))).mono ?_; rintro e w5 ⟨⟨A, nn, c, rfl, hC⟩, hb5⟩; have hbx5 := Boxes.next (by assumption) hb5; obtain ⟨hc5, hf5⟩ := HCC.out _ _ _ _ _ hbx5; clear hb5))
  all_goals
    have HBX := Aside0.mk (hbx5.setC 2 (.slice A nn c) _ rfl)
    obtain ⟨W6, hW6⟩ : ∃ W6, w5.setCell ⟨X.heap.size + 2, 2, none⟩ (.slice A nn c) = W6 := ⟨_, rfl⟩
    rw [hW6] at HBX ⊢
    have hp6 := HBX.out.p
    have hr6 := HBX.out.r
    have HIN : Aside0 ((Tryd.prog.info? 33).map (·.size) = some 11) := ⟨by kernel_rfl⟩
    clear hW6 hbx5 hc5 hf5 hC hx4 hbx4 hx2 hbx
    go_wp2_with (first | (refine wpList_load_row rfl _ _ rfl _ rfl _ _ _ _ hp6 Tryd.underlying33 rfl HIN.out ?_) | (refine wpList_store_row rfl _ _ _ rfl _ _ rfl rfl _ _ hr6 HIN.out rfl (one11 _ _ _ _ _ _ _ _ _ _ _) ?_))
    have hl := fun j => cell_setRow_same W6 (X.heap.size + 1) j _ #[.int .u64 r0, .int .u64 r1, .int .u64 r2, .int .u64 r3, .int .u64 r4, .int .u64 r5, .int .u64 r6, .int .u64 r7, .int .u64 r8, .int .u64 r9, .int .u64 r10] _ _ hr6
    exact bodyPost_ret (v := .tuple #[.agg #[.int .u64 r0, .int .u64 r1, .int .u64 r2, .int .u64 r3, .int .u64 r4, .int .u64 r5, .int .u64 r6, .int .u64 r7, .int .u64 r8, .int .u64 r9, .int .u64 r10], .int .i64 1]) (by simp [results, Tryd.results11, go_sem, hl]) rfl ⟨rfl, below_setRow HBX.out.below (Nat.le_succ _) _⟩
end Go.Proofs.YtomnfkihieinbaaDoor.PAll
/- helper: Call's walks without a fault at the key. Written by gen_call.py. -/
set_option linter.unusedVariables false
set_option linter.unusedSimpArgs false
namespace Go.Proofs.YtomnfkihieinbaaDoor.PAll
open Go.RowKit Go.Shelf Go.Maps Go.Proofs.YtomnfkihieinbaaDoorW.PrintWords Go.Proofs.YtomnfkihieinbaaDoorW.PrintLast Go.Proofs.YtomnfkihieinbaaDoorW.PrintMore
/-- Bytes in a new block. -/
def RowC (X w : World) (A : Option Addr) (nn c : Nat) (bs : List Int) : Prop := Kd.C (Kd.int .u8) w A nn bs ∧ nn ≤ c ∧ ∀ ad, A = some ad → 0 < nn → X.heap.size + 3 ≤ ad.block
theorem RowC.below {X w w' : World} {A : Option Addr} {nn c : Nat} {bs : List Int} (h : RowC X w A nn c bs) (hb : Below w.heap.size w w') : RowC X w' A nn c bs := ⟨Kd.C_below h.1 hb, h.2⟩
theorem RowC.set {X w : World} {A : Option Addr} {nn c : Nat} {bs : List Int} (h : RowC X w A nn c bs) (j : Nat) (v : Value) : RowC X (w.setCell ⟨X.heap.size + 2, j, none⟩ v) A nn c bs :=
  ⟨C_kept (fr := fun k => k ≠ X.heap.size + 2) h.1 (fun ad e hn => by have := h.2.2 ad e hn; omega) ((set_out w (X.heap.size + 2) j v).mono (fun k _ hk hn => hn hk)), h.2⟩
theorem RowC.new {X w w5 : World} {rs zs cs : Array Value} {A : Option Addr} {nn c : Nat} {bs : List Int} (hb : Boxes X w rs zs cs) (h : Kd.C (Kd.int .u8) w5 A nn bs ∧ nn ≤ c ∧ ∀ ad, A = some ad → 0 < nn → w.heap.size ≤ ad.block) : RowC X w5 A nn c bs :=
  ⟨h.1, h.2.1, fun ad e hn => by have := h.2.2 ad e hn; have := (Array.getElem?_eq_some_iff.1 hb.c).1; omega⟩
theorem RowC.nil (X w : World) : RowC X w none 0 0 [] := ⟨⟨rfl, by decide, fun h => absurd h (by decide)⟩, Nat.le_refl _, fun ad e => by cases e⟩
/-- What the method of call does. -/
def FinC (X : World) (f t : Nat) (i : Int) (key value : List Int) (x : Int) (QP : World → World → Prop) : Prop := ∀ W A1 n1 c1 A2 n2 c2, Below X.heap.size X W → RowC X W A1 n1 c1 key → RowC X W A2 n2 c2 value →
  Calls Tryd.prog f #[.agg #[.pointer (some ⟨t, 0, none⟩), .int .i64 i, .slice A1 n1 c1, .slice A2 n2 c2]] W fun e X' => e = .returned (.int .u64 x) ∧ QP W X' ∧ W.heap.size ≤ X'.heap.size ∧ ∀ k, X.heap.size ≤ k → k < W.heap.size → X'.heap[k]? = W.heap[k]?
/-- Stores into the boxes do no harm. -/
def QPok (X : World) (QP : World → World → Prop) : Prop := ∀ W X' X'', QP W X' → Out (fun k => X.heap.size ≤ k ∧ k < W.heap.size) X' X'' → QP W X''
theorem out_row {w : World} {g : Nat} (cs : Array Value) : Out (fun k => k = g) w (w.setRow g cs) := ⟨rfl, rfl, rfl, by simp, fun k _ hk => setRow_other w g k cs hk⟩
theorem zeroU64' (w : World) : (zeroValue 30).run Tryd.prog w = .ok (.int .u64 0) w := by kernel_rfl
set_option maxHeartbeats 8000000 in
set_option maxRecDepth 100000 in
theorem call_look (X : World) (t m : Nat) (i r0 r1 r2 r3 r4 r5 r6 r7 r8 r9 r10 dk dv de x : Int) (nm : ByteArray) (key value : List Int) (QP : World → World → Prop) (HI : Aside0 (IndexC X t r1 i true)) (HD : Aside0 (DefC X t i nm dk dv de)) (HY : Aside0 (BytesC X m r2 dk true key)) (HOK : Aside0 (QPok X QP)) (HV : Aside0 (FinC X 53 t i key [] x QP)) :
    Calls Tryd.prog 11 #[.pointer (some ⟨t, 0, none⟩), .pointer (some ⟨m, 0, none⟩), .int .i64 1, .agg #[.int .u64 r0, .int .u64 r1, .int .u64 r2, .int .u64 r3, .int .u64 r4, .int .u64 r5, .int .u64 r6, .int .u64 r7, .int .u64 r8, .int .u64 r9, .int .u64 r10]] X fun e X' => e = .returned (.tuple #[.agg #[.int .u64 x, .int .u64 0, .int .u64 0, .int .u64 0, .int .u64 0, .int .u64 0, .int .u64 r6, .int .u64 r7, .int .u64 r8, .int .u64 r9, .int .u64 r10], .int .i64 0]) ∧ ∃ W, Below X.heap.size X W ∧ QP W X' := by
  have hfd1 : ∀ w : World, (Instr.field 28 (.agg #[.string nm, .int .i64 dk, .int .i64 dv, .int .i64 de]) 1).run Tryd.prog w = .ok (.int .i64 dk) w := fun _ => rfl
  have hfd2 : ∀ w : World, (Instr.field 28 (.agg #[.string nm, .int .i64 dk, .int .i64 dv, .int .i64 de]) 2).run Tryd.prog w = .ok (.int .i64 dv) w := fun _ => rfl
  have HB0 := Aside0.mk (boxes_start X #[.int .u64 r0, .int .u64 r1, .int .u64 r2, .int .u64 r3, .int .u64 r4, .int .u64 r5, .int .u64 r6, .int .u64 r7, .int .u64 r8, .int .u64 r9, .int .u64 r10] #[.int .u64 0, .int .u64 0, .int .u64 0, .int .u64 0, .int .u64 0, .int .u64 0, .int .u64 0, .int .u64 0, .int .u64 0, .int .u64 0, .int .u64 0] #[.pointer (some ⟨t, 0, none⟩), .int .i64 i, .slice none 0 0, .slice none 0 0])
  obtain ⟨W0, hW0⟩ : ∃ W0, (((X.alloc (.cells #[.int .u64 r0, .int .u64 r1, .int .u64 r2, .int .u64 r3, .int .u64 r4, .int .u64 r5, .int .u64 r6, .int .u64 r7, .int .u64 r8, .int .u64 r9, .int .u64 r10] 33)).alloc (.cells #[.int .u64 0, .int .u64 0, .int .u64 0, .int .u64 0, .int .u64 0, .int .u64 0, .int .u64 0, .int .u64 0, .int .u64 0, .int .u64 0, .int .u64 0] 33)).alloc (.cells #[.pointer (some ⟨t, 0, none⟩), .int .i64 i, .slice none 0 0, .slice none 0 0] 84)) = W0 := ⟨_, rfl⟩
  have HW0 := Aside0.mk hW0
  rw [hW0] at HB0
  clear hW0
  have HCELL2 : Aside0 (∀ w cs, Boxes X w #[.int .u64 r0, .int .u64 r1, .int .u64 r2, .int .u64 r3, .int .u64 r4, .int .u64 r5, .int .u64 r6, .int .u64 r7, .int .u64 r8, .int .u64 r9, .int .u64 r10] #[.int .u64 0, .int .u64 0, .int .u64 0, .int .u64 0, .int .u64 0, .int .u64 0, .int .u64 0, .int .u64 0, .int .u64 0, .int .u64 0, .int .u64 0] cs → w.cell? ⟨X.heap.size, 2, none⟩ = some (.int .u64 r2)) := ⟨fun w cs h => by simp [World.cell?, h.p]⟩
  have HCELL3 : Aside0 (∀ w cs, Boxes X w #[.int .u64 r0, .int .u64 r1, .int .u64 r2, .int .u64 r3, .int .u64 r4, .int .u64 r5, .int .u64 r6, .int .u64 r7, .int .u64 r8, .int .u64 r9, .int .u64 r10] #[.int .u64 0, .int .u64 0, .int .u64 0, .int .u64 0, .int .u64 0, .int .u64 0, .int .u64 0, .int .u64 0, .int .u64 0, .int .u64 0, .int .u64 0] cs → w.cell? ⟨X.heap.size, 3, none⟩ = some (.int .u64 r3)) := ⟨fun w cs h => by simp [World.cell?, h.p]⟩
  have HCC2 : Aside0 (∀ w c0 c1 c2 c3, Boxes X w #[.int .u64 r0, .int .u64 r1, .int .u64 r2, .int .u64 r3, .int .u64 r4, .int .u64 r5, .int .u64 r6, .int .u64 r7, .int .u64 r8, .int .u64 r9, .int .u64 r10] #[.int .u64 0, .int .u64 0, .int .u64 0, .int .u64 0, .int .u64 0, .int .u64 0, .int .u64 0, .int .u64 0, .int .u64 0, .int .u64 0, .int .u64 0] #[c0, c1, c2, c3] → w.cell? ⟨X.heap.size + 2, 2, none⟩ = some c2 ∧ w.frozen? ⟨X.heap.size + 2, 2, none⟩ = false) := ⟨fun w c0 c1 c2 c3 h => ⟨by simp [World.cell?, h.c], by simp [World.frozen?, h.c]⟩⟩
  have HCC3 : Aside0 (∀ w c0 c1 c2 c3, Boxes X w #[.int .u64 r0, .int .u64 r1, .int .u64 r2, .int .u64 r3, .int .u64 r4, .int .u64 r5, .int .u64 r6, .int .u64 r7, .int .u64 r8, .int .u64 r9, .int .u64 r10] #[.int .u64 0, .int .u64 0, .int .u64 0, .int .u64 0, .int .u64 0, .int .u64 0, .int .u64 0, .int .u64 0, .int .u64 0, .int .u64 0, .int .u64 0] #[c0, c1, c2, c3] → w.cell? ⟨X.heap.size + 2, 3, none⟩ = some c3 ∧ w.frozen? ⟨X.heap.size + 2, 3, none⟩ = false) := ⟨fun w c0 c1 c2 c3 h => ⟨by simp [World.cell?, h.c], by simp [World.frozen?, h.c]⟩⟩
  have HCCA : Aside0 (∀ w c0 c1 c2 c3, Boxes X w #[.int .u64 r0, .int .u64 r1, .int .u64 r2, .int .u64 r3, .int .u64 r4, .int .u64 r5, .int .u64 r6, .int .u64 r7, .int .u64 r8, .int .u64 r9, .int .u64 r10] #[.int .u64 0, .int .u64 0, .int .u64 0, .int .u64 0, .int .u64 0, .int .u64 0, .int .u64 0, .int .u64 0, .int .u64 0, .int .u64 0, .int .u64 0] #[c0, c1, c2, c3] → w.cell? ⟨X.heap.size + 2, 0, none⟩ = some c0 ∧ w.cell? ⟨X.heap.size + 2, 1, none⟩ = some c1 ∧ w.cell? ⟨X.heap.size + 2, 2, none⟩ = some c2 ∧ w.cell? ⟨X.heap.size + 2, 3, none⟩ = some c3) := ⟨fun w c0 c1 c2 c3 h => ⟨by simp [World.cell?, h.c], by simp [World.cell?, h.c], by simp [World.cell?, h.c], by simp [World.cell?, h.c]⟩⟩
  have hix : ∀ w : World, (Instr.index 87 (.agg #[.func (.func 53) #[] #[], .func (.func 54) #[] #[], .func (.func 55) #[] #[]]) (.int .i64 (IntKind.i64.wrap 0))).run Tryd.prog w = .ok (.func (.func 53) #[] #[]) w := fun _ => by kernel_rfl
  have HIN : Aside0 ((Tryd.prog.info? 33).map (·.size) = some 11) := ⟨by kernel_rfl⟩
  go_enter Tryd.func11, Tryd.ntmps11
  go_wp2_with fail
  refine (HI.out _ (below_alloc (below_alloc (Below.refl _ _) _) _)).mono ?_
  rintro e X' ⟨rfl, rfl⟩
  go_wp2_with fail
  rw [HW0.out]
  have hcur : Below W0.heap.size W0 W0.drew := below_drew (Below.refl _ _)
  have hbx := HB0.out.next hcur
  have hx2 := HCELL2.out _ _ hbx
  go_region_with (first | (go_at_call 32; refine (HD.out _ (Boxes.below (by assumption))).mono ?_; rintro e w4 ⟨rfl, hb4⟩; have hbx4 := Boxes.next (by assumption) hb4; have hx4 := HCELL2.out _ _ hbx4; have hcur4 := below_then (by assumption) (Below.size (by assumption)) hb4; clear hb4) | (go_at_call 22; refine (HY.out _ (Boxes.below (by assumption))).mono ?_; rintro e w5 ⟨⟨A, nn, c, rfl, hC⟩, hb5⟩; have HROW := Aside0.mk (RowC.new (by assumption) hC.out); have hbx5 := Boxes.next (by assumption) hb5; have hcur5 := below_then (by assumption) (Below.size (by assumption)) hb5; obtain ⟨hc5, hf5⟩ := HCC2.out _ _ _ _ _ hbx5; clear hb5 hC))
  all_goals
    have HBX6 := Aside0.mk (hbx5.setC 2 (.slice A nn c) _ rfl)
    have HRC6 := Aside0.mk (HROW.out.set 2 (.slice A nn c))
    obtain ⟨W6, hW6⟩ : ∃ W6, w5.setCell ⟨X.heap.size + 2, 2, none⟩ (.slice A nn c) = W6 := ⟨_, rfl⟩
    rw [hW6] at HBX6 HRC6 ⊢
    clear hW6 hbx5 hc5 hf5 hx4 hbx4 hx2 hbx hcur hcur4 hcur5 HROW
    have hbx6 := HBX6.out.next (below_drew (Below.refl _ _))
    have hcur6 : Below W6.heap.size W6 W6.drew := below_drew (Below.refl _ _)
    obtain ⟨y0, y1, y2, y3⟩ := HCCA.out _ _ _ _ _ hbx6
    go_wp2_with fail
    go_region_with (first | (go_at_call 33; refine (helpers_c _).mono ?_; rintro e w8 ⟨rfl, hb8⟩; have hbx8 := Boxes.next hbx6 hb8; have hcur8 := below_then hcur6 hcur6.size hb8; obtain ⟨z0, z1, z2, z3⟩ := HCCA.out _ _ _ _ _ hbx8; unfold hV; clear hb8) | (go_at_call 53; refine (HV.out _ _ _ _ _ _ _ (Boxes.below hbx8) (HRC6.out.below hcur8) ((RowC.nil X _).below (Below.refl _ _))).mono ?_; rintro e w9 ⟨rfl, hQ, hs9, hk9⟩; have HB9 := Aside0.mk hbx8.below; have hp9 := (hk9 _ (Nat.le_refl _) (Array.getElem?_eq_some_iff.1 hbx8.p).1).trans hbx8.p; have hr9 := (hk9 _ (Nat.le_succ _) (Array.getElem?_eq_some_iff.1 hbx8.r).1).trans hbx8.r; have HL9 := Aside0.mk (Array.getElem?_eq_some_iff.1 hbx8.r).1; have HQ := Aside0.mk hQ; have hq0 : w9.cell? ⟨X.heap.size, 0, none⟩ = some (.int .u64 r0) := (by simp [World.cell?, hp9]); have hf0 : w9.frozen? ⟨X.heap.size, 0, none⟩ = false := (by simp [World.frozen?, hp9]); clear hQ hs9 hk9))
    all_goals
      have HP9 := Aside0.mk (blk_put hp9 0 (.int .u64 x) rfl)
      have HR9 : Aside0 ((w9.setCell ⟨X.heap.size, 0, none⟩ (.int .u64 x)).heap[X.heap.size + 1]? = some (.cells #[.int .u64 0, .int .u64 0, .int .u64 0, .int .u64 0, .int .u64 0, .int .u64 0, .int .u64 0, .int .u64 0, .int .u64 0, .int .u64 0, .int .u64 0] 33 (0, 0))) := ⟨(Below.heap_setCell w9 ⟨X.heap.size, 0, none⟩ _ _ (Nat.succ_ne_self _)).trans hr9⟩
      have HQ9 := HOK.out _ _ _ HQ.out ((set_out w9 X.heap.size 0 (.int .u64 x)).mono (fun k _ hk => by rw [hk]; exact ⟨Nat.le_refl _, Nat.lt_of_succ_lt HL9.out⟩))
      have HQ9 := Aside0.mk HQ9
      obtain ⟨W10, hW10⟩ : ∃ W10, w9.setCell ⟨X.heap.size, 0, none⟩ (.int .u64 x) = W10 := ⟨_, rfl⟩
      rw [hW10] at HP9 HR9 HQ9 ⊢
      have hcl : ∀ ty, (Builtin.clear_ #[75] ty #[.slice (some ⟨X.heap.size, 1, none⟩) 5 10]).run Tryd.prog W10 = .ok (.tuple #[]) (W10.setCells X.heap.size 1 [.int .u64 0, .int .u64 0, .int .u64 0, .int .u64 0, .int .u64 0]) := fun ty => Lib.run_clear_slice W10 75 30 ty (.int .u64 0) Tryd.underlying75 zeroU64' rfl rfl X.heap.size 1 5 10 (by decide) (fun j hj => by
          have h := HP9.out
          simp [World.cell?, h]; omega) (fun j hj => by
          have h := HP9.out
          simp [World.frozen?, h])
      have HP11 : Aside0 ((W10.setCells X.heap.size 1 [.int .u64 0, .int .u64 0, .int .u64 0, .int .u64 0, .int .u64 0]).heap[X.heap.size]? = some (.cells #[.int .u64 x, .int .u64 0, .int .u64 0, .int .u64 0, .int .u64 0, .int .u64 0, .int .u64 r6, .int .u64 r7, .int .u64 r8, .int .u64 r9, .int .u64 r10] 33 (0, 0))) := ⟨by
        simp only [World.setCells]
        exact blk_put (blk_put (blk_put (blk_put (blk_put HP9.out 1 (.int .u64 0) rfl) 2 (.int .u64 0) rfl) 3 (.int .u64 0) rfl) 4 (.int .u64 0) rfl) 5 (.int .u64 0) rfl⟩
      have HS11 : ∀ k, k ≠ X.heap.size → (W10.setCells X.heap.size 1 [.int .u64 0, .int .u64 0, .int .u64 0, .int .u64 0, .int .u64 0]).heap[k]? = W10.heap[k]? := fun k hk => by
        simp only [World.setCells]
        rw [Below.heap_setCell _ ⟨X.heap.size, _, none⟩ _ k hk, Below.heap_setCell _ ⟨X.heap.size, _, none⟩ _ k hk, Below.heap_setCell _ ⟨X.heap.size, _, none⟩ _ k hk, Below.heap_setCell _ ⟨X.heap.size, _, none⟩ _ k hk, Below.heap_setCell _ ⟨X.heap.size, _, none⟩ _ k hk]
      have HR11 : Aside0 ((W10.setCells X.heap.size 1 [.int .u64 0, .int .u64 0, .int .u64 0, .int .u64 0, .int .u64 0]).heap[X.heap.size + 1]? = some (.cells #[.int .u64 0, .int .u64 0, .int .u64 0, .int .u64 0, .int .u64 0, .int .u64 0, .int .u64 0, .int .u64 0, .int .u64 0, .int .u64 0, .int .u64 0] 33 (0, 0))) := ⟨(HS11 _ (Nat.succ_ne_self _)).trans HR9.out⟩
      have HQ11 : Aside0 (Out (fun k => k = X.heap.size) W10 (W10.setCells X.heap.size 1 [.int .u64 0, .int .u64 0, .int .u64 0, .int .u64 0, .int .u64 0])) := ⟨by
        simp only [World.setCells]
        exact ((((set_out _ _ _ _).trans (set_out _ _ _ _) (fun _ _ h => h)).trans (set_out _ _ _ _) (fun _ _ h => h)).trans (set_out _ _ _ _) (fun _ _ h => h)).trans (set_out _ _ _ _) (fun _ _ h => h)⟩
      clear hW10 hp9 hr9 hq0 hf0 HS11 y0 y1 y2 y3 z0 z1 z2 z3 hbx6 hbx8 hcur6 hcur8
      go_upto_region 14 with (simp only [hcl])
      obtain ⟨W11, hW11⟩ : ∃ W11, W10.setCells X.heap.size 1 [.int .u64 0, .int .u64 0, .int .u64 0, .int .u64 0, .int .u64 0] = W11 := ⟨_, rfl⟩
      rw [hW11] at HP11 HR11 HQ11 ⊢
      have hp11 := HP11.out
      have hr11 := HR11.out
      clear hW11 hcl
      go_wp2_with (first | (refine wpList_load_row rfl _ _ rfl _ rfl _ _ _ _ hp11 Tryd.underlying33 rfl HIN.out ?_) | (refine wpList_store_row rfl _ _ _ rfl _ _ rfl rfl _ _ hr11 HIN.out rfl (one11 _ _ _ _ _ _ _ _ _ _ _) ?_))
      have hl := fun j => cell_setRow_same W11 (X.heap.size + 1) j _ #[.int .u64 x, .int .u64 0, .int .u64 0, .int .u64 0, .int .u64 0, .int .u64 0, .int .u64 r6, .int .u64 r7, .int .u64 r8, .int .u64 r9, .int .u64 r10] _ _ hr11
      have HFIN : Aside0 (∃ W, Below X.heap.size X W ∧ QP W (W11.setRow (X.heap.size + 1) #[.int .u64 x, .int .u64 0, .int .u64 0, .int .u64 0, .int .u64 0, .int .u64 0, .int .u64 r6, .int .u64 r7, .int .u64 r8, .int .u64 r9, .int .u64 r10])) := ⟨_, HB9.out, HOK.out _ _ _ HQ9.out ((HQ11.out.mono (fun k _ hk => by rw [hk]; exact ⟨Nat.le_refl _, Nat.lt_of_succ_lt HL9.out⟩)).trans ((out_row #[.int .u64 x, .int .u64 0, .int .u64 0, .int .u64 0, .int .u64 0, .int .u64 0, .int .u64 r6, .int .u64 r7, .int .u64 r8, .int .u64 r9, .int .u64 r10]).mono (fun k _ hk => by rw [hk]; exact ⟨Nat.le_succ _, HL9.out⟩)) (fun _ _ h => h))⟩
      exact bodyPost_ret (v := .tuple #[.agg #[.int .u64 x, .int .u64 0, .int .u64 0, .int .u64 0, .int .u64 0, .int .u64 0, .int .u64 r6, .int .u64 r7, .int .u64 r8, .int .u64 r9, .int .u64 r10], .int .i64 0]) (by simp [results, Tryd.results11, go_sem, hl]) rfl ⟨rfl, HFIN.out⟩
end Go.Proofs.YtomnfkihieinbaaDoor.PAll
