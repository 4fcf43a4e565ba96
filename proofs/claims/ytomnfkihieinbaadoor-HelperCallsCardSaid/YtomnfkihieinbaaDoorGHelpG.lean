/- The texts HelpR1, HelpR2, HelpR3, HelpR4, HelpR5, HelpR6 of this claim, joined. -/
import Derived.Test.YtomnfkihieinbaaDoorGHelpA
import Derived.Test.YtomnfkihieinbaaDoorGRMapD
import Derived.Deep.WholeRow
import Derived.Test.YtomnfkihieinbaaDoorGHelpB
/- helper: the reference's Call, its walks. Written by gen_rcall.py. -/
set_option linter.unusedVariables false
set_option linter.unusedSimpArgs false
namespace Go.Proofs.YtomnfkihieinbaaDoor.PAll
open Go.RowKit Go.Shelf Go.Maps Go.Proofs.YtomnfkihieinbaaDoorW.PrintWords Go.Proofs.YtomnfkihieinbaaDoorW.PrintLast Go.Proofs.YtomnfkihieinbaaDoorW.PrintMore
def RIndexC (X : World) (b : Nat) (h i : Int) (ok : Bool) : Prop := ∀ W, Below X.heap.size X W → Calls Tryd.prog 39 #[.pointer (some ⟨b, 0, none⟩), .int .u64 h] W fun e X' => e = .returned (.tuple #[.int .i64 i, .bool ok]) ∧ Below W.heap.size W X'
def RBytesC (X : World) (mb : Nat) (a n : Int) (ok : Bool) (bs : List Int) : Prop := ∀ W, Below X.heap.size X W → Calls Tryd.prog 40 #[.pointer (some ⟨mb, 0, none⟩), .int .u64 a, .int .i64 n] W fun e X' => (∃ A nn c, e = .returned (.tuple #[.slice A nn c, .bool ok]) ∧ Aside0 (Kd.C (Kd.int .u8) X' A nn bs ∧ nn ≤ c ∧ ∀ ad, A = some ad → 0 < nn → W.heap.size ≤ ad.block)) ∧ Aside0 (Below W.heap.size W X')
/-- What the reference's maps hold at one of them. -/
def RCellC (X : World) (b mb g c sl n : Nat) (dk dv : Int) : Prop := ∀ w, Below X.heap.size X w → (w.cell? ⟨b, 0, none⟩ = some (.pointer (some ⟨mb, 0, none⟩)) ∧ w.cell? ⟨b, 1, none⟩ = some (.slice (some ⟨g, 0, none⟩) sl c)) ∧ w.cell? ⟨g, n * 6 + 1, none⟩ = some (.int .i64 dk) ∧ w.cell? ⟨g, n * 6 + 2, none⟩ = some (.int .i64 dv)
/-- What the boxes hold: the registers, the result. -/
structure RBoxes (X W : World) (rs zs : Array Value) : Prop where
  below : Below X.heap.size X W
  p : W.heap[X.heap.size]? = some (.cells rs 32 (0, 0))
  r : W.heap[X.heap.size + 1]? = some (.cells zs 32 (0, 0))
theorem RBoxes.next {X W W' : World} {rs zs : Array Value} (h : RBoxes X W rs zs) (hb : Below W.heap.size W W') : RBoxes X W' rs zs := by
  have hl : ∀ {k : Nat} {o : Obj}, W.heap[k]? = some o → k < W.heap.size := fun hh => (Array.getElem?_eq_some_iff.1 hh).1
  exact ⟨h.below.trans (hb.mono h.below.size), (hb.block _ (hl h.p)).trans h.p, (hb.block _ (hl h.r)).trans h.r⟩
theorem rboxes_start (X : World) (rs zs : Array Value) : RBoxes X ((X.alloc (.cells rs 32)).alloc (.cells zs 32)) rs zs := by
  have b1 : Below X.heap.size X (X.alloc (.cells rs 32)) := below_alloc (Below.refl _ _) _
  refine ⟨below_alloc b1 _, ?_, ?_⟩
  · rw [(below_alloc (Below.refl _ (X.alloc (.cells rs 32))) _).block _ (by simp)]
    exact heap_alloc_new X _
  · have := heap_alloc_new (X.alloc (.cells rs 32)) (.cells zs 32)
    simpa using this
/-- The registers 1 to n cleared. -/
def zrow (rs : Array Value) : Nat → Array Value
  | 0 => rs
  | n + 1 => (zrow rs n).setIfInBounds (n + 1) (.int .u64 0)
/-- What the last call does. -/
def RFinC (X : World) (f b : Nat) (i : Int) (key : List Int) (v : Value) (QP : World → World → Prop) : Prop := ∀ W A1 n1 c1, Below X.heap.size X W → Kd.C (Kd.int .u8) W A1 n1 key → n1 ≤ c1 → (∀ ad, A1 = some ad → 0 < n1 → X.heap.size ≤ ad.block ∧ ad.block < W.heap.size) →
  Calls Tryd.prog f #[.pointer (some ⟨b, 0, none⟩), .int .i64 i, .slice A1 n1 c1] W fun e X' => e = .returned v ∧ QP W X' ∧ W.heap.size ≤ X'.heap.size ∧ ∀ k, X.heap.size ≤ k → k < W.heap.size → X'.heap[k]? = W.heap[k]?
def RFinC2 (X : World) (f b : Nat) (i : Int) (key value : List Int) (v : Value) (QP : World → World → Prop) : Prop := ∀ W A1 n1 c1 A2 n2 c2, Below X.heap.size X W → Kd.C (Kd.int .u8) W A1 n1 key → n1 ≤ c1 → (∀ ad, A1 = some ad → 0 < n1 → X.heap.size ≤ ad.block ∧ ad.block < W.heap.size) → Kd.C (Kd.int .u8) W A2 n2 value → n2 ≤ c2 → (∀ ad, A2 = some ad → 0 < n2 → X.heap.size ≤ ad.block ∧ ad.block < W.heap.size) →
  Calls Tryd.prog f #[.pointer (some ⟨b, 0, none⟩), .int .i64 i, .slice A1 n1 c1, .slice A2 n2 c2] W fun e X' => e = .returned v ∧ QP W X' ∧ W.heap.size ≤ X'.heap.size ∧ ∀ k, X.heap.size ≤ k → k < W.heap.size → X'.heap[k]? = W.heap[k]?
theorem C_lt {W : World} {A : Option Addr} {n : Nat} {bs : List Int} (h : Kd.C (Kd.int .u8) W A n bs) : ∀ ad, A = some ad → 0 < n → ad.block < W.heap.size := fun ad e hn => by
  have hr := Kd.reads_of_C (enc := Value.int .u8) (d := (0 : Int)) (h1 := fun _ => rfl) h
  obtain ⟨ad', e', hc⟩ := hr.2.2 (by omega)
  rw [e] at e'
  cases e'
  have hb : (ad.add 0).block = ad.block := by simp only [Addr.add]; split <;> rfl
  rw [← hb]
  exact World.block_lt_of_cell? W _ (hc 0 (by omega))
set_option maxHeartbeats 8000000 in
set_option maxRecDepth 100000 in
theorem rcall_bad (X : World) (b mb g c sl n : Nat) (r0 r1 r2 r3 r4 r5 r6 r7 r8 r9 r10 dk dv i which : Int) (HI : Aside0 (RIndexC X b r1 i false)) :
    Calls Tryd.prog 19 #[.pointer (some ⟨b, 0, none⟩), .int .i64 which, .agg #[.int .u64 r0, .int .u64 r1, .int .u64 r2, .int .u64 r3, .int .u64 r4, .int .u64 r5, .int .u64 r6, .int .u64 r7, .int .u64 r8, .int .u64 r9, .int .u64 r10]] X fun e X' => e = .returned (.tuple #[.agg #[.int .u64 r0, .int .u64 r1, .int .u64 r2, .int .u64 r3, .int .u64 r4, .int .u64 r5, .int .u64 r6, .int .u64 r7, .int .u64 r8, .int .u64 r9, .int .u64 r10], .int .i64 2]) ∧ Below X.heap.size X X' := by
  have HB0 := Aside0.mk (rboxes_start X #[.int .u64 r0, .int .u64 r1, .int .u64 r2, .int .u64 r3, .int .u64 r4, .int .u64 r5, .int .u64 r6, .int .u64 r7, .int .u64 r8, .int .u64 r9, .int .u64 r10] #[.int .u64 0, .int .u64 0, .int .u64 0, .int .u64 0, .int .u64 0, .int .u64 0, .int .u64 0, .int .u64 0, .int .u64 0, .int .u64 0, .int .u64 0])
  obtain ⟨W0, hW0⟩ : ∃ W0, ((X.alloc (.cells #[.int .u64 r0, .int .u64 r1, .int .u64 r2, .int .u64 r3, .int .u64 r4, .int .u64 r5, .int .u64 r6, .int .u64 r7, .int .u64 r8, .int .u64 r9, .int .u64 r10] 32)).alloc (.cells #[.int .u64 0, .int .u64 0, .int .u64 0, .int .u64 0, .int .u64 0, .int .u64 0, .int .u64 0, .int .u64 0, .int .u64 0, .int .u64 0, .int .u64 0] 32)) = W0 := ⟨_, rfl⟩
  have HW0 := Aside0.mk hW0
  rw [hW0] at HB0
  clear hW0
  have HIN : Aside0 ((Tryd.prog.info? 32).map (·.size) = some 11) := ⟨by kernel_rfl⟩
  go_enter Tryd.func19, Tryd.ntmps19
  go_wp2_with fail
  refine (HI.out _ (below_alloc (below_alloc (Below.refl _ _) _) _)).mono ?_
  rintro e w1 ⟨rfl, hb1⟩
  rw [HW0.out] at hb1
  have HBX1 := Aside0.mk (HB0.out.next hb1)
  clear hb1
  have hp9 := HBX1.out.p
  have hr9 := HBX1.out.r
  go_wp2_with (first | (refine wpList_load_row rfl _ _ rfl _ rfl _ _ _ _ hp9 Tryd.underlying32 rfl HIN.out ?_) | (refine wpList_store_row rfl _ _ _ rfl _ _ rfl rfl _ _ hr9 HIN.out rfl (one11 _ _ _ _ _ _ _ _ _ _ _) ?_))
  have hl := fun j => cell_setRow_same w1 (X.heap.size + 1) j _ #[.int .u64 r0, .int .u64 r1, .int .u64 r2, .int .u64 r3, .int .u64 r4, .int .u64 r5, .int .u64 r6, .int .u64 r7, .int .u64 r8, .int .u64 r9, .int .u64 r10] _ _ hr9
  exact bodyPost_ret (v := .tuple #[.agg #[.int .u64 r0, .int .u64 r1, .int .u64 r2, .int .u64 r3, .int .u64 r4, .int .u64 r5, .int .u64 r6, .int .u64 r7, .int .u64 r8, .int .u64 r9, .int .u64 r10], .int .i64 2]) (by simp [results, Tryd.results19, go_sem, hl]) rfl ⟨rfl, below_setRow HBX1.out.below (Nat.le_succ _) _⟩
set_option maxHeartbeats 8000000 in
set_option maxRecDepth 100000 in
theorem rcall_nokey (X : World) (b mb g c sl n : Nat) (r0 r1 r2 r3 r4 r5 r6 r7 r8 r9 r10 dk dv which : Int) (HI : Aside0 (RIndexC X b r1 n true)) (HRC : Aside0 (RCellC X b mb g c sl n dk dv)) (hn0 : (0 : Int) ≤ (n : Int)) (hn1 : (n : Int) < (sl : Int)) (bs : List Int) (HY : Aside0 (RBytesC X mb r2 dk false bs)) :
    Calls Tryd.prog 19 #[.pointer (some ⟨b, 0, none⟩), .int .i64 which, .agg #[.int .u64 r0, .int .u64 r1, .int .u64 r2, .int .u64 r3, .int .u64 r4, .int .u64 r5, .int .u64 r6, .int .u64 r7, .int .u64 r8, .int .u64 r9, .int .u64 r10]] X fun e X' => e = .returned (.tuple #[.agg #[.int .u64 r0, .int .u64 r1, .int .u64 r2, .int .u64 r3, .int .u64 r4, .int .u64 r5, .int .u64 r6, .int .u64 r7, .int .u64 r8, .int .u64 r9, .int .u64 r10], .int .i64 1]) ∧ Below X.heap.size X X' := by
  have hlt : decide ((n : Int) < (sl : Int)) = true := decide_eq_true hn1
  have HB0 := Aside0.mk (rboxes_start X #[.int .u64 r0, .int .u64 r1, .int .u64 r2, .int .u64 r3, .int .u64 r4, .int .u64 r5, .int .u64 r6, .int .u64 r7, .int .u64 r8, .int .u64 r9, .int .u64 r10] #[.int .u64 0, .int .u64 0, .int .u64 0, .int .u64 0, .int .u64 0, .int .u64 0, .int .u64 0, .int .u64 0, .int .u64 0, .int .u64 0, .int .u64 0])
  obtain ⟨W0, hW0⟩ : ∃ W0, ((X.alloc (.cells #[.int .u64 r0, .int .u64 r1, .int .u64 r2, .int .u64 r3, .int .u64 r4, .int .u64 r5, .int .u64 r6, .int .u64 r7, .int .u64 r8, .int .u64 r9, .int .u64 r10] 32)).alloc (.cells #[.int .u64 0, .int .u64 0, .int .u64 0, .int .u64 0, .int .u64 0, .int .u64 0, .int .u64 0, .int .u64 0, .int .u64 0, .int .u64 0, .int .u64 0] 32)) = W0 := ⟨_, rfl⟩
  have HW0 := Aside0.mk hW0
  rw [hW0] at HB0
  clear hW0
  have HIN : Aside0 ((Tryd.prog.info? 32).map (·.size) = some 11) := ⟨by kernel_rfl⟩
  go_enter Tryd.func19, Tryd.ntmps19
  go_wp2_with fail
  refine (HI.out _ (below_alloc (below_alloc (Below.refl _ _) _) _)).mono ?_
  rintro e w1 ⟨rfl, hb1⟩
  rw [HW0.out] at hb1
  have HBX1 := Aside0.mk (HB0.out.next hb1)
  clear hb1
  have HS5 : Aside0 (∀ Z, Below w1.heap.size w1 Z → ((fun w => ((w.cell? ⟨b, 0, none⟩ = some (.pointer (some ⟨mb, 0, none⟩)) ∧ w.cell? ⟨b, 1, none⟩ = some (.slice (some ⟨g, 0, none⟩) sl c)) ∧ w.cell? ⟨g, n * 6 + 1, none⟩ = some (.int .i64 dk) ∧ w.cell? ⟨g, n * 6 + 2, none⟩ = some (.int .i64 dv)) ∧ w.cell? ⟨X.heap.size, 2, none⟩ = some (.int .u64 r2))) Z) := ⟨fun Z hZ => by
    have hb := HBX1.out.next hZ
    exact ⟨HRC.out Z hb.below, by simp [World.cell?, hb.p]⟩⟩
  have HY5 : Aside0 (∀ Z, Below w1.heap.size w1 Z → Calls Tryd.prog 40 #[.pointer (some ⟨mb, 0, none⟩), .int .u64 r2, .int .i64 dk] Z fun e Z' => (∃ A nn c, e = .returned (.tuple #[.slice A nn c, .bool false]) ∧ Aside0 (Kd.C (Kd.int .u8) Z' A nn bs ∧ nn ≤ c ∧ ∀ ad, A = some ad → 0 < nn → Z.heap.size ≤ ad.block)) ∧ ((fun w => ((w.cell? ⟨b, 0, none⟩ = some (.pointer (some ⟨mb, 0, none⟩)) ∧ w.cell? ⟨b, 1, none⟩ = some (.slice (some ⟨g, 0, none⟩) sl c)) ∧ w.cell? ⟨g, n * 6 + 1, none⟩ = some (.int .i64 dk) ∧ w.cell? ⟨g, n * 6 + 2, none⟩ = some (.int .i64 dv)) ∧ w.cell? ⟨X.heap.size, 2, none⟩ = some (.int .u64 r2))) Z' ∧ Aside0 (Below Z.heap.size Z Z' ∧ w1.heap.size ≤ Z.heap.size)) := ⟨fun Z hZ => (HY.out Z (HBX1.out.next hZ).below).mono fun e Z' ⟨h1, h2⟩ => ⟨h1, HS5.out Z' (hZ.trans (h2.out.mono hZ.size)), ⟨h2.out, hZ.size⟩⟩⟩
  go_upto_region 4 with (fail)
  obtain ⟨⟨⟨q0, q1⟩, q2, q3⟩, q4⟩ := HS5.out _ (below_drew (Below.refl _ _))
  go_region_held3 (fun w => ((w.cell? ⟨b, 0, none⟩ = some (.pointer (some ⟨mb, 0, none⟩)) ∧ w.cell? ⟨b, 1, none⟩ = some (.slice (some ⟨g, 0, none⟩) sl c)) ∧ w.cell? ⟨g, n * 6 + 1, none⟩ = some (.int .i64 dk) ∧ w.cell? ⟨g, n * 6 + 2, none⟩ = some (.int .i64 dv)) ∧ w.cell? ⟨X.heap.size, 2, none⟩ = some (.int .u64 r2)) (first | assumption | exact HS5.out _ (by repeat (first | exact Below.refl _ _ | apply below_drew | apply pw_below_drewN))) (first | (go_at_call 40; refine (HY5.out _ (by repeat (first | exact Below.refl _ _ | apply below_drew | apply pw_below_drewN))).mono ?_; rintro e5 w5 ⟨⟨A5, n5, c5, rfl, HR5⟩, hct5, HB5⟩))
  all_goals
    have HBX5 := Aside0.mk (HBX1.out.next ((by repeat (first | exact Below.refl _ _ | apply below_drew | apply pw_below_drewN) : Below w1.heap.size w1 _).trans (HB5.out.1.mono HB5.out.2)))
    have hp9 := HBX5.out.p
    have hr9 := HBX5.out.r
    go_wp2_with (first | (refine wpList_load_row rfl _ _ rfl _ rfl _ _ _ _ hp9 Tryd.underlying32 rfl HIN.out ?_) | (refine wpList_store_row rfl _ _ _ rfl _ _ rfl rfl _ _ hr9 HIN.out rfl (one11 _ _ _ _ _ _ _ _ _ _ _) ?_))
    have hl := fun j => cell_setRow_same w5 (X.heap.size + 1) j _ #[.int .u64 r0, .int .u64 r1, .int .u64 r2, .int .u64 r3, .int .u64 r4, .int .u64 r5, .int .u64 r6, .int .u64 r7, .int .u64 r8, .int .u64 r9, .int .u64 r10] _ _ hr9
    exact bodyPost_ret (v := .tuple #[.agg #[.int .u64 r0, .int .u64 r1, .int .u64 r2, .int .u64 r3, .int .u64 r4, .int .u64 r5, .int .u64 r6, .int .u64 r7, .int .u64 r8, .int .u64 r9, .int .u64 r10], .int .i64 1]) (by simp [results, Tryd.results19, go_sem, hl]) rfl ⟨rfl, below_setRow HBX5.out.below (Nat.le_succ _) _⟩
end Go.Proofs.YtomnfkihieinbaaDoor.PAll
/- helper: the reference's Call, its walks. Written by gen_rcall.py. -/
set_option linter.unusedVariables false
set_option linter.unusedSimpArgs false
namespace Go.Proofs.YtomnfkihieinbaaDoor.PAll
open Go.RowKit Go.Shelf Go.Maps Go.Proofs.YtomnfkihieinbaaDoorW.PrintWords Go.Proofs.YtomnfkihieinbaaDoorW.PrintLast Go.Proofs.YtomnfkihieinbaaDoorW.PrintMore
set_option maxHeartbeats 8000000 in
set_option maxRecDepth 100000 in
theorem rcall_look (X : World) (b mb g c sl n : Nat) (r0 r1 r2 r3 r4 r5 r6 r7 r8 r9 r10 dk dv x : Int) (HI : Aside0 (RIndexC X b r1 n true)) (HRC : Aside0 (RCellC X b mb g c sl n dk dv)) (hn0 : (0 : Int) ≤ (n : Int)) (hn1 : (n : Int) < (sl : Int)) (key : List Int) (QP : World → World → Prop) (HY : Aside0 (RBytesC X mb r2 dk true key)) (HOK : Aside0 (QPok X QP)) (HV : Aside0 (RFinC X 41 b n key (.int .u64 x) QP)) :
    Calls Tryd.prog 19 #[.pointer (some ⟨b, 0, none⟩), .int .i64 1, .agg #[.int .u64 r0, .int .u64 r1, .int .u64 r2, .int .u64 r3, .int .u64 r4, .int .u64 r5, .int .u64 r6, .int .u64 r7, .int .u64 r8, .int .u64 r9, .int .u64 r10]] X fun e X' => e = .returned (.tuple #[.agg #[.int .u64 x, .int .u64 0, .int .u64 0, .int .u64 0, .int .u64 0, .int .u64 0, .int .u64 r6, .int .u64 r7, .int .u64 r8, .int .u64 r9, .int .u64 r10], .int .i64 0]) ∧ ∃ W, Below X.heap.size X W ∧ QP W X' := by
  have hlt : decide ((n : Int) < (sl : Int)) = true := decide_eq_true hn1
  have HB0 := Aside0.mk (rboxes_start X #[.int .u64 r0, .int .u64 r1, .int .u64 r2, .int .u64 r3, .int .u64 r4, .int .u64 r5, .int .u64 r6, .int .u64 r7, .int .u64 r8, .int .u64 r9, .int .u64 r10] #[.int .u64 0, .int .u64 0, .int .u64 0, .int .u64 0, .int .u64 0, .int .u64 0, .int .u64 0, .int .u64 0, .int .u64 0, .int .u64 0, .int .u64 0])
  obtain ⟨W0, hW0⟩ : ∃ W0, ((X.alloc (.cells #[.int .u64 r0, .int .u64 r1, .int .u64 r2, .int .u64 r3, .int .u64 r4, .int .u64 r5, .int .u64 r6, .int .u64 r7, .int .u64 r8, .int .u64 r9, .int .u64 r10] 32)).alloc (.cells #[.int .u64 0, .int .u64 0, .int .u64 0, .int .u64 0, .int .u64 0, .int .u64 0, .int .u64 0, .int .u64 0, .int .u64 0, .int .u64 0, .int .u64 0] 32)) = W0 := ⟨_, rfl⟩
  have HW0 := Aside0.mk hW0
  rw [hW0] at HB0
  clear hW0
  have HIN : Aside0 ((Tryd.prog.info? 32).map (·.size) = some 11) := ⟨by kernel_rfl⟩
  go_enter Tryd.func19, Tryd.ntmps19
  go_wp2_with fail
  refine (HI.out _ (below_alloc (below_alloc (Below.refl _ _) _) _)).mono ?_
  rintro e w1 ⟨rfl, hb1⟩
  rw [HW0.out] at hb1
  have HBX1 := Aside0.mk (HB0.out.next hb1)
  clear hb1
  have HS5 : Aside0 (∀ Z, Below w1.heap.size w1 Z → ((fun w => ((w.cell? ⟨b, 0, none⟩ = some (.pointer (some ⟨mb, 0, none⟩)) ∧ w.cell? ⟨b, 1, none⟩ = some (.slice (some ⟨g, 0, none⟩) sl c)) ∧ w.cell? ⟨g, n * 6 + 1, none⟩ = some (.int .i64 dk) ∧ w.cell? ⟨g, n * 6 + 2, none⟩ = some (.int .i64 dv)) ∧ w.cell? ⟨X.heap.size, 2, none⟩ = some (.int .u64 r2))) Z) := ⟨fun Z hZ => by
    have hb := HBX1.out.next hZ
    exact ⟨HRC.out Z hb.below, by simp [World.cell?, hb.p]⟩⟩
  have HY5 : Aside0 (∀ Z, Below w1.heap.size w1 Z → Calls Tryd.prog 40 #[.pointer (some ⟨mb, 0, none⟩), .int .u64 r2, .int .i64 dk] Z fun e Z' => (∃ A nn c, e = .returned (.tuple #[.slice A nn c, .bool true]) ∧ Aside0 (Kd.C (Kd.int .u8) Z' A nn key ∧ nn ≤ c ∧ ∀ ad, A = some ad → 0 < nn → Z.heap.size ≤ ad.block)) ∧ ((fun w => ((w.cell? ⟨b, 0, none⟩ = some (.pointer (some ⟨mb, 0, none⟩)) ∧ w.cell? ⟨b, 1, none⟩ = some (.slice (some ⟨g, 0, none⟩) sl c)) ∧ w.cell? ⟨g, n * 6 + 1, none⟩ = some (.int .i64 dk) ∧ w.cell? ⟨g, n * 6 + 2, none⟩ = some (.int .i64 dv)) ∧ w.cell? ⟨X.heap.size, 2, none⟩ = some (.int .u64 r2))) Z' ∧ Aside0 (Below Z.heap.size Z Z' ∧ w1.heap.size ≤ Z.heap.size)) := ⟨fun Z hZ => (HY.out Z (HBX1.out.next hZ).below).mono fun e Z' ⟨h1, h2⟩ => ⟨h1, HS5.out Z' (hZ.trans (h2.out.mono hZ.size)), ⟨h2.out, hZ.size⟩⟩⟩
  go_upto_region 4 with (fail)
  obtain ⟨⟨⟨q0, q1⟩, q2, q3⟩, q4⟩ := HS5.out _ (below_drew (Below.refl _ _))
  go_region_held3 (fun w => ((w.cell? ⟨b, 0, none⟩ = some (.pointer (some ⟨mb, 0, none⟩)) ∧ w.cell? ⟨b, 1, none⟩ = some (.slice (some ⟨g, 0, none⟩) sl c)) ∧ w.cell? ⟨g, n * 6 + 1, none⟩ = some (.int .i64 dk) ∧ w.cell? ⟨g, n * 6 + 2, none⟩ = some (.int .i64 dv)) ∧ w.cell? ⟨X.heap.size, 2, none⟩ = some (.int .u64 r2)) (first | assumption | exact HS5.out _ (by repeat (first | exact Below.refl _ _ | apply below_drew | apply pw_below_drewN))) (first | (go_at_call 40; refine (HY5.out _ (by repeat (first | exact Below.refl _ _ | apply below_drew | apply pw_below_drewN))).mono ?_; rintro e5 w5 ⟨⟨A5, n5, c5, rfl, HR5⟩, hct5, HB5⟩))
  have HBX5 := Aside0.mk (HBX1.out.next ((by repeat (first | exact Below.refl _ _ | apply below_drew | apply pw_below_drewN) : Below w1.heap.size w1 _).trans (HB5.out.1.mono HB5.out.2)))
  have HRW5 : Aside0 (Kd.C (Kd.int .u8) w5 A5 n5 key ∧ n5 ≤ c5 ∧ ∀ ad, A5 = some ad → 0 < n5 → X.heap.size ≤ ad.block) := ⟨HR5.out.1, HR5.out.2.1, fun ad e hn => by have h1 := HR5.out.2.2 ad e hn; have h2 := HB5.out.2; have h3 := HBX1.out.below.size; omega⟩
  clear hct5 q0 q1 q2 q3 q4
  have hp9 := HBX5.out.p
  have hr9 := heap_alloc_new w5 (.cells #[.int .u64 0, .int .u64 0, .int .u64 0, .int .u64 0, .int .u64 0, .int .u64 0, .int .u64 0, .int .u64 0, .int .u64 0, .int .u64 0, .int .u64 0] 32)
  go_wp2_with (first | (refine wpList_load_row rfl _ _ rfl _ rfl _ _ _ _ hp9 Tryd.underlying32 rfl HIN.out ?_) | (refine wpList_store_row rfl _ _ _ rfl _ _ rfl rfl _ _ hr9 HIN.out rfl (one11 _ _ _ _ _ _ _ _ _ _ _) ?_))
  rw [World.setRow_alloc_new]
  obtain ⟨W6, hW6⟩ : ∃ W6, w5.alloc (.cells #[.int .u64 r0, .int .u64 r1, .int .u64 r2, .int .u64 r3, .int .u64 r4, .int .u64 r5, .int .u64 r6, .int .u64 r7, .int .u64 r8, .int .u64 r9, .int .u64 r10] 32) = W6 := ⟨_, rfl⟩
  have HQ6 : Aside0 (W6.heap[w5.heap.size]? = some (.cells #[.int .u64 r0, .int .u64 r1, .int .u64 r2, .int .u64 r3, .int .u64 r4, .int .u64 r5, .int .u64 r6, .int .u64 r7, .int .u64 r8, .int .u64 r9, .int .u64 r10] 32 (0, 0))) := ⟨by rw [← hW6]; exact heap_alloc_new w5 _⟩
  have HB6 : Aside0 (Below w5.heap.size w5 W6) := ⟨by rw [← hW6]; exact below_alloc (Below.refl _ _) _⟩
  rw [hW6]
  obtain ⟨q, hq⟩ : ∃ q, w5.heap.size = q := ⟨_, rfl⟩
  rw [hq] at HQ6 ⊢
  have HQ := Aside0.mk hq
  clear hW6 hq hp9 hr9
  go_loopw [12] (fun v12 wr => ∃ (j : Nat), j ≤ 5 ∧ v12 = .int .i64 ((j + 1 : Nat) : Int) ∧ Aside0 (wr.heap[q]? = some (.cells (zrow #[.int .u64 r0, .int .u64 r1, .int .u64 r2, .int .u64 r3, .int .u64 r4, .int .u64 r5, .int .u64 r6, .int .u64 r7, .int .u64 r8, .int .u64 r9, .int .u64 r10] j) 32 (0, 0))) ∧ Aside0 (Below w5.heap.size w5 wr)) (fun v12 _ => 6 - (intOf v12).toNat)
  case atStart => exact ⟨0, by omega, rfl, HQ6, HB6⟩
  case round =>
    obtain ⟨j, hj, rfl, HQR, HBR⟩ := hrel
    by_cases hj5 : j < 5
    · have HQS : ∀ k, k < 11 → Aside0 ((wr.setCell ⟨q, k, none⟩ (.int .u64 0)).heap[q]? = some (.cells ((zrow #[.int .u64 r0, .int .u64 r1, .int .u64 r2, .int .u64 r3, .int .u64 r4, .int .u64 r5, .int .u64 r6, .int .u64 r7, .int .u64 r8, .int .u64 r9, .int .u64 r10] j).setIfInBounds k (.int .u64 0)) 32 (0, 0))) := fun k hk => ⟨blk_put HQR.out k (.int .u64 0) rfl⟩
      have HBS : ∀ k, Aside0 (Below w5.heap.size w5 (wr.setCell ⟨q, k, none⟩ (.int .u64 0))) := fun k => ⟨HBR.out.setCell (p := ⟨q, k, none⟩) (by rw [HQ.out]; exact Nat.le_refl _) _⟩
      obtain rfl | rfl | rfl | rfl | rfl : j = 0 ∨ j = 1 ∨ j = 2 ∨ j = 3 ∨ j = 4 := by omega
      · have hce : wr.cell? ⟨q, 1, none⟩ = some (.int .u64 r1) := (blk_cell HQR.out 1).trans rfl
        have hfz : wr.frozen? ⟨q, 1, none⟩ = false := by simp [World.frozen?, HQR.out]
        go_wp2_with fail
        exact ⟨⟨1, by omega, rfl, HQS 1 (by decide), HBS 1⟩, by simp [intOf]⟩
      · have hce : wr.cell? ⟨q, 2, none⟩ = some (.int .u64 r2) := (blk_cell HQR.out 2).trans rfl
        have hfz : wr.frozen? ⟨q, 2, none⟩ = false := by simp [World.frozen?, HQR.out]
        go_wp2_with fail
        exact ⟨⟨2, by omega, rfl, HQS 2 (by decide), HBS 2⟩, by simp [intOf]⟩
      · have hce : wr.cell? ⟨q, 3, none⟩ = some (.int .u64 r3) := (blk_cell HQR.out 3).trans rfl
        have hfz : wr.frozen? ⟨q, 3, none⟩ = false := by simp [World.frozen?, HQR.out]
        go_wp2_with fail
        exact ⟨⟨3, by omega, rfl, HQS 3 (by decide), HBS 3⟩, by simp [intOf]⟩
      · have hce : wr.cell? ⟨q, 4, none⟩ = some (.int .u64 r4) := (blk_cell HQR.out 4).trans rfl
        have hfz : wr.frozen? ⟨q, 4, none⟩ = false := by simp [World.frozen?, HQR.out]
        go_wp2_with fail
        exact ⟨⟨4, by omega, rfl, HQS 4 (by decide), HBS 4⟩, by simp [intOf]⟩
      · have hce : wr.cell? ⟨q, 5, none⟩ = some (.int .u64 r5) := (blk_cell HQR.out 5).trans rfl
        have hfz : wr.frozen? ⟨q, 5, none⟩ = false := by simp [World.frozen?, HQR.out]
        go_wp2_with fail
        exact ⟨⟨5, by omega, rfl, HQS 5 (by decide), HBS 5⟩, by simp [intOf]⟩
    · obtain rfl : j = 5 := by omega
      clear hj hj5
      have HBXZ := Aside0.mk (HBX5.out.next HBR.out)
      have HQZ : Aside0 (wr.heap[q]? = some (.cells #[.int .u64 r0, .int .u64 0, .int .u64 0, .int .u64 0, .int .u64 0, .int .u64 0, .int .u64 r6, .int .u64 r7, .int .u64 r8, .int .u64 r9, .int .u64 r10] 32 (0, 0))) := HQR
      clear HQR
      go_wp2_with fail
      refine (HV.out _ A5 n5 c5 HBXZ.out.below (Kd.C_below HRW5.out.1 HBR.out) HRW5.out.2.1 (fun ad e hn => ⟨HRW5.out.2.2 ad e hn, Nat.lt_of_lt_of_le (C_lt HRW5.out.1 ad e hn) HBR.out.size⟩)).mono ?_
      rintro e w9 ⟨rfl, hQ, hs9, hk9⟩
      have HB9 := Aside0.mk HBXZ.out.below
      have hp9 := (hk9 _ (Nat.le_refl _) (Array.getElem?_eq_some_iff.1 HBXZ.out.p).1).trans HBXZ.out.p
      have hr9 := (hk9 _ (Nat.le_succ _) (Array.getElem?_eq_some_iff.1 HBXZ.out.r).1).trans HBXZ.out.r
      have HXQ : Aside0 (X.heap.size + 1 < q) := ⟨by have := (Array.getElem?_eq_some_iff.1 HBX5.out.r).1; rw [← HQ.out]; exact this⟩
      have HQL := Aside0.mk (Array.getElem?_eq_some_iff.1 HQZ.out).1
      have hq9 := (hk9 _ (by have := HXQ.out; omega) HQL.out).trans HQZ.out
      have hqc : w9.cell? ⟨q, 0, none⟩ = some (.int .u64 r0) := (blk_cell hq9 0).trans rfl
      have hqf : w9.frozen? ⟨q, 0, none⟩ = false := by simp [World.frozen?, hq9]
      have HS9 : Aside0 ((w9.setCell ⟨q, 0, none⟩ (.int .u64 x)).heap[q]? = some (.cells #[.int .u64 x, .int .u64 0, .int .u64 0, .int .u64 0, .int .u64 0, .int .u64 0, .int .u64 r6, .int .u64 r7, .int .u64 r8, .int .u64 r9, .int .u64 r10] 32 (0, 0))) := ⟨blk_put hq9 0 (.int .u64 x) rfl⟩
      have HR9 : Aside0 ((w9.setCell ⟨q, 0, none⟩ (.int .u64 x)).heap[X.heap.size + 1]? = some (.cells #[.int .u64 0, .int .u64 0, .int .u64 0, .int .u64 0, .int .u64 0, .int .u64 0, .int .u64 0, .int .u64 0, .int .u64 0, .int .u64 0, .int .u64 0] 32 (0, 0))) := ⟨(Below.heap_setCell w9 ⟨q, 0, none⟩ _ _ (by show X.heap.size + 1 ≠ q; have := HXQ.out; omega)).trans hr9⟩
      have HQ9 := Aside0.mk (HOK.out _ _ _ hQ ((set_out w9 q 0 (.int .u64 x)).mono (fun k _ hk => by rw [hk]; exact ⟨by have := HXQ.out; omega, HQL.out⟩)))
      have HL9 := Aside0.mk (Nat.lt_trans HXQ.out HQL.out)
      clear hQ hs9 hk9 hp9 hr9 hq9
      go_upto_region 22 with (fail)
      obtain ⟨W10, hW10⟩ : ∃ W10, w9.setCell ⟨q, 0, none⟩ (.int .u64 x) = W10 := ⟨_, rfl⟩
      rw [hW10] at HS9 HR9 HQ9 ⊢
      have hs10 := HS9.out
      have hr10 := HR9.out
      clear hW10 hqc hqf
      go_wp2_with (first | (refine wpList_load_row rfl _ _ rfl _ rfl _ _ _ _ hs10 Tryd.underlying32 rfl HIN.out ?_) | (refine wpList_store_row rfl _ _ _ rfl _ _ rfl rfl _ _ hr10 HIN.out rfl (one11 _ _ _ _ _ _ _ _ _ _ _) ?_))
      have hl := fun j => cell_setRow_same W10 (X.heap.size + 1) j _ #[.int .u64 x, .int .u64 0, .int .u64 0, .int .u64 0, .int .u64 0, .int .u64 0, .int .u64 r6, .int .u64 r7, .int .u64 r8, .int .u64 r9, .int .u64 r10] _ _ hr10
      have HFIN : Aside0 (∃ W, Below X.heap.size X W ∧ QP W (W10.setRow (X.heap.size + 1) #[.int .u64 x, .int .u64 0, .int .u64 0, .int .u64 0, .int .u64 0, .int .u64 0, .int .u64 r6, .int .u64 r7, .int .u64 r8, .int .u64 r9, .int .u64 r10])) := ⟨_, HB9.out, HOK.out _ _ _ HQ9.out ((out_row #[.int .u64 x, .int .u64 0, .int .u64 0, .int .u64 0, .int .u64 0, .int .u64 0, .int .u64 r6, .int .u64 r7, .int .u64 r8, .int .u64 r9, .int .u64 r10]).mono (fun k _ hk => by rw [hk]; exact ⟨Nat.le_succ _, HL9.out⟩))⟩
      exact bodyPost_ret (v := .tuple #[.agg #[.int .u64 x, .int .u64 0, .int .u64 0, .int .u64 0, .int .u64 0, .int .u64 0, .int .u64 r6, .int .u64 r7, .int .u64 r8, .int .u64 r9, .int .u64 r10], .int .i64 0]) (by simp [results, Tryd.results19, go_sem, hl]) rfl ⟨rfl, HFIN.out⟩
end Go.Proofs.YtomnfkihieinbaaDoor.PAll
/- helper: the reference's Call, its walks. Written by gen_rcall.py. -/
set_option linter.unusedVariables false
set_option linter.unusedSimpArgs false
namespace Go.Proofs.YtomnfkihieinbaaDoor.PAll
open Go.RowKit Go.Shelf Go.Maps Go.Proofs.YtomnfkihieinbaaDoorW.PrintWords Go.Proofs.YtomnfkihieinbaaDoorW.PrintLast Go.Proofs.YtomnfkihieinbaaDoorW.PrintMore
set_option maxHeartbeats 8000000 in
set_option maxRecDepth 100000 in
theorem rcall_del (X : World) (b mb g c sl n : Nat) (r0 r1 r2 r3 r4 r5 r6 r7 r8 r9 r10 dk dv x y : Int) (HI : Aside0 (RIndexC X b r1 n true)) (HRC : Aside0 (RCellC X b mb g c sl n dk dv)) (hn0 : (0 : Int) ≤ (n : Int)) (hn1 : (n : Int) < (sl : Int)) (key : List Int) (QP : World → World → Prop) (HY : Aside0 (RBytesC X mb r2 dk true key)) (HOK : Aside0 (QPok X QP)) (HV : Aside0 (RFinC X 43 b n key (.int .i64 y) QP)) (hxy : IntKind.u64.wrap y = x) :
    Calls Tryd.prog 19 #[.pointer (some ⟨b, 0, none⟩), .int .i64 3, .agg #[.int .u64 r0, .int .u64 r1, .int .u64 r2, .int .u64 r3, .int .u64 r4, .int .u64 r5, .int .u64 r6, .int .u64 r7, .int .u64 r8, .int .u64 r9, .int .u64 r10]] X fun e X' => e = .returned (.tuple #[.agg #[.int .u64 x, .int .u64 0, .int .u64 0, .int .u64 0, .int .u64 0, .int .u64 0, .int .u64 r6, .int .u64 r7, .int .u64 r8, .int .u64 r9, .int .u64 r10], .int .i64 0]) ∧ ∃ W, Below X.heap.size X W ∧ QP W X' := by
  have hlt : decide ((n : Int) < (sl : Int)) = true := decide_eq_true hn1
  have HB0 := Aside0.mk (rboxes_start X #[.int .u64 r0, .int .u64 r1, .int .u64 r2, .int .u64 r3, .int .u64 r4, .int .u64 r5, .int .u64 r6, .int .u64 r7, .int .u64 r8, .int .u64 r9, .int .u64 r10] #[.int .u64 0, .int .u64 0, .int .u64 0, .int .u64 0, .int .u64 0, .int .u64 0, .int .u64 0, .int .u64 0, .int .u64 0, .int .u64 0, .int .u64 0])
  obtain ⟨W0, hW0⟩ : ∃ W0, ((X.alloc (.cells #[.int .u64 r0, .int .u64 r1, .int .u64 r2, .int .u64 r3, .int .u64 r4, .int .u64 r5, .int .u64 r6, .int .u64 r7, .int .u64 r8, .int .u64 r9, .int .u64 r10] 32)).alloc (.cells #[.int .u64 0, .int .u64 0, .int .u64 0, .int .u64 0, .int .u64 0, .int .u64 0, .int .u64 0, .int .u64 0, .int .u64 0, .int .u64 0, .int .u64 0] 32)) = W0 := ⟨_, rfl⟩
  have HW0 := Aside0.mk hW0
  rw [hW0] at HB0
  clear hW0
  have HIN : Aside0 ((Tryd.prog.info? 32).map (·.size) = some 11) := ⟨by kernel_rfl⟩
  go_enter Tryd.func19, Tryd.ntmps19
  go_wp2_with fail
  refine (HI.out _ (below_alloc (below_alloc (Below.refl _ _) _) _)).mono ?_
  rintro e w1 ⟨rfl, hb1⟩
  rw [HW0.out] at hb1
  have HBX1 := Aside0.mk (HB0.out.next hb1)
  clear hb1
  have HS5 : Aside0 (∀ Z, Below w1.heap.size w1 Z → ((fun w => ((w.cell? ⟨b, 0, none⟩ = some (.pointer (some ⟨mb, 0, none⟩)) ∧ w.cell? ⟨b, 1, none⟩ = some (.slice (some ⟨g, 0, none⟩) sl c)) ∧ w.cell? ⟨g, n * 6 + 1, none⟩ = some (.int .i64 dk) ∧ w.cell? ⟨g, n * 6 + 2, none⟩ = some (.int .i64 dv)) ∧ w.cell? ⟨X.heap.size, 2, none⟩ = some (.int .u64 r2))) Z) := ⟨fun Z hZ => by
    have hb := HBX1.out.next hZ
    exact ⟨HRC.out Z hb.below, by simp [World.cell?, hb.p]⟩⟩
  have HY5 : Aside0 (∀ Z, Below w1.heap.size w1 Z → Calls Tryd.prog 40 #[.pointer (some ⟨mb, 0, none⟩), .int .u64 r2, .int .i64 dk] Z fun e Z' => (∃ A nn c, e = .returned (.tuple #[.slice A nn c, .bool true]) ∧ Aside0 (Kd.C (Kd.int .u8) Z' A nn key ∧ nn ≤ c ∧ ∀ ad, A = some ad → 0 < nn → Z.heap.size ≤ ad.block)) ∧ ((fun w => ((w.cell? ⟨b, 0, none⟩ = some (.pointer (some ⟨mb, 0, none⟩)) ∧ w.cell? ⟨b, 1, none⟩ = some (.slice (some ⟨g, 0, none⟩) sl c)) ∧ w.cell? ⟨g, n * 6 + 1, none⟩ = some (.int .i64 dk) ∧ w.cell? ⟨g, n * 6 + 2, none⟩ = some (.int .i64 dv)) ∧ w.cell? ⟨X.heap.size, 2, none⟩ = some (.int .u64 r2))) Z' ∧ Aside0 (Below Z.heap.size Z Z' ∧ w1.heap.size ≤ Z.heap.size)) := ⟨fun Z hZ => (HY.out Z (HBX1.out.next hZ).below).mono fun e Z' ⟨h1, h2⟩ => ⟨h1, HS5.out Z' (hZ.trans (h2.out.mono hZ.size)), ⟨h2.out, hZ.size⟩⟩⟩
  go_upto_region 4 with (fail)
  obtain ⟨⟨⟨q0, q1⟩, q2, q3⟩, q4⟩ := HS5.out _ (below_drew (Below.refl _ _))
  go_region_held3 (fun w => ((w.cell? ⟨b, 0, none⟩ = some (.pointer (some ⟨mb, 0, none⟩)) ∧ w.cell? ⟨b, 1, none⟩ = some (.slice (some ⟨g, 0, none⟩) sl c)) ∧ w.cell? ⟨g, n * 6 + 1, none⟩ = some (.int .i64 dk) ∧ w.cell? ⟨g, n * 6 + 2, none⟩ = some (.int .i64 dv)) ∧ w.cell? ⟨X.heap.size, 2, none⟩ = some (.int .u64 r2)) (first | assumption | exact HS5.out _ (by repeat (first | exact Below.refl _ _ | apply below_drew | apply pw_below_drewN))) (first | (go_at_call 40; refine (HY5.out _ (by repeat (first | exact Below.refl _ _ | apply below_drew | apply pw_below_drewN))).mono ?_; rintro e5 w5 ⟨⟨A5, n5, c5, rfl, HR5⟩, hct5, HB5⟩))
  have HBX5 := Aside0.mk (HBX1.out.next ((by repeat (first | exact Below.refl _ _ | apply below_drew | apply pw_below_drewN) : Below w1.heap.size w1 _).trans (HB5.out.1.mono HB5.out.2)))
  have HRW5 : Aside0 (Kd.C (Kd.int .u8) w5 A5 n5 key ∧ n5 ≤ c5 ∧ ∀ ad, A5 = some ad → 0 < n5 → X.heap.size ≤ ad.block) := ⟨HR5.out.1, HR5.out.2.1, fun ad e hn => by have h1 := HR5.out.2.2 ad e hn; have h2 := HB5.out.2; have h3 := HBX1.out.below.size; omega⟩
  clear hct5 q0 q1 q2 q3 q4
  have hp9 := HBX5.out.p
  have hr9 := heap_alloc_new w5 (.cells #[.int .u64 0, .int .u64 0, .int .u64 0, .int .u64 0, .int .u64 0, .int .u64 0, .int .u64 0, .int .u64 0, .int .u64 0, .int .u64 0, .int .u64 0] 32)
  go_wp2_with (first | (refine wpList_load_row rfl _ _ rfl _ rfl _ _ _ _ hp9 Tryd.underlying32 rfl HIN.out ?_) | (refine wpList_store_row rfl _ _ _ rfl _ _ rfl rfl _ _ hr9 HIN.out rfl (one11 _ _ _ _ _ _ _ _ _ _ _) ?_))
  rw [World.setRow_alloc_new]
  obtain ⟨W6, hW6⟩ : ∃ W6, w5.alloc (.cells #[.int .u64 r0, .int .u64 r1, .int .u64 r2, .int .u64 r3, .int .u64 r4, .int .u64 r5, .int .u64 r6, .int .u64 r7, .int .u64 r8, .int .u64 r9, .int .u64 r10] 32) = W6 := ⟨_, rfl⟩
  have HQ6 : Aside0 (W6.heap[w5.heap.size]? = some (.cells #[.int .u64 r0, .int .u64 r1, .int .u64 r2, .int .u64 r3, .int .u64 r4, .int .u64 r5, .int .u64 r6, .int .u64 r7, .int .u64 r8, .int .u64 r9, .int .u64 r10] 32 (0, 0))) := ⟨by rw [← hW6]; exact heap_alloc_new w5 _⟩
  have HB6 : Aside0 (Below w5.heap.size w5 W6) := ⟨by rw [← hW6]; exact below_alloc (Below.refl _ _) _⟩
  rw [hW6]
  obtain ⟨q, hq⟩ : ∃ q, w5.heap.size = q := ⟨_, rfl⟩
  rw [hq] at HQ6 ⊢
  have HQ := Aside0.mk hq
  clear hW6 hq hp9 hr9
  go_loopw [12] (fun v12 wr => ∃ (j : Nat), j ≤ 5 ∧ v12 = .int .i64 ((j + 1 : Nat) : Int) ∧ Aside0 (wr.heap[q]? = some (.cells (zrow #[.int .u64 r0, .int .u64 r1, .int .u64 r2, .int .u64 r3, .int .u64 r4, .int .u64 r5, .int .u64 r6, .int .u64 r7, .int .u64 r8, .int .u64 r9, .int .u64 r10] j) 32 (0, 0))) ∧ Aside0 (Below w5.heap.size w5 wr)) (fun v12 _ => 6 - (intOf v12).toNat)
  case atStart => exact ⟨0, by omega, rfl, HQ6, HB6⟩
  case round =>
    obtain ⟨j, hj, rfl, HQR, HBR⟩ := hrel
    by_cases hj5 : j < 5
    · have HQS : ∀ k, k < 11 → Aside0 ((wr.setCell ⟨q, k, none⟩ (.int .u64 0)).heap[q]? = some (.cells ((zrow #[.int .u64 r0, .int .u64 r1, .int .u64 r2, .int .u64 r3, .int .u64 r4, .int .u64 r5, .int .u64 r6, .int .u64 r7, .int .u64 r8, .int .u64 r9, .int .u64 r10] j).setIfInBounds k (.int .u64 0)) 32 (0, 0))) := fun k hk => ⟨blk_put HQR.out k (.int .u64 0) rfl⟩
      have HBS : ∀ k, Aside0 (Below w5.heap.size w5 (wr.setCell ⟨q, k, none⟩ (.int .u64 0))) := fun k => ⟨HBR.out.setCell (p := ⟨q, k, none⟩) (by rw [HQ.out]; exact Nat.le_refl _) _⟩
      obtain rfl | rfl | rfl | rfl | rfl : j = 0 ∨ j = 1 ∨ j = 2 ∨ j = 3 ∨ j = 4 := by omega
      · have hce : wr.cell? ⟨q, 1, none⟩ = some (.int .u64 r1) := (blk_cell HQR.out 1).trans rfl
        have hfz : wr.frozen? ⟨q, 1, none⟩ = false := by simp [World.frozen?, HQR.out]
        go_wp2_with fail
        exact ⟨⟨1, by omega, rfl, HQS 1 (by decide), HBS 1⟩, by simp [intOf]⟩
      · have hce : wr.cell? ⟨q, 2, none⟩ = some (.int .u64 r2) := (blk_cell HQR.out 2).trans rfl
        have hfz : wr.frozen? ⟨q, 2, none⟩ = false := by simp [World.frozen?, HQR.out]
        go_wp2_with fail
        exact ⟨⟨2, by omega, rfl, HQS 2 (by decide), HBS 2⟩, by simp [intOf]⟩
      · have hce : wr.cell? ⟨q, 3, none⟩ = some (.int .u64 r3) := (blk_cell HQR.out 3).trans rfl
        have hfz : wr.frozen? ⟨q, 3, none⟩ = false := by simp [World.frozen?, HQR.out]
        go_wp2_with fail
        exact ⟨⟨3, by omega, rfl, HQS 3 (by decide), HBS 3⟩, by simp [intOf]⟩
      · have hce : wr.cell? ⟨q, 4, none⟩ = some (.int .u64 r4) := (blk_cell HQR.out 4).trans rfl
        have hfz : wr.frozen? ⟨q, 4, none⟩ = false := by simp [World.frozen?, HQR.out]
        go_wp2_with fail
        exact ⟨⟨4, by omega, rfl, HQS 4 (by decide), HBS 4⟩, by simp [intOf]⟩
      · have hce : wr.cell? ⟨q, 5, none⟩ = some (.int .u64 r5) := (blk_cell HQR.out 5).trans rfl
        have hfz : wr.frozen? ⟨q, 5, none⟩ = false := by simp [World.frozen?, HQR.out]
        go_wp2_with fail
        exact ⟨⟨5, by omega, rfl, HQS 5 (by decide), HBS 5⟩, by simp [intOf]⟩
    · obtain rfl : j = 5 := by omega
      clear hj hj5
      have HBXZ := Aside0.mk (HBX5.out.next HBR.out)
      have HQZ : Aside0 (wr.heap[q]? = some (.cells #[.int .u64 r0, .int .u64 0, .int .u64 0, .int .u64 0, .int .u64 0, .int .u64 0, .int .u64 r6, .int .u64 r7, .int .u64 r8, .int .u64 r9, .int .u64 r10] 32 (0, 0))) := HQR
      clear HQR
      go_wp2_with fail
      refine (HV.out _ A5 n5 c5 HBXZ.out.below (Kd.C_below HRW5.out.1 HBR.out) HRW5.out.2.1 (fun ad e hn => ⟨HRW5.out.2.2 ad e hn, Nat.lt_of_lt_of_le (C_lt HRW5.out.1 ad e hn) HBR.out.size⟩)).mono ?_
      rintro e w9 ⟨rfl, hQ, hs9, hk9⟩
      have HB9 := Aside0.mk HBXZ.out.below
      have hp9 := (hk9 _ (Nat.le_refl _) (Array.getElem?_eq_some_iff.1 HBXZ.out.p).1).trans HBXZ.out.p
      have hr9 := (hk9 _ (Nat.le_succ _) (Array.getElem?_eq_some_iff.1 HBXZ.out.r).1).trans HBXZ.out.r
      have HXQ : Aside0 (X.heap.size + 1 < q) := ⟨by have := (Array.getElem?_eq_some_iff.1 HBX5.out.r).1; rw [← HQ.out]; exact this⟩
      have HQL := Aside0.mk (Array.getElem?_eq_some_iff.1 HQZ.out).1
      have hq9 := (hk9 _ (by have := HXQ.out; omega) HQL.out).trans HQZ.out
      have hqc : w9.cell? ⟨q, 0, none⟩ = some (.int .u64 r0) := (blk_cell hq9 0).trans rfl
      have hqf : w9.frozen? ⟨q, 0, none⟩ = false := by simp [World.frozen?, hq9]
      have HS9 : Aside0 ((w9.setCell ⟨q, 0, none⟩ (.int .u64 x)).heap[q]? = some (.cells #[.int .u64 x, .int .u64 0, .int .u64 0, .int .u64 0, .int .u64 0, .int .u64 0, .int .u64 r6, .int .u64 r7, .int .u64 r8, .int .u64 r9, .int .u64 r10] 32 (0, 0))) := ⟨blk_put hq9 0 (.int .u64 x) rfl⟩
      have HR9 : Aside0 ((w9.setCell ⟨q, 0, none⟩ (.int .u64 x)).heap[X.heap.size + 1]? = some (.cells #[.int .u64 0, .int .u64 0, .int .u64 0, .int .u64 0, .int .u64 0, .int .u64 0, .int .u64 0, .int .u64 0, .int .u64 0, .int .u64 0, .int .u64 0] 32 (0, 0))) := ⟨(Below.heap_setCell w9 ⟨q, 0, none⟩ _ _ (by show X.heap.size + 1 ≠ q; have := HXQ.out; omega)).trans hr9⟩
      have HQ9 := Aside0.mk (HOK.out _ _ _ hQ ((set_out w9 q 0 (.int .u64 x)).mono (fun k _ hk => by rw [hk]; exact ⟨by have := HXQ.out; omega, HQL.out⟩)))
      have HL9 := Aside0.mk (Nat.lt_trans HXQ.out HQL.out)
      clear hQ hs9 hk9 hp9 hr9 hq9
      go_upto_region 22 with (fail)
      obtain ⟨W10, hW10⟩ : ∃ W10, w9.setCell ⟨q, 0, none⟩ (.int .u64 x) = W10 := ⟨_, rfl⟩
      rw [hW10] at HS9 HR9 HQ9 ⊢
      have hs10 := HS9.out
      have hr10 := HR9.out
      clear hW10 hqc hqf
      go_wp2_with (first | (refine wpList_load_row rfl _ _ rfl _ rfl _ _ _ _ hs10 Tryd.underlying32 rfl HIN.out ?_) | (refine wpList_store_row rfl _ _ _ rfl _ _ rfl rfl _ _ hr10 HIN.out rfl (one11 _ _ _ _ _ _ _ _ _ _ _) ?_))
      have hl := fun j => cell_setRow_same W10 (X.heap.size + 1) j _ #[.int .u64 x, .int .u64 0, .int .u64 0, .int .u64 0, .int .u64 0, .int .u64 0, .int .u64 r6, .int .u64 r7, .int .u64 r8, .int .u64 r9, .int .u64 r10] _ _ hr10
      have HFIN : Aside0 (∃ W, Below X.heap.size X W ∧ QP W (W10.setRow (X.heap.size + 1) #[.int .u64 x, .int .u64 0, .int .u64 0, .int .u64 0, .int .u64 0, .int .u64 0, .int .u64 r6, .int .u64 r7, .int .u64 r8, .int .u64 r9, .int .u64 r10])) := ⟨_, HB9.out, HOK.out _ _ _ HQ9.out ((out_row #[.int .u64 x, .int .u64 0, .int .u64 0, .int .u64 0, .int .u64 0, .int .u64 0, .int .u64 r6, .int .u64 r7, .int .u64 r8, .int .u64 r9, .int .u64 r10]).mono (fun k _ hk => by rw [hk]; exact ⟨Nat.le_succ _, HL9.out⟩))⟩
      exact bodyPost_ret (v := .tuple #[.agg #[.int .u64 x, .int .u64 0, .int .u64 0, .int .u64 0, .int .u64 0, .int .u64 0, .int .u64 r6, .int .u64 r7, .int .u64 r8, .int .u64 r9, .int .u64 r10], .int .i64 0]) (by simp [results, Tryd.results19, go_sem, hl]) rfl ⟨rfl, HFIN.out⟩
end Go.Proofs.YtomnfkihieinbaaDoor.PAll
/- helper: the reference's Call, its walks. Written by gen_rcall.py. -/
set_option linter.unusedVariables false
set_option linter.unusedSimpArgs false
namespace Go.Proofs.YtomnfkihieinbaaDoor.PAll
open Go.RowKit Go.Shelf Go.Maps Go.Proofs.YtomnfkihieinbaaDoorW.PrintWords Go.Proofs.YtomnfkihieinbaaDoorW.PrintLast Go.Proofs.YtomnfkihieinbaaDoorW.PrintMore
set_option maxHeartbeats 8000000 in
set_option maxRecDepth 100000 in
theorem rcall_upd (X : World) (b mb g c sl n : Nat) (r0 r1 r2 r3 r4 r5 r6 r7 r8 r9 r10 dk dv x y : Int) (HI : Aside0 (RIndexC X b r1 n true)) (HRC : Aside0 (RCellC X b mb g c sl n dk dv)) (hn0 : (0 : Int) ≤ (n : Int)) (hn1 : (n : Int) < (sl : Int)) (key value : List Int) (QP : World → World → Prop) (HOK : Aside0 (QPok X QP)) (HV : Aside0 (RFinC2 X 42 b n key value (.int .i64 y) QP)) (hxy : IntKind.u64.wrap y = x) (HY : Aside0 (RBytesC X mb r2 dk true key)) (HZ : Aside0 (RBytesC X mb r3 dv true value)) :
    Calls Tryd.prog 19 #[.pointer (some ⟨b, 0, none⟩), .int .i64 2, .agg #[.int .u64 r0, .int .u64 r1, .int .u64 r2, .int .u64 r3, .int .u64 r4, .int .u64 r5, .int .u64 r6, .int .u64 r7, .int .u64 r8, .int .u64 r9, .int .u64 r10]] X fun e X' => e = .returned (.tuple #[.agg #[.int .u64 x, .int .u64 0, .int .u64 0, .int .u64 0, .int .u64 0, .int .u64 0, .int .u64 r6, .int .u64 r7, .int .u64 r8, .int .u64 r9, .int .u64 r10], .int .i64 0]) ∧ ∃ W, Below X.heap.size X W ∧ QP W X' := by
  have hlt : decide ((n : Int) < (sl : Int)) = true := decide_eq_true hn1
  have HB0 := Aside0.mk (rboxes_start X #[.int .u64 r0, .int .u64 r1, .int .u64 r2, .int .u64 r3, .int .u64 r4, .int .u64 r5, .int .u64 r6, .int .u64 r7, .int .u64 r8, .int .u64 r9, .int .u64 r10] #[.int .u64 0, .int .u64 0, .int .u64 0, .int .u64 0, .int .u64 0, .int .u64 0, .int .u64 0, .int .u64 0, .int .u64 0, .int .u64 0, .int .u64 0])
  obtain ⟨W0, hW0⟩ : ∃ W0, ((X.alloc (.cells #[.int .u64 r0, .int .u64 r1, .int .u64 r2, .int .u64 r3, .int .u64 r4, .int .u64 r5, .int .u64 r6, .int .u64 r7, .int .u64 r8, .int .u64 r9, .int .u64 r10] 32)).alloc (.cells #[.int .u64 0, .int .u64 0, .int .u64 0, .int .u64 0, .int .u64 0, .int .u64 0, .int .u64 0, .int .u64 0, .int .u64 0, .int .u64 0, .int .u64 0] 32)) = W0 := ⟨_, rfl⟩
  have HW0 := Aside0.mk hW0
  rw [hW0] at HB0
  clear hW0
  have HIN : Aside0 ((Tryd.prog.info? 32).map (·.size) = some 11) := ⟨by kernel_rfl⟩
  go_enter Tryd.func19, Tryd.ntmps19
  go_wp2_with fail
  refine (HI.out _ (below_alloc (below_alloc (Below.refl _ _) _) _)).mono ?_
  rintro e w1 ⟨rfl, hb1⟩
  rw [HW0.out] at hb1
  have HBX1 := Aside0.mk (HB0.out.next hb1)
  clear hb1
  have HS5 : Aside0 (∀ Z, Below w1.heap.size w1 Z → ((fun w => ((w.cell? ⟨b, 0, none⟩ = some (.pointer (some ⟨mb, 0, none⟩)) ∧ w.cell? ⟨b, 1, none⟩ = some (.slice (some ⟨g, 0, none⟩) sl c)) ∧ w.cell? ⟨g, n * 6 + 1, none⟩ = some (.int .i64 dk) ∧ w.cell? ⟨g, n * 6 + 2, none⟩ = some (.int .i64 dv)) ∧ w.cell? ⟨X.heap.size, 2, none⟩ = some (.int .u64 r2))) Z) := ⟨fun Z hZ => by
    have hb := HBX1.out.next hZ
    exact ⟨HRC.out Z hb.below, by simp [World.cell?, hb.p]⟩⟩
  have HY5 : Aside0 (∀ Z, Below w1.heap.size w1 Z → Calls Tryd.prog 40 #[.pointer (some ⟨mb, 0, none⟩), .int .u64 r2, .int .i64 dk] Z fun e Z' => (∃ A nn c, e = .returned (.tuple #[.slice A nn c, .bool true]) ∧ Aside0 (Kd.C (Kd.int .u8) Z' A nn key ∧ nn ≤ c ∧ ∀ ad, A = some ad → 0 < nn → Z.heap.size ≤ ad.block)) ∧ ((fun w => ((w.cell? ⟨b, 0, none⟩ = some (.pointer (some ⟨mb, 0, none⟩)) ∧ w.cell? ⟨b, 1, none⟩ = some (.slice (some ⟨g, 0, none⟩) sl c)) ∧ w.cell? ⟨g, n * 6 + 1, none⟩ = some (.int .i64 dk) ∧ w.cell? ⟨g, n * 6 + 2, none⟩ = some (.int .i64 dv)) ∧ w.cell? ⟨X.heap.size, 2, none⟩ = some (.int .u64 r2))) Z' ∧ Aside0 (Below Z.heap.size Z Z' ∧ w1.heap.size ≤ Z.heap.size)) := ⟨fun Z hZ => (HY.out Z (HBX1.out.next hZ).below).mono fun e Z' ⟨h1, h2⟩ => ⟨h1, HS5.out Z' (hZ.trans (h2.out.mono hZ.size)), ⟨h2.out, hZ.size⟩⟩⟩
  go_upto_region 4 with (fail)
  obtain ⟨⟨⟨q0, q1⟩, q2, q3⟩, q4⟩ := HS5.out _ (below_drew (Below.refl _ _))
  go_region_held3 (fun w => ((w.cell? ⟨b, 0, none⟩ = some (.pointer (some ⟨mb, 0, none⟩)) ∧ w.cell? ⟨b, 1, none⟩ = some (.slice (some ⟨g, 0, none⟩) sl c)) ∧ w.cell? ⟨g, n * 6 + 1, none⟩ = some (.int .i64 dk) ∧ w.cell? ⟨g, n * 6 + 2, none⟩ = some (.int .i64 dv)) ∧ w.cell? ⟨X.heap.size, 2, none⟩ = some (.int .u64 r2)) (first | assumption | exact HS5.out _ (by repeat (first | exact Below.refl _ _ | apply below_drew | apply pw_below_drewN))) (first | (go_at_call 40; refine (HY5.out _ (by repeat (first | exact Below.refl _ _ | apply below_drew | apply pw_below_drewN))).mono ?_; rintro e5 w5 ⟨⟨A5, n5, c5, rfl, HR5⟩, hct5, HB5⟩))
  have HBX5 := Aside0.mk (HBX1.out.next ((by repeat (first | exact Below.refl _ _ | apply below_drew | apply pw_below_drewN) : Below w1.heap.size w1 _).trans (HB5.out.1.mono HB5.out.2)))
  have HRW5 : Aside0 (Kd.C (Kd.int .u8) w5 A5 n5 key ∧ n5 ≤ c5 ∧ ∀ ad, A5 = some ad → 0 < n5 → X.heap.size ≤ ad.block) := ⟨HR5.out.1, HR5.out.2.1, fun ad e hn => by have h1 := HR5.out.2.2 ad e hn; have h2 := HB5.out.2; have h3 := HBX1.out.below.size; omega⟩
  clear hct5 q0 q1 q2 q3 q4
  have hp9 := HBX5.out.p
  have hr9 := heap_alloc_new w5 (.cells #[.int .u64 0, .int .u64 0, .int .u64 0, .int .u64 0, .int .u64 0, .int .u64 0, .int .u64 0, .int .u64 0, .int .u64 0, .int .u64 0, .int .u64 0] 32)
  go_wp2_with (first | (refine wpList_load_row rfl _ _ rfl _ rfl _ _ _ _ hp9 Tryd.underlying32 rfl HIN.out ?_) | (refine wpList_store_row rfl _ _ _ rfl _ _ rfl rfl _ _ hr9 HIN.out rfl (one11 _ _ _ _ _ _ _ _ _ _ _) ?_))
  rw [World.setRow_alloc_new]
  obtain ⟨W6, hW6⟩ : ∃ W6, w5.alloc (.cells #[.int .u64 r0, .int .u64 r1, .int .u64 r2, .int .u64 r3, .int .u64 r4, .int .u64 r5, .int .u64 r6, .int .u64 r7, .int .u64 r8, .int .u64 r9, .int .u64 r10] 32) = W6 := ⟨_, rfl⟩
  have HQ6 : Aside0 (W6.heap[w5.heap.size]? = some (.cells #[.int .u64 r0, .int .u64 r1, .int .u64 r2, .int .u64 r3, .int .u64 r4, .int .u64 r5, .int .u64 r6, .int .u64 r7, .int .u64 r8, .int .u64 r9, .int .u64 r10] 32 (0, 0))) := ⟨by rw [← hW6]; exact heap_alloc_new w5 _⟩
  have HB6 : Aside0 (Below w5.heap.size w5 W6) := ⟨by rw [← hW6]; exact below_alloc (Below.refl _ _) _⟩
  rw [hW6]
  obtain ⟨q, hq⟩ : ∃ q, w5.heap.size = q := ⟨_, rfl⟩
  rw [hq] at HQ6 ⊢
  have HQ := Aside0.mk hq
  clear hW6 hq hp9 hr9
  go_loopw [12] (fun v12 wr => ∃ (j : Nat), j ≤ 5 ∧ v12 = .int .i64 ((j + 1 : Nat) : Int) ∧ Aside0 (wr.heap[q]? = some (.cells (zrow #[.int .u64 r0, .int .u64 r1, .int .u64 r2, .int .u64 r3, .int .u64 r4, .int .u64 r5, .int .u64 r6, .int .u64 r7, .int .u64 r8, .int .u64 r9, .int .u64 r10] j) 32 (0, 0))) ∧ Aside0 (Below w5.heap.size w5 wr)) (fun v12 _ => 6 - (intOf v12).toNat)
  case atStart => exact ⟨0, by omega, rfl, HQ6, HB6⟩
  case round =>
    obtain ⟨j, hj, rfl, HQR, HBR⟩ := hrel
    by_cases hj5 : j < 5
    · have HQS : ∀ k, k < 11 → Aside0 ((wr.setCell ⟨q, k, none⟩ (.int .u64 0)).heap[q]? = some (.cells ((zrow #[.int .u64 r0, .int .u64 r1, .int .u64 r2, .int .u64 r3, .int .u64 r4, .int .u64 r5, .int .u64 r6, .int .u64 r7, .int .u64 r8, .int .u64 r9, .int .u64 r10] j).setIfInBounds k (.int .u64 0)) 32 (0, 0))) := fun k hk => ⟨blk_put HQR.out k (.int .u64 0) rfl⟩
      have HBS : ∀ k, Aside0 (Below w5.heap.size w5 (wr.setCell ⟨q, k, none⟩ (.int .u64 0))) := fun k => ⟨HBR.out.setCell (p := ⟨q, k, none⟩) (by rw [HQ.out]; exact Nat.le_refl _) _⟩
      obtain rfl | rfl | rfl | rfl | rfl : j = 0 ∨ j = 1 ∨ j = 2 ∨ j = 3 ∨ j = 4 := by omega
      · have hce : wr.cell? ⟨q, 1, none⟩ = some (.int .u64 r1) := (blk_cell HQR.out 1).trans rfl
        have hfz : wr.frozen? ⟨q, 1, none⟩ = false := by simp [World.frozen?, HQR.out]
        go_wp2_with fail
        exact ⟨⟨1, by omega, rfl, HQS 1 (by decide), HBS 1⟩, by simp [intOf]⟩
      · have hce : wr.cell? ⟨q, 2, none⟩ = some (.int .u64 r2) := (blk_cell HQR.out 2).trans rfl
        have hfz : wr.frozen? ⟨q, 2, none⟩ = false := by simp [World.frozen?, HQR.out]
        go_wp2_with fail
        exact ⟨⟨2, by omega, rfl, HQS 2 (by decide), HBS 2⟩, by simp [intOf]⟩
      · have hce : wr.cell? ⟨q, 3, none⟩ = some (.int .u64 r3) := (blk_cell HQR.out 3).trans rfl
        have hfz : wr.frozen? ⟨q, 3, none⟩ = false := by simp [World.frozen?, HQR.out]
        go_wp2_with fail
        exact ⟨⟨3, by omega, rfl, HQS 3 (by decide), HBS 3⟩, by simp [intOf]⟩
      · have hce : wr.cell? ⟨q, 4, none⟩ = some (.int .u64 r4) := (blk_cell HQR.out 4).trans rfl
        have hfz : wr.frozen? ⟨q, 4, none⟩ = false := by simp [World.frozen?, HQR.out]
        go_wp2_with fail
        exact ⟨⟨4, by omega, rfl, HQS 4 (by decide), HBS 4⟩, by simp [intOf]⟩
      · have hce : wr.cell? ⟨q, 5, none⟩ = some (.int .u64 r5) := (blk_cell HQR.out 5).trans rfl
        have hfz : wr.frozen? ⟨q, 5, none⟩ = false := by simp [World.frozen?, HQR.out]
        go_wp2_with fail
        exact ⟨⟨5, by omega, rfl, HQS 5 (by decide), HBS 5⟩, by simp [intOf]⟩
    · obtain rfl : j = 5 := by omega
      clear hj hj5
      have HBXR := Aside0.mk (HBX5.out.next HBR.out)
      have HQ1 : Aside0 (wr.heap[q]? = some (.cells #[.int .u64 r0, .int .u64 0, .int .u64 0, .int .u64 0, .int .u64 0, .int .u64 0, .int .u64 r6, .int .u64 r7, .int .u64 r8, .int .u64 r9, .int .u64 r10] 32 (0, 0))) := HQR
      clear HQR
      have HS7 : Aside0 (∀ Z, Below wr.heap.size wr Z → ((fun w => ((w.cell? ⟨b, 0, none⟩ = some (.pointer (some ⟨mb, 0, none⟩)) ∧ w.cell? ⟨b, 1, none⟩ = some (.slice (some ⟨g, 0, none⟩) sl c)) ∧ w.cell? ⟨g, n * 6 + 1, none⟩ = some (.int .i64 dk) ∧ w.cell? ⟨g, n * 6 + 2, none⟩ = some (.int .i64 dv)) ∧ w.cell? ⟨X.heap.size, 3, none⟩ = some (.int .u64 r3))) Z) := ⟨fun Z hZ => by
        have hb := HBXR.out.next hZ
        exact ⟨HRC.out Z hb.below, by simp [World.cell?, hb.p]⟩⟩
      have HY7 : Aside0 (∀ Z, Below wr.heap.size wr Z → Calls Tryd.prog 40 #[.pointer (some ⟨mb, 0, none⟩), .int .u64 r3, .int .i64 dv] Z fun e Z' => (∃ A nn c, e = .returned (.tuple #[.slice A nn c, .bool true]) ∧ Aside0 (Kd.C (Kd.int .u8) Z' A nn value ∧ nn ≤ c ∧ ∀ ad, A = some ad → 0 < nn → Z.heap.size ≤ ad.block)) ∧ ((fun w => ((w.cell? ⟨b, 0, none⟩ = some (.pointer (some ⟨mb, 0, none⟩)) ∧ w.cell? ⟨b, 1, none⟩ = some (.slice (some ⟨g, 0, none⟩) sl c)) ∧ w.cell? ⟨g, n * 6 + 1, none⟩ = some (.int .i64 dk) ∧ w.cell? ⟨g, n * 6 + 2, none⟩ = some (.int .i64 dv)) ∧ w.cell? ⟨X.heap.size, 3, none⟩ = some (.int .u64 r3))) Z' ∧ Aside0 (Below Z.heap.size Z Z' ∧ wr.heap.size ≤ Z.heap.size)) := ⟨fun Z hZ => (HZ.out Z (HBXR.out.next hZ).below).mono fun e Z' ⟨h1, h2⟩ => ⟨h1, HS7.out Z' (hZ.trans (h2.out.mono hZ.size)), ⟨h2.out, hZ.size⟩⟩⟩
      go_upto_region 16 with (fail)
      obtain ⟨⟨⟨q0, q1⟩, q2, q3⟩, q4⟩ := HS7.out _ (below_drew (Below.refl _ _))
      go_region_held3 (fun w => ((w.cell? ⟨b, 0, none⟩ = some (.pointer (some ⟨mb, 0, none⟩)) ∧ w.cell? ⟨b, 1, none⟩ = some (.slice (some ⟨g, 0, none⟩) sl c)) ∧ w.cell? ⟨g, n * 6 + 1, none⟩ = some (.int .i64 dk) ∧ w.cell? ⟨g, n * 6 + 2, none⟩ = some (.int .i64 dv)) ∧ w.cell? ⟨X.heap.size, 3, none⟩ = some (.int .u64 r3)) (first | assumption | exact HS7.out _ (by repeat (first | exact Below.refl _ _ | apply below_drew | apply pw_below_drewN))) (first | (go_at_call 40; refine (HY7.out _ (by repeat (first | exact Below.refl _ _ | apply below_drew | apply pw_below_drewN))).mono ?_; rintro e5 w7 ⟨⟨A7, n7, c7, rfl, HR7⟩, hct7, HB7⟩))
      have HBW7 : Aside0 (Below wr.heap.size wr w7) := ⟨((by repeat (first | exact Below.refl _ _ | apply below_drew | apply pw_below_drewN) : Below wr.heap.size wr _).trans (HB7.out.1.mono HB7.out.2))⟩
      have HBXZ := Aside0.mk (HBXR.out.next HBW7.out)
      clear hct7 q0 q1 q2 q3 q4
      have HQZ : Aside0 (w7.heap[q]? = some (.cells #[.int .u64 r0, .int .u64 0, .int .u64 0, .int .u64 0, .int .u64 0, .int .u64 0, .int .u64 r6, .int .u64 r7, .int .u64 r8, .int .u64 r9, .int .u64 r10] 32 (0, 0))) := ⟨(HBW7.out.block _ (Array.getElem?_eq_some_iff.1 HQ1.out).1).trans HQ1.out⟩
      have HX7 : Aside0 (X.heap.size ≤ wr.heap.size) := ⟨HBXR.out.below.size⟩
      go_wp2_with fail
      refine (HV.out _ A5 n5 c5 A7 n7 c7 HBXZ.out.below (Kd.C_below (Kd.C_below HRW5.out.1 HBR.out) HBW7.out) HRW5.out.2.1 (fun ad e hn => ⟨HRW5.out.2.2 ad e hn, Nat.lt_of_lt_of_le (C_lt HRW5.out.1 ad e hn) (Nat.le_trans HBR.out.size HBW7.out.size)⟩) HR7.out.1 HR7.out.2.1 (fun ad e hn => ⟨by have h1 := HR7.out.2.2 ad e hn; have h2 := HB7.out.2; have h3 := HX7.out; omega, C_lt HR7.out.1 ad e hn⟩)).mono ?_
      rintro e w9 ⟨rfl, hQ, hs9, hk9⟩
      have HB9 := Aside0.mk HBXZ.out.below
      have hp9 := (hk9 _ (Nat.le_refl _) (Array.getElem?_eq_some_iff.1 HBXZ.out.p).1).trans HBXZ.out.p
      have hr9 := (hk9 _ (Nat.le_succ _) (Array.getElem?_eq_some_iff.1 HBXZ.out.r).1).trans HBXZ.out.r
      have HXQ : Aside0 (X.heap.size + 1 < q) := ⟨by have := (Array.getElem?_eq_some_iff.1 HBX5.out.r).1; rw [← HQ.out]; exact this⟩
      have HQL := Aside0.mk (Array.getElem?_eq_some_iff.1 HQZ.out).1
      have hq9 := (hk9 _ (by have := HXQ.out; omega) HQL.out).trans HQZ.out
      have hqc : w9.cell? ⟨q, 0, none⟩ = some (.int .u64 r0) := (blk_cell hq9 0).trans rfl
      have hqf : w9.frozen? ⟨q, 0, none⟩ = false := by simp [World.frozen?, hq9]
      have HS9 : Aside0 ((w9.setCell ⟨q, 0, none⟩ (.int .u64 x)).heap[q]? = some (.cells #[.int .u64 x, .int .u64 0, .int .u64 0, .int .u64 0, .int .u64 0, .int .u64 0, .int .u64 r6, .int .u64 r7, .int .u64 r8, .int .u64 r9, .int .u64 r10] 32 (0, 0))) := ⟨blk_put hq9 0 (.int .u64 x) rfl⟩
      have HR9 : Aside0 ((w9.setCell ⟨q, 0, none⟩ (.int .u64 x)).heap[X.heap.size + 1]? = some (.cells #[.int .u64 0, .int .u64 0, .int .u64 0, .int .u64 0, .int .u64 0, .int .u64 0, .int .u64 0, .int .u64 0, .int .u64 0, .int .u64 0, .int .u64 0] 32 (0, 0))) := ⟨(Below.heap_setCell w9 ⟨q, 0, none⟩ _ _ (by show X.heap.size + 1 ≠ q; have := HXQ.out; omega)).trans hr9⟩
      have HQ9 := Aside0.mk (HOK.out _ _ _ hQ ((set_out w9 q 0 (.int .u64 x)).mono (fun k _ hk => by rw [hk]; exact ⟨by have := HXQ.out; omega, HQL.out⟩)))
      have HL9 := Aside0.mk (Nat.lt_trans HXQ.out HQL.out)
      clear hQ hs9 hk9 hp9 hr9 hq9
      go_upto_region 22 with (fail)
      obtain ⟨W10, hW10⟩ : ∃ W10, w9.setCell ⟨q, 0, none⟩ (.int .u64 x) = W10 := ⟨_, rfl⟩
      rw [hW10] at HS9 HR9 HQ9 ⊢
      have hs10 := HS9.out
      have hr10 := HR9.out
      clear hW10 hqc hqf
      go_wp2_with (first | (refine wpList_load_row rfl _ _ rfl _ rfl _ _ _ _ hs10 Tryd.underlying32 rfl HIN.out ?_) | (refine wpList_store_row rfl _ _ _ rfl _ _ rfl rfl _ _ hr10 HIN.out rfl (one11 _ _ _ _ _ _ _ _ _ _ _) ?_))
      have hl := fun j => cell_setRow_same W10 (X.heap.size + 1) j _ #[.int .u64 x, .int .u64 0, .int .u64 0, .int .u64 0, .int .u64 0, .int .u64 0, .int .u64 r6, .int .u64 r7, .int .u64 r8, .int .u64 r9, .int .u64 r10] _ _ hr10
      have HFIN : Aside0 (∃ W, Below X.heap.size X W ∧ QP W (W10.setRow (X.heap.size + 1) #[.int .u64 x, .int .u64 0, .int .u64 0, .int .u64 0, .int .u64 0, .int .u64 0, .int .u64 r6, .int .u64 r7, .int .u64 r8, .int .u64 r9, .int .u64 r10])) := ⟨_, HB9.out, HOK.out _ _ _ HQ9.out ((out_row #[.int .u64 x, .int .u64 0, .int .u64 0, .int .u64 0, .int .u64 0, .int .u64 0, .int .u64 r6, .int .u64 r7, .int .u64 r8, .int .u64 r9, .int .u64 r10]).mono (fun k _ hk => by rw [hk]; exact ⟨Nat.le_succ _, HL9.out⟩))⟩
      exact bodyPost_ret (v := .tuple #[.agg #[.int .u64 x, .int .u64 0, .int .u64 0, .int .u64 0, .int .u64 0, .int .u64 0, .int .u64 r6, .int .u64 r7, .int .u64 r8, .int .u64 r9, .int .u64 r10], .int .i64 0]) (by simp [results, Tryd.results19, go_sem, hl]) rfl ⟨rfl, HFIN.out⟩
end Go.Proofs.YtomnfkihieinbaaDoor.PAll
/- helper: the reference's Call, its walks. Written by gen_rcall.py. -/
set_option linter.unusedVariables false
set_option linter.unusedSimpArgs false
namespace Go.Proofs.YtomnfkihieinbaaDoor.PAll
open Go.RowKit Go.Shelf Go.Maps Go.Proofs.YtomnfkihieinbaaDoorW.PrintWords Go.Proofs.YtomnfkihieinbaaDoorW.PrintLast Go.Proofs.YtomnfkihieinbaaDoorW.PrintMore
set_option maxHeartbeats 8000000 in
set_option maxRecDepth 100000 in
theorem rcall_noval (X : World) (b mb g c sl n : Nat) (r0 r1 r2 r3 r4 r5 r6 r7 r8 r9 r10 dk dv : Int) (HI : Aside0 (RIndexC X b r1 n true)) (HRC : Aside0 (RCellC X b mb g c sl n dk dv)) (hn0 : (0 : Int) ≤ (n : Int)) (hn1 : (n : Int) < (sl : Int)) (key value : List Int) (HY : Aside0 (RBytesC X mb r2 dk true key)) (HZ : Aside0 (RBytesC X mb r3 dv false value)) :
    Calls Tryd.prog 19 #[.pointer (some ⟨b, 0, none⟩), .int .i64 2, .agg #[.int .u64 r0, .int .u64 r1, .int .u64 r2, .int .u64 r3, .int .u64 r4, .int .u64 r5, .int .u64 r6, .int .u64 r7, .int .u64 r8, .int .u64 r9, .int .u64 r10]] X fun e X' => e = .returned (.tuple #[.agg #[.int .u64 r0, .int .u64 r1, .int .u64 r2, .int .u64 r3, .int .u64 r4, .int .u64 r5, .int .u64 r6, .int .u64 r7, .int .u64 r8, .int .u64 r9, .int .u64 r10], .int .i64 1]) ∧ Below X.heap.size X X' := by
  have hlt : decide ((n : Int) < (sl : Int)) = true := decide_eq_true hn1
  have HB0 := Aside0.mk (rboxes_start X #[.int .u64 r0, .int .u64 r1, .int .u64 r2, .int .u64 r3, .int .u64 r4, .int .u64 r5, .int .u64 r6, .int .u64 r7, .int .u64 r8, .int .u64 r9, .int .u64 r10] #[.int .u64 0, .int .u64 0, .int .u64 0, .int .u64 0, .int .u64 0, .int .u64 0, .int .u64 0, .int .u64 0, .int .u64 0, .int .u64 0, .int .u64 0])
  obtain ⟨W0, hW0⟩ : ∃ W0, ((X.alloc (.cells #[.int .u64 r0, .int .u64 r1, .int .u64 r2, .int .u64 r3, .int .u64 r4, .int .u64 r5, .int .u64 r6, .int .u64 r7, .int .u64 r8, .int .u64 r9, .int .u64 r10] 32)).alloc (.cells #[.int .u64 0, .int .u64 0, .int .u64 0, .int .u64 0, .int .u64 0, .int .u64 0, .int .u64 0, .int .u64 0, .int .u64 0, .int .u64 0, .int .u64 0] 32)) = W0 := ⟨_, rfl⟩
  have HW0 := Aside0.mk hW0
  rw [hW0] at HB0
  clear hW0
  have HIN : Aside0 ((Tryd.prog.info? 32).map (·.size) = some 11) := ⟨by kernel_rfl⟩
  go_enter Tryd.func19, Tryd.ntmps19
  go_wp2_with fail
  refine (HI.out _ (below_alloc (below_alloc (Below.refl _ _) _) _)).mono ?_
  rintro e w1 ⟨rfl, hb1⟩
  rw [HW0.out] at hb1
  have HBX1 := Aside0.mk (HB0.out.next hb1)
  clear hb1
  have HS5 : Aside0 (∀ Z, Below w1.heap.size w1 Z → ((fun w => ((w.cell? ⟨b, 0, none⟩ = some (.pointer (some ⟨mb, 0, none⟩)) ∧ w.cell? ⟨b, 1, none⟩ = some (.slice (some ⟨g, 0, none⟩) sl c)) ∧ w.cell? ⟨g, n * 6 + 1, none⟩ = some (.int .i64 dk) ∧ w.cell? ⟨g, n * 6 + 2, none⟩ = some (.int .i64 dv)) ∧ w.cell? ⟨X.heap.size, 2, none⟩ = some (.int .u64 r2))) Z) := ⟨fun Z hZ => by
    have hb := HBX1.out.next hZ
    exact ⟨HRC.out Z hb.below, by simp [World.cell?, hb.p]⟩⟩
  have HY5 : Aside0 (∀ Z, Below w1.heap.size w1 Z → Calls Tryd.prog 40 #[.pointer (some ⟨mb, 0, none⟩), .int .u64 r2, .int .i64 dk] Z fun e Z' => (∃ A nn c, e = .returned (.tuple #[.slice A nn c, .bool true]) ∧ Aside0 (Kd.C (Kd.int .u8) Z' A nn key ∧ nn ≤ c ∧ ∀ ad, A = some ad → 0 < nn → Z.heap.size ≤ ad.block)) ∧ ((fun w => ((w.cell? ⟨b, 0, none⟩ = some (.pointer (some ⟨mb, 0, none⟩)) ∧ w.cell? ⟨b, 1, none⟩ = some (.slice (some ⟨g, 0, none⟩) sl c)) ∧ w.cell? ⟨g, n * 6 + 1, none⟩ = some (.int .i64 dk) ∧ w.cell? ⟨g, n * 6 + 2, none⟩ = some (.int .i64 dv)) ∧ w.cell? ⟨X.heap.size, 2, none⟩ = some (.int .u64 r2))) Z' ∧ Aside0 (Below Z.heap.size Z Z' ∧ w1.heap.size ≤ Z.heap.size)) := ⟨fun Z hZ => (HY.out Z (HBX1.out.next hZ).below).mono fun e Z' ⟨h1, h2⟩ => ⟨h1, HS5.out Z' (hZ.trans (h2.out.mono hZ.size)), ⟨h2.out, hZ.size⟩⟩⟩
  go_upto_region 4 with (fail)
  obtain ⟨⟨⟨q0, q1⟩, q2, q3⟩, q4⟩ := HS5.out _ (below_drew (Below.refl _ _))
  go_region_held3 (fun w => ((w.cell? ⟨b, 0, none⟩ = some (.pointer (some ⟨mb, 0, none⟩)) ∧ w.cell? ⟨b, 1, none⟩ = some (.slice (some ⟨g, 0, none⟩) sl c)) ∧ w.cell? ⟨g, n * 6 + 1, none⟩ = some (.int .i64 dk) ∧ w.cell? ⟨g, n * 6 + 2, none⟩ = some (.int .i64 dv)) ∧ w.cell? ⟨X.heap.size, 2, none⟩ = some (.int .u64 r2)) (first | assumption | exact HS5.out _ (by repeat (first | exact Below.refl _ _ | apply below_drew | apply pw_below_drewN))) (first | (go_at_call 40; refine (HY5.out _ (by repeat (first | exact Below.refl _ _ | apply below_drew | apply pw_below_drewN))).mono ?_; rintro e5 w5 ⟨⟨A5, n5, c5, rfl, HR5⟩, hct5, HB5⟩))
  have HBX5 := Aside0.mk (HBX1.out.next ((by repeat (first | exact Below.refl _ _ | apply below_drew | apply pw_below_drewN) : Below w1.heap.size w1 _).trans (HB5.out.1.mono HB5.out.2)))
  have HRW5 : Aside0 (Kd.C (Kd.int .u8) w5 A5 n5 key ∧ n5 ≤ c5 ∧ ∀ ad, A5 = some ad → 0 < n5 → X.heap.size ≤ ad.block) := ⟨HR5.out.1, HR5.out.2.1, fun ad e hn => by have h1 := HR5.out.2.2 ad e hn; have h2 := HB5.out.2; have h3 := HBX1.out.below.size; omega⟩
  clear hct5 q0 q1 q2 q3 q4
  have hp9 := HBX5.out.p
  have hr9 := heap_alloc_new w5 (.cells #[.int .u64 0, .int .u64 0, .int .u64 0, .int .u64 0, .int .u64 0, .int .u64 0, .int .u64 0, .int .u64 0, .int .u64 0, .int .u64 0, .int .u64 0] 32)
  go_wp2_with (first | (refine wpList_load_row rfl _ _ rfl _ rfl _ _ _ _ hp9 Tryd.underlying32 rfl HIN.out ?_) | (refine wpList_store_row rfl _ _ _ rfl _ _ rfl rfl _ _ hr9 HIN.out rfl (one11 _ _ _ _ _ _ _ _ _ _ _) ?_))
  rw [World.setRow_alloc_new]
  obtain ⟨W6, hW6⟩ : ∃ W6, w5.alloc (.cells #[.int .u64 r0, .int .u64 r1, .int .u64 r2, .int .u64 r3, .int .u64 r4, .int .u64 r5, .int .u64 r6, .int .u64 r7, .int .u64 r8, .int .u64 r9, .int .u64 r10] 32) = W6 := ⟨_, rfl⟩
  have HQ6 : Aside0 (W6.heap[w5.heap.size]? = some (.cells #[.int .u64 r0, .int .u64 r1, .int .u64 r2, .int .u64 r3, .int .u64 r4, .int .u64 r5, .int .u64 r6, .int .u64 r7, .int .u64 r8, .int .u64 r9, .int .u64 r10] 32 (0, 0))) := ⟨by rw [← hW6]; exact heap_alloc_new w5 _⟩
  have HB6 : Aside0 (Below w5.heap.size w5 W6) := ⟨by rw [← hW6]; exact below_alloc (Below.refl _ _) _⟩
  rw [hW6]
  obtain ⟨q, hq⟩ : ∃ q, w5.heap.size = q := ⟨_, rfl⟩
  rw [hq] at HQ6 ⊢
  have HQ := Aside0.mk hq
  clear hW6 hq hp9 hr9
  go_loopw [12] (fun v12 wr => ∃ (j : Nat), j ≤ 5 ∧ v12 = .int .i64 ((j + 1 : Nat) : Int) ∧ Aside0 (wr.heap[q]? = some (.cells (zrow #[.int .u64 r0, .int .u64 r1, .int .u64 r2, .int .u64 r3, .int .u64 r4, .int .u64 r5, .int .u64 r6, .int .u64 r7, .int .u64 r8, .int .u64 r9, .int .u64 r10] j) 32 (0, 0))) ∧ Aside0 (Below w5.heap.size w5 wr)) (fun v12 _ => 6 - (intOf v12).toNat)
  case atStart => exact ⟨0, by omega, rfl, HQ6, HB6⟩
  case round =>
    obtain ⟨j, hj, rfl, HQR, HBR⟩ := hrel
    by_cases hj5 : j < 5
    · have HQS : ∀ k, k < 11 → Aside0 ((wr.setCell ⟨q, k, none⟩ (.int .u64 0)).heap[q]? = some (.cells ((zrow #[.int .u64 r0, .int .u64 r1, .int .u64 r2, .int .u64 r3, .int .u64 r4, .int .u64 r5, .int .u64 r6, .int .u64 r7, .int .u64 r8, .int .u64 r9, .int .u64 r10] j).setIfInBounds k (.int .u64 0)) 32 (0, 0))) := fun k hk => ⟨blk_put HQR.out k (.int .u64 0) rfl⟩
      have HBS : ∀ k, Aside0 (Below w5.heap.size w5 (wr.setCell ⟨q, k, none⟩ (.int .u64 0))) := fun k => ⟨HBR.out.setCell (p := ⟨q, k, none⟩) (by rw [HQ.out]; exact Nat.le_refl _) _⟩
      obtain rfl | rfl | rfl | rfl | rfl : j = 0 ∨ j = 1 ∨ j = 2 ∨ j = 3 ∨ j = 4 := by omega
      · have hce : wr.cell? ⟨q, 1, none⟩ = some (.int .u64 r1) := (blk_cell HQR.out 1).trans rfl
        have hfz : wr.frozen? ⟨q, 1, none⟩ = false := by simp [World.frozen?, HQR.out]
        go_wp2_with fail
        exact ⟨⟨1, by omega, rfl, HQS 1 (by decide), HBS 1⟩, by simp [intOf]⟩
      · have hce : wr.cell? ⟨q, 2, none⟩ = some (.int .u64 r2) := (blk_cell HQR.out 2).trans rfl
        have hfz : wr.frozen? ⟨q, 2, none⟩ = false := by simp [World.frozen?, HQR.out]
        go_wp2_with fail
        exact ⟨⟨2, by omega, rfl, HQS 2 (by decide), HBS 2⟩, by simp [intOf]⟩
      · have hce : wr.cell? ⟨q, 3, none⟩ = some (.int .u64 r3) := (blk_cell HQR.out 3).trans rfl
        have hfz : wr.frozen? ⟨q, 3, none⟩ = false := by simp [World.frozen?, HQR.out]
        go_wp2_with fail
        exact ⟨⟨3, by omega, rfl, HQS 3 (by decide), HBS 3⟩, by simp [intOf]⟩
      · have hce : wr.cell? ⟨q, 4, none⟩ = some (.int .u64 r4) := (blk_cell HQR.out 4).trans rfl
        have hfz : wr.frozen? ⟨q, 4, none⟩ = false := by simp [World.frozen?, HQR.out]
        go_wp2_with fail
        exact ⟨⟨4, by omega, rfl, HQS 4 (by decide), HBS 4⟩, by simp [intOf]⟩
      · have hce : wr.cell? ⟨q, 5, none⟩ = some (.int .u64 r5) := (blk_cell HQR.out 5).trans rfl
        have hfz : wr.frozen? ⟨q, 5, none⟩ = false := by simp [World.frozen?, HQR.out]
        go_wp2_with fail
        exact ⟨⟨5, by omega, rfl, HQS 5 (by decide), HBS 5⟩, by simp [intOf]⟩
    · obtain rfl : j = 5 := by omega
      clear hj hj5
      have HBXR := Aside0.mk (HBX5.out.next HBR.out)
      have HQ1 : Aside0 (wr.heap[q]? = some (.cells #[.int .u64 r0, .int .u64 0, .int .u64 0, .int .u64 0, .int .u64 0, .int .u64 0, .int .u64 r6, .int .u64 r7, .int .u64 r8, .int .u64 r9, .int .u64 r10] 32 (0, 0))) := HQR
      clear HQR
      have HS7 : Aside0 (∀ Z, Below wr.heap.size wr Z → ((fun w => ((w.cell? ⟨b, 0, none⟩ = some (.pointer (some ⟨mb, 0, none⟩)) ∧ w.cell? ⟨b, 1, none⟩ = some (.slice (some ⟨g, 0, none⟩) sl c)) ∧ w.cell? ⟨g, n * 6 + 1, none⟩ = some (.int .i64 dk) ∧ w.cell? ⟨g, n * 6 + 2, none⟩ = some (.int .i64 dv)) ∧ w.cell? ⟨X.heap.size, 3, none⟩ = some (.int .u64 r3))) Z) := ⟨fun Z hZ => by
        have hb := HBXR.out.next hZ
        exact ⟨HRC.out Z hb.below, by simp [World.cell?, hb.p]⟩⟩
      have HY7 : Aside0 (∀ Z, Below wr.heap.size wr Z → Calls Tryd.prog 40 #[.pointer (some ⟨mb, 0, none⟩), .int .u64 r3, .int .i64 dv] Z fun e Z' => (∃ A nn c, e = .returned (.tuple #[.slice A nn c, .bool false]) ∧ Aside0 (Kd.C (Kd.int .u8) Z' A nn value ∧ nn ≤ c ∧ ∀ ad, A = some ad → 0 < nn → Z.heap.size ≤ ad.block)) ∧ ((fun w => ((w.cell? ⟨b, 0, none⟩ = some (.pointer (some ⟨mb, 0, none⟩)) ∧ w.cell? ⟨b, 1, none⟩ = some (.slice (some ⟨g, 0, none⟩) sl c)) ∧ w.cell? ⟨g, n * 6 + 1, none⟩ = some (.int .i64 dk) ∧ w.cell? ⟨g, n * 6 + 2, none⟩ = some (.int .i64 dv)) ∧ w.cell? ⟨X.heap.size, 3, none⟩ = some (.int .u64 r3))) Z' ∧ Aside0 (Below Z.heap.size Z Z' ∧ wr.heap.size ≤ Z.heap.size)) := ⟨fun Z hZ => (HZ.out Z (HBXR.out.next hZ).below).mono fun e Z' ⟨h1, h2⟩ => ⟨h1, HS7.out Z' (hZ.trans (h2.out.mono hZ.size)), ⟨h2.out, hZ.size⟩⟩⟩
      go_upto_region 16 with (fail)
      obtain ⟨⟨⟨q0, q1⟩, q2, q3⟩, q4⟩ := HS7.out _ (below_drew (Below.refl _ _))
      go_region_held3 (fun w => ((w.cell? ⟨b, 0, none⟩ = some (.pointer (some ⟨mb, 0, none⟩)) ∧ w.cell? ⟨b, 1, none⟩ = some (.slice (some ⟨g, 0, none⟩) sl c)) ∧ w.cell? ⟨g, n * 6 + 1, none⟩ = some (.int .i64 dk) ∧ w.cell? ⟨g, n * 6 + 2, none⟩ = some (.int .i64 dv)) ∧ w.cell? ⟨X.heap.size, 3, none⟩ = some (.int .u64 r3)) (first | assumption | exact HS7.out _ (by repeat (first | exact Below.refl _ _ | apply below_drew | apply pw_below_drewN))) (first | (go_at_call 40; refine (HY7.out _ (by repeat (first | exact Below.refl _ _ | apply below_drew | apply pw_below_drewN))).mono ?_; rintro e5 w7 ⟨⟨A7, n7, c7, rfl, HR7⟩, hct7, HB7⟩))
      have HBW7 : Aside0 (Below wr.heap.size wr w7) := ⟨((by repeat (first | exact Below.refl _ _ | apply below_drew | apply pw_below_drewN) : Below wr.heap.size wr _).trans (HB7.out.1.mono HB7.out.2))⟩
      have HBXZ := Aside0.mk (HBXR.out.next HBW7.out)
      clear hct7 q0 q1 q2 q3 q4
      have hp9 := HBXZ.out.p
      have hr9 := HBXZ.out.r
      go_wp2_with (first | (refine wpList_load_row rfl _ _ rfl _ rfl _ _ _ _ hp9 Tryd.underlying32 rfl HIN.out ?_) | (refine wpList_store_row rfl _ _ _ rfl _ _ rfl rfl _ _ hr9 HIN.out rfl (one11 _ _ _ _ _ _ _ _ _ _ _) ?_))
      have hl := fun j => cell_setRow_same w7 (X.heap.size + 1) j _ #[.int .u64 r0, .int .u64 r1, .int .u64 r2, .int .u64 r3, .int .u64 r4, .int .u64 r5, .int .u64 r6, .int .u64 r7, .int .u64 r8, .int .u64 r9, .int .u64 r10] _ _ hr9
      exact bodyPost_ret (v := .tuple #[.agg #[.int .u64 r0, .int .u64 r1, .int .u64 r2, .int .u64 r3, .int .u64 r4, .int .u64 r5, .int .u64 r6, .int .u64 r7, .int .u64 r8, .int .u64 r9, .int .u64 r10], .int .i64 1]) (by simp [results, Tryd.results19, go_sem, hl]) rfl ⟨rfl, below_setRow HBXZ.out.below (Nat.le_succ _) _⟩
end Go.Proofs.YtomnfkihieinbaaDoor.PAll
/- helper: the reference's Call by what it answers. -/
set_option linter.unusedVariables false
set_option linter.unusedSimpArgs false
namespace Go.Proofs.YtomnfkihieinbaaDoor.PAll
open Go.RowKit Go.Shelf Go.Maps Go.Proofs.YtomnfkihieinbaaDoorW.PrintWords Go.Proofs.YtomnfkihieinbaaDoorW.PrintLast Go.Proofs.YtomnfkihieinbaaDoorW.PrintMore
def rcallG (S : List MapS) (K : List Reg) (which r1 r2 r3 : Int) : CallR :=
  if (indexF S.length r1).2 = true then
    match bytesF K r2 (defF S (indexF S.length r1).1).f1 with
    | none => ⟨1, 0, S, K⟩
    | some key =>
      if which = 2 then
        match bytesF K r3 (defF S (indexF S.length r1).1).f2 with
        | none => ⟨1, 0, S, K⟩
        | some value => ⟨0, IntKind.u64.wrap (rupdR S (indexF S.length r1).1 key value), rupdS S (indexF S.length r1).1 key value, rupdK S K (indexF S.length r1).1 key value⟩
      else if which = 1 then ⟨0, rlookF S (indexF S.length r1).1 key, S, K⟩
      else ⟨0, IntKind.u64.wrap (rdelR S (indexF S.length r1).1 key), rdelS S (indexF S.length r1).1 key, rdelK S K (indexF S.length r1).1 key⟩
  else ⟨2, 0, S, K⟩
/-- What is kept true of the reference's maps. -/
structure RHG (S : List MapS) (R : List Reg) : Prop where
  good : RGood S
  len : R.length ≤ 99999
  dl : DL R
  addr : ∀ s ∈ S, 1 ≤ s.key ∧ ∀ e ∈ s.ents, 0 ≤ e.2 ∧ e.2 < 18446744073709551616
  key : ∀ s ∈ S, s.key ≤ 64 ∧ 0 ≤ s.value ∧ s.value ≤ 65536
theorem rmm_other {X X' : World} {fr : Nat → Prop} {b mb : Nat} {S : List MapS} {R : List Reg} (h : RMM X fr b mb S R) (hs : X.heap.size ≤ X'.heap.size) (hk : ∀ k, k < X.heap.size → ¬ fr k → X'.heap[k]? = X.heap[k]?) : RMM X' fr b mb S R := by
  obtain ⟨v, lvs, qss, h⟩ := h
  exact ⟨v, lvs, qss, h.other hs hk⟩
theorem rindex_C {X : World} {fr : Nat → Prop} {b mb : Nat} {S : List MapS} {R : List Reg} (h : RMM X fr b mb S R) (hS : S.length ≤ 255) {r1 : Int} (h0 : 0 ≤ r1) (h1 : r1 < 18446744073709551616) (i : Int) (ok : Bool) (hx : indexF S.length r1 = (i, ok)) : Aside0 (RIndexC X b r1 i ok) :=
  ⟨fun W hb => by
    obtain ⟨v, lvs, qss, h2⟩ := h.below hb
    obtain ⟨_, own, _, h3⟩ := h2.left
    have := rindex_c W own b mb v lvs qss S r1 h3 hS h0 h1
    rw [hx] at this
    exact this⟩
theorem rbytes_C {X : World} {fr : Nat → Prop} {b mb : Nat} {S : List MapS} {R : List Reg} (h : RMM X fr b mb S R) (hR : R.length ≤ 99999) {a n : Int} (h0 : 0 ≤ a) (h1 : a < 18446744073709551616) (hn0 : 0 ≤ n) (hn1 : n ≤ 65536) (o : Option (List Int)) (ho : bytesF R a n = o) : Aside0 (RBytesC X mb a n o.isSome (o.getD [])) :=
  ⟨fun W hb => by
    subst ho
    obtain ⟨v, lvs, qss, h2⟩ := h.below hb
    refine (rm_bytes W fr mb R a n h2.swap.left (by omega) h0 h1 (by omega) (by omega)).mono ?_
    intro e X' hp
    obtain ⟨hb2, v, rfl, hR⟩ := hp
    obtain ⟨A, c, rfl, hc, hC⟩ := (byteS_R hR).C
    refine ⟨⟨A, _, c, rfl, ⟨hC, hc, fun ad e hn => ?_⟩⟩, ⟨hb2⟩⟩
    subst e
    exact ((byteS_R hR).own ad.block rfl).1⟩
theorem rcell_C {X : World} {fr : Nat → Prop} {b mb : Nat} {S : List MapS} {R : List Reg} (h : RMM X fr b mb S R) {n : Nat} {s : MapS} (hs : S[n]? = some s) : ∃ g c, Aside0 (RCellC X b mb g c S.length n s.key s.value) := by
  obtain ⟨v, lvs, qss, h2⟩ := h
  obtain ⟨_, own, _, h3⟩ := h2.left
  obtain ⟨_, _, _, h0, _⟩ := rp_head h3
  obtain ⟨g, c, A, lc, hR⟩ := rp_at h3 hs
  exact ⟨g, c, ⟨fun w hb => ⟨⟨pw_cell_below hb h0, pw_cell_below hb hR.c1⟩, pw_cell_below hb hR.key, pw_cell_below hb hR.value⟩⟩⟩
/-- What stands behind the call. -/
def RQC (fr : Nat → Prop) (X : World) (b mb : Nat) (S : List MapS) (R : List Reg) (W X' : World) : Prop := RMM X' (fun k => fr k ∨ (X.heap.size ≤ k ∧ k < W.heap.size)) b mb S R ∧ Kept fr X X'
theorem rqc_ok {fr : Nat → Prop} {X : World} {b mb : Nat} {S : List MapS} {R : List Reg} (hF : ∀ k, fr k → k < X.heap.size) : Aside0 (QPok X (RQC fr X b mb S R)) :=
  ⟨fun W X' X'' ⟨h1, h2⟩ ho => ⟨rmm_other h1 ho.size (fun k hk hn => ho.block k hk (fun hq => hn (.inr hq))), h2.trans (ho.mono (fun k _ hq hf => by have := hF k hf; omega))⟩⟩
theorem rfin_post {P : Program} {fr : Nat → Prop} {X W : World} {b mb f : Nat} {S : List MapS} {R : List Reg} {args : Array Value} {v : Value} (hb : Below X.heap.size X W)
    (hc : Calls P f args W fun e X' => e = .returned v ∧ RMM X' (fun k => fr k ∨ (X.heap.size ≤ k ∧ k < W.heap.size)) b mb S R ∧ Kept (fun k => fr k ∨ (X.heap.size ≤ k ∧ k < W.heap.size)) W X') :
    Calls P f args W fun e X' => e = .returned v ∧ RQC fr X b mb S R W X' ∧ W.heap.size ≤ X'.heap.size ∧ ∀ k, X.heap.size ≤ k → k < W.heap.size → X'.heap[k]? = W.heap[k]? :=
  hc.mono fun e X' ⟨he, hm, hk⟩ => ⟨he, ⟨hm, (below_kept hb fr).trans (hk.mono (fun k h => .inl h))⟩, hk.size, fun k h1 h2 => hk.block h2 (.inr ⟨h1, h2⟩)⟩
theorem rqc_done {fr : Nat → Prop} {X : World} {b mb : Nat} {S : List MapS} {R : List Reg} {X' : World} (h : ∃ W, Below X.heap.size X W ∧ RQC fr X b mb S R W X') : RMM X' fr b mb S R ∧ Kept fr X X' := by
  obtain ⟨W, _, h1, h2⟩ := h
  exact ⟨h1.weaken (fun k hk => .inl hk), h2⟩
theorem C_new {fr : Nat → Prop} {X W X' : World} {A : Option Addr} {n : Nat} {l : List Int} (h : Kd.C (Kd.int .u8) W A n l) (ha : ∀ ad, A = some ad → 0 < n → X.heap.size ≤ ad.block ∧ ad.block < W.heap.size) (hk : Kept (fun k => fr k ∨ (X.heap.size ≤ k ∧ k < W.heap.size)) W X') : Kd.C (Kd.int .u8) X' A n l :=
  C_kept h (fun ad e hn => .inr (ha ad e hn)) hk
theorem index_at {S : List MapS} {r1 i : Int} (hx : indexF S.length r1 = (i, true)) : ∃ (n : Nat) (s : MapS), i = (n : Int) ∧ S[n]? = some s ∧ n < S.length := by
  have h := index_ok (n := S.length) (h := r1) (by rw [hx])
  rw [hx] at h
  dsimp only at h
  obtain ⟨n, rfl⟩ := Int.eq_ofNat_of_zero_le h.1
  have hl : n < S.length := by have := h.2; omega
  exact ⟨n, S[n], rfl, List.getElem?_eq_getElem hl, hl⟩
theorem defF_at {S : List MapS} {n : Nat} {s : MapS} (h : S[n]? = some s) : (defF S (n : Int)).f1 = s.key ∧ (defF S (n : Int)).f2 = s.value := by
  have : getP S (n : Int) = some s := by unfold getP; rw [if_pos (by omega), Int.toNat_natCast]; exact h
  unfold defF
  rw [this]
  exact ⟨rfl, rfl⟩
set_option maxHeartbeats 1000000 in
set_option maxRecDepth 100000 in
theorem rcall_ok (X : World) (fr : Nat → Prop) (b mb : Nat) (S : List MapS) (R : List Reg) (which r0 r1 r2 r3 r4 r5 r6 r7 r8 r9 r10 : Int) (h : RMM X fr b mb S R) (hg : RHG S R) (h10 : 0 ≤ r1) (h11 : r1 < 18446744073709551616) (h20 : 0 ≤ r2) (h21 : r2 < 18446744073709551616) (h30 : 0 ≤ r3) (h31 : r3 < 18446744073709551616) (hw : which = 1 ∨ which = 2 ∨ which = 3)
    (x : Int) (S' : List MapS) (R' : List Reg) (hc : rcallG S R which r1 r2 r3 = ⟨0, x, S', R'⟩) :
    Calls Tryd.prog 19 #[.pointer (some ⟨b, 0, none⟩), .int .i64 which, .agg #[.int .u64 r0, .int .u64 r1, .int .u64 r2, .int .u64 r3, .int .u64 r4, .int .u64 r5, .int .u64 r6, .int .u64 r7, .int .u64 r8, .int .u64 r9, .int .u64 r10]] X fun e X' =>
      e = .returned (.tuple #[.agg #[.int .u64 x, .int .u64 0, .int .u64 0, .int .u64 0, .int .u64 0, .int .u64 0, .int .u64 r6, .int .u64 r7, .int .u64 r8, .int .u64 r9, .int .u64 r10], .int .i64 0]) ∧ RMM X' fr b mb S' R' ∧ Kept fr X X' := by
  obtain ⟨i, ok, hix⟩ : ∃ i ok, indexF S.length r1 = (i, ok) := ⟨_, _, rfl⟩
  have hlow : ∀ k, fr k → k < X.heap.size := by obtain ⟨_, _, _, h2⟩ := h; exact h2.1
  unfold rcallG at hc
  rw [hix] at hc
  cases ok with
  | false => simp at hc
  | true =>
    have HI := rindex_C h hg.good.1 h10 h11 i true hix
    obtain ⟨n, s, rfl, hs, hn⟩ := index_at hix
    obtain ⟨d1, d2⟩ := defF_at hs
    have hsm := List.mem_of_getElem? hs
    have hsk := hg.key s hsm
    have hs1 := (hg.addr s hsm).1
    obtain ⟨g, c, HRC⟩ := rcell_C h hs
    have hn1 : (n : Int) < (S.length : Int) := by omega
    rw [if_pos rfl] at hc
    dsimp only at hc
    rw [d1, d2] at hc
    cases hk : bytesF R r2 s.key with
    | none => rw [hk] at hc; simp at hc
    | some key =>
      rw [hk] at hc
      dsimp only at hc
      obtain ⟨kb, kl⟩ := bytes_wf hg.dl hk (by omega)
      have HY : Aside0 (RBytesC X mb r2 s.key true key) := rbytes_C h hg.len h20 h21 (by omega) (by omega) _ hk
      rcases hw with rfl | rfl | rfl
      · rw [if_neg (by decide), if_pos rfl] at hc
        cases hc
        refine (rcall_look X b mb g c S.length n r0 r1 r2 r3 r4 r5 r6 r7 r8 r9 r10 _ _ _ HI HRC (by omega) hn1 key (RQC fr X b mb S R) HY (rqc_ok hlow) ⟨fun W A1 n1 c1 hb hk1 hc1 ha1 => rfin_post hb ?_⟩).mono fun e X' ⟨he, hq⟩ => ⟨he, rqc_done hq⟩
        obtain rfl : n1 = key.length := hk1.1.symm
        obtain ⟨v, lvs, qss, h2⟩ := h.more hb
        obtain ⟨_, own, _, h3⟩ := h2.left
        refine (rlookup_c W own b mb v lvs qss S n A1 c1 key h3 hg.good hk1 hc1 kl _ rfl).mono ?_
        rintro e X' ⟨rfl, k, rfl⟩
        have hbk : Below W.heap.size W (W.drewN k) := pw_below_drewN (Below.refl _ _) k
        exact ⟨rfl, ⟨v, lvs, qss, h2.below hbk⟩, below_kept hbk _⟩
      · rw [if_pos rfl] at hc
        cases hv : bytesF R r3 s.value with
        | none => rw [hv] at hc; simp at hc
        | some value =>
          rw [hv] at hc
          dsimp only at hc
          cases hc
          obtain ⟨vb, vl⟩ := bytes_wf hg.dl hv (by omega)
          have HZ : Aside0 (RBytesC X mb r3 s.value true value) := rbytes_C h hg.len h30 h31 (by omega) (by omega) _ hv
          refine (rcall_upd X b mb g c S.length n r0 r1 r2 r3 r4 r5 r6 r7 r8 r9 r10 _ _ _ (rupdR S n key value) HI HRC (by omega) hn1 key value (RQC fr X b mb _ _) (rqc_ok hlow) ⟨fun W A1 n1 c1 A2 n2 c2 hb hk1 hc1 ha1 hk2 hc2 ha2 => rfin_post hb ?_⟩ rfl HY HZ).mono fun e X' ⟨he, hq⟩ => ⟨he, rqc_done hq⟩
          obtain rfl : n1 = key.length := hk1.1.symm
          obtain rfl : n2 = value.length := hk2.1.symm
          exact rupdate_c W _ b mb S R n A1 A2 c1 c2 key value (h.more hb) hg.good hg.len hg.addr (fun X' hX => C_new hk1 ha1 hX) hc1 kl (fun X' hX => C_new hk2 ha2 hX) vb vl hc2 (fun hp ad e => .inr (ha2 ad e hp))
      · rw [if_neg (by decide), if_neg (by decide)] at hc
        cases hc
        refine (rcall_del X b mb g c S.length n r0 r1 r2 r3 r4 r5 r6 r7 r8 r9 r10 _ _ _ (rdelR S n key) HI HRC (by omega) hn1 key (RQC fr X b mb _ _) HY (rqc_ok hlow) ⟨fun W A1 n1 c1 hb hk1 hc1 ha1 => rfin_post hb ?_⟩ rfl).mono fun e X' ⟨he, hq⟩ => ⟨he, rqc_done hq⟩
        obtain rfl : n1 = key.length := hk1.1.symm
        exact rdelete_c W _ b mb S R n A1 c1 key (h.more hb) hg.good hg.len hk1 hc1 kl
set_option maxHeartbeats 1000000 in
set_option maxRecDepth 100000 in
theorem rcall_fault (X : World) (fr : Nat → Prop) (b mb : Nat) (S : List MapS) (R : List Reg) (which r0 r1 r2 r3 r4 r5 r6 r7 r8 r9 r10 : Int) (h : RMM X fr b mb S R) (hg : RHG S R) (h10 : 0 ≤ r1) (h11 : r1 < 18446744073709551616) (h20 : 0 ≤ r2) (h21 : r2 < 18446744073709551616) (h30 : 0 ≤ r3) (h31 : r3 < 18446744073709551616) (hw : which = 1 ∨ which = 2 ∨ which = 3)
    (f : Int) (hc : (rcallG S R which r1 r2 r3).fault = f) (hf : f ≠ 0) :
    Calls Tryd.prog 19 #[.pointer (some ⟨b, 0, none⟩), .int .i64 which, .agg #[.int .u64 r0, .int .u64 r1, .int .u64 r2, .int .u64 r3, .int .u64 r4, .int .u64 r5, .int .u64 r6, .int .u64 r7, .int .u64 r8, .int .u64 r9, .int .u64 r10]] X fun e X' =>
      e = .returned (.tuple #[.agg #[.int .u64 r0, .int .u64 r1, .int .u64 r2, .int .u64 r3, .int .u64 r4, .int .u64 r5, .int .u64 r6, .int .u64 r7, .int .u64 r8, .int .u64 r9, .int .u64 r10], .int .i64 f]) ∧ Below X.heap.size X X' := by
  obtain ⟨i, ok, hix⟩ : ∃ i ok, indexF S.length r1 = (i, ok) := ⟨_, _, rfl⟩
  unfold rcallG at hc
  rw [hix] at hc
  cases ok with
  | false =>
    have HI := rindex_C h hg.good.1 h10 h11 i false hix
    simp at hc
    subst hc
    exact rcall_bad X b mb 0 0 0 0 r0 r1 r2 r3 r4 r5 r6 r7 r8 r9 r10 0 0 i which HI
  | true =>
    have HI := rindex_C h hg.good.1 h10 h11 i true hix
    obtain ⟨n, s, rfl, hs, hn⟩ := index_at hix
    obtain ⟨d1, d2⟩ := defF_at hs
    have hsm := List.mem_of_getElem? hs
    have hsk := hg.key s hsm
    have hs1 := (hg.addr s hsm).1
    obtain ⟨g, c, HRC⟩ := rcell_C h hs
    have hn1 : (n : Int) < (S.length : Int) := by omega
    rw [if_pos rfl] at hc
    dsimp only at hc
    rw [d1, d2] at hc
    cases hk : bytesF R r2 s.key with
    | none =>
      rw [hk] at hc
      dsimp only at hc
      subst hc
      have HY : Aside0 (RBytesC X mb r2 s.key false []) := rbytes_C h hg.len h20 h21 (by omega) (by omega) _ hk
      exact rcall_nokey X b mb g c S.length n r0 r1 r2 r3 r4 r5 r6 r7 r8 r9 r10 _ _ which HI HRC (by omega) hn1 [] HY
    | some key =>
      rw [hk] at hc
      dsimp only at hc
      have HY : Aside0 (RBytesC X mb r2 s.key true key) := rbytes_C h hg.len h20 h21 (by omega) (by omega) _ hk
      rcases hw with rfl | rfl | rfl
      · rw [if_neg (by decide), if_pos rfl] at hc
        exact absurd hc.symm hf
      · rw [if_pos rfl] at hc
        cases hv : bytesF R r3 s.value with
        | none =>
          rw [hv] at hc
          dsimp only at hc
          subst hc
          have HZ : Aside0 (RBytesC X mb r3 s.value false []) := rbytes_C h hg.len h30 h31 (by omega) (by omega) _ hv
          exact rcall_noval X b mb g c S.length n r0 r1 r2 r3 r4 r5 r6 r7 r8 r9 r10 _ _ HI HRC (by omega) hn1 key [] HY HZ
        | some value =>
          rw [hv] at hc
          exact absurd hc.symm hf
      · rw [if_neg (by decide), if_neg (by decide)] at hc
        exact absurd hc.symm hf
end Go.Proofs.YtomnfkihieinbaaDoor.PAll
