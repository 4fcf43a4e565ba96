/- mem: slices.Backward over bytes, Read. -/
import Derived.Test.YtlolhmocimaobaaMemW5
import Derived.RangeFuncNested
import Derived.RangeFuncBound
import Derived.RangeFuncCalls
import Derived.RangeFuncLeaves
import Derived.Shelf.Abstract
import Derived.Shelf.RegionOpen
import Derived.OwnWalkIn
import Derived.TacticsInMore
import Derived.LoopNIn
import Derived.LoopIn
import Derived.RangeFuncFrom
import Derived.Laws.BitsAllLaws
set_option linter.unusedVariables false
set_option linter.unusedSimpArgs false
namespace Go.Proofs.Ytlolhmocimaobaa.PAll
open Go.RowKit Go.Shelf Go.Proofs.YtlolhmocimaobaaW.PrintWords Go.Proofs.YtlolhmocimaobaaW.PrintLast Go.Proofs.YtlolhmocimaobaaW.PrintMore
attribute [local go_sem] Oper.semAt_some
/-- The bytes from the last to the first, with their places. -/
def backL : Nat → List Int → List (Int × Int)
  | 0, _ => []
  | k + 1, xs => ((k : Int), rd xs k) :: backL k xs
theorem backL_length (k : Nat) (xs : List Int) : (backL k xs).length = k := by
  induction k with
  | zero => rfl
  | succ k ih => simp [backL, ih]
def encB (x : Int × Int) : Array Value := #[.int .i64 x.1, .int .u8 x.2]
/-- What a round keeps: what lay ahead of the call, and the box of the slice. -/
def Keep (n₀ Bn : Nat) (W W' : World) : Prop := Below n₀ W W' ∧ ∀ o : Obj, W.heap[Bn]? = some o → o.isCells = true → W'.heap[Bn]? = some o
theorem Keep.trans {n₀ Bn : Nat} {A B C : World} (h : Keep n₀ Bn A B) (k : Keep n₀ Bn B C) : Keep n₀ Bn A C :=
  ⟨h.1.trans k.1, fun o ho hc => k.2 o (h.2 o ho hc) hc⟩
theorem Keep.book {n₀ Bn : Nat} {w : World} (hn : n₀ ≤ w.heap.size) (W : World) (l : Nat) (o o' : Obj) (hl : w.heap.size ≤ l) (h : W.heap[l]? = some o) (hc : o.isCells = false) (hw : o.isWalk = false) : Keep n₀ Bn W (W.putObj l o') :=
  ⟨belowK_b hn W l o o' hl h hc hw, fun q hq hqc => by
    rw [World.putObj_heap_other (fun e => by subst e; rw [h] at hq; cases hq; rw [hc] at hqc; cases hqc)]
    exact hq⟩
set_option maxRecDepth 100000 in
set_option maxHeartbeats 4000000 in
theorem back1_in (n : Nat) (hn : 1 ≤ n) (l Bn n₀ : Nat) (A0 : Option Addr) (c0 : Nat) (xs : List Int) (J Jx : List (Int × Int) → World → Prop)
    (hm : xs.length ≤ 1099511627776)
    (hY : ∀ pre x W, J pre W → pre.length < xs.length → YieldAt Fence.wide (n - 1) Try.prog l (encB x) W fun e W' =>
      (e = .returned (.bool true) ∧ J (pre ++ [x]) W' ∧ Keep n₀ Bn W W') ∨ (e = .returned (.bool false) ∧ Jx (pre ++ [x]) W'))
    (W : World) (hBn : W.heap[Bn]? = some (.cells #[.slice A0 xs.length c0] 32 (0, 0))) (hC : ∀ W', Below n₀ W W' → Kd.C (Kd.int .u8) W' A0 xs.length xs) (h0 : J [] W) :
    CallsIn Fence.wide n Try.prog 43 #[.func (.yield l) #[] #[], .pointer (some ⟨Bn, 0, none⟩)] W fun e W' => (∃ v, e = .returned v) ∧
      ((∃ ys, ys = backL xs.length xs ∧ J ys W') ∨ (∃ pre, pre <+: backL xs.length xs ∧ Jx pre W')) := by
  refine callsIn_of_wp Try.func43 rfl trivial ?_ rfl
  simp only [Try.ntmps43, List.size_toArray, List.length_cons, List.length_nil, Nat.reduceAdd, Nat.reduceSub, Array.replicate_succ, Array.replicate_zero, List.push_toArray, List.append_toArray, List.nil_append, List.cons_append]
  have hbox0 := (blk_cell hBn 0).trans rfl
  gi_wp2
  gi_loopw [3] (fun v3 wr => ∃ (pre : List (Int × Int)) (k : Nat), v3 = .int .i64 ((k : Int) - 1) ∧ k ≤ xs.length ∧ Aside0 (backL xs.length xs = pre ++ backL k xs) ∧ Aside0 (J pre wr) ∧ Aside0 (wr.heap[Bn]? = some (.cells #[.slice A0 xs.length c0] 32 (0, 0))) ∧ Aside0 (Below n₀ W wr)) (fun v3 _ => (intOf v3 + 1).toNat)
  case atStart => exact ⟨[], xs.length, rfl, Nat.le_refl _, ⟨rfl⟩, ⟨h0⟩, ⟨hBn⟩, ⟨Below.refl _ _⟩⟩
  case round =>
    obtain ⟨pre, k, rfl, hk, HX, HJ, HBn, HB⟩ := hrel
    have hbox := (blk_cell HBn.out 0).trans rfl
    cases k with
    | zero =>
      gi_wp2
      go_end0
      exact ⟨⟨_, rfl⟩, .inl ⟨pre, by rw [HX.out]; simp [backL], HJ.out⟩⟩
    | succ k =>
      have hlen : pre.length < xs.length := by
        have := congrArg List.length HX.out
        rw [List.length_append, backL_length, backL_length] at this
        omega
      obtain ⟨ad, e, hx⟩ := Kd.at_int (hC _ HB.out) (k : Int) (by omega) (by omega)
      rw [Int.toNat_natCast] at hx
      have HC' := Aside0.mk hC
      have HY' := Aside0.mk hY
      cases e
      rw [show ((((k + 1 : Nat) : Nat) : Int) - 1) = (k : Int) by omega]
      obtain ⟨fn, tmps, assign, body, hy, hR⟩ := HY'.out pre ((k : Int), rd xs k) wr HJ.out hlen
      dsimp only [encB] at hy
      clear hC hY hBn h0 hbox0
      gi_wp2
      refine hR.mono ?_
      rintro e W3 (⟨rfl, hJ3, hk3⟩ | ⟨rfl, hJx3⟩)
      · have HBn3 := Aside0.mk (hk3.2 _ HBn.out rfl)
        have HJ3 := Aside0.mk hJ3
        have HB3 := Aside0.mk (HB.out.trans hk3.1)
        clear hJ3 hk3 hy
        gi_wp2
        refine ⟨⟨pre ++ [((k : Int), rd xs k)], k, rfl, by omega, ⟨by rw [HX.out]; simp [backL]⟩, HJ3, HBn3, HB3⟩, by simp [intOf]⟩
      · clear hy
        gi_wp2
        refine bodyPost_ret (results_none rfl _ _ _) rfl ?_
        exact ⟨⟨_, rfl⟩, .inr ⟨pre ++ [((k : Int), rd xs k)], ⟨backL k xs, by rw [HX.out]; simp [backL]⟩, hJx3⟩⟩
set_option maxHeartbeats 1000000 in
/-- Backward hands back the closure over the box of the slice. -/
theorem back_in (n : Nat) (v : Value) (hv : v.oneCell' = true) (w : World) :
    CallsIn Fence.wide n Try.prog 34 #[v] w fun e w' => e = .returned (.func (.func 43) #[] #[.pointer (some ⟨w.heap.size, 0, none⟩)]) ∧ w' = w.alloc (.cells #[v] 32) := by
  refine callsIn_of_wp Try.func34 rfl trivial ?_ rfl
  simp only [Try.ntmps34, List.size_toArray, List.length_cons, List.length_nil, Nat.reduceAdd, Nat.reduceSub, Array.replicate_succ, Array.replicate_zero, List.push_toArray, List.append_toArray, List.nil_append, List.cons_append]
  have hmf : ∀ (fn : Fn) (first cap : Array Value) (w : World), (Instr.makeFunc fn first cap).run Try.prog w = .ok (.func fn first cap) w := fun _ _ _ _ => rfl
  gi_wp2
  go_ret
  exact ⟨rfl, rfl⟩
theorem back_stops (n : Nat) (hn : 1 ≤ n) (Bn n₀ : Nat) (A0 : Option Addr) (c0 : Nat) (xs : List Int) (hm : xs.length ≤ 1099511627776) (w : World)
    (hBn : w.heap[Bn]? = some (.cells #[.slice A0 xs.length c0] 32 (0, 0))) (hC : ∀ W', Below n₀ w W' → Kd.C (Kd.int .u8) W' A0 xs.length xs) (hn0 : n₀ ≤ w.heap.size) :
    SeqStopsK Fence.wide n Try.prog 43 #[.pointer (some ⟨Bn, 0, none⟩)] encB (Keep n₀ Bn) (fun ys => ys = backL xs.length xs) (fun pre => pre <+: backL xs.length xs) xs.length w := fun l J Jx W hW hJ _ hY h0 =>
  back1_in n hn l Bn n₀ A0 c0 xs J Jx hm hY W ((hW.block Bn (Array.getElem?_eq_some_iff.1 hBn).1).trans hBn) (fun W' hb => hC W' ((hW.mono hn0).trans hb)) h0
/-- The number whose bytes are read from the last to the first. -/
def valB (l : List (Int × Int)) : Int := l.foldl (fun x it => x * 256 + it.2) 0
theorem valB_snoc (l : List (Int × Int)) (y : Int × Int) : valB (l ++ [y]) = valB l * 256 + y.2 := by unfold valB; rw [List.foldl_append]; rfl
theorem valB_range : ∀ (k : Nat) (l : List (Int × Int)), l.length = k → (∀ x ∈ l, 0 ≤ x.2 ∧ x.2 < 256) → 0 ≤ valB l ∧ valB l < 256 ^ k := by
  intro k
  induction k with
  | zero =>
    intro l hl _
    obtain rfl := List.eq_nil_of_length_eq_zero hl
    exact ⟨Int.le_refl _, by decide⟩
  | succ k ih =>
    intro l hl h
    obtain ⟨l', y, rfl⟩ : ∃ l' y, l = l' ++ [y] := ⟨l.dropLast, l.getLast (by intro e; rw [e] at hl; simp at hl), (List.dropLast_concat_getLast _).symm⟩
    rw [List.length_append, List.length_singleton] at hl
    obtain ⟨h1, h2⟩ := ih l' (by omega) (fun x hx => h x (List.mem_append_left _ hx))
    have hy := h y (List.mem_append_right _ List.mem_cons_self)
    rw [valB_snoc, Int.pow_succ]
    omega
/-- The number as the machine builds it, for any bytes at all. -/
def valM (l : List (Int × Int)) : Int := l.foldl (fun x it => bits .or .u64 (IntKind.u64.wrap (x * 256)) (IntKind.u64.wrap it.2)) 0
theorem valM_snoc (l : List (Int × Int)) (y : Int × Int) : valM (l ++ [y]) = bits .or .u64 (IntKind.u64.wrap (valM l * 256)) (IntKind.u64.wrap y.2) := by unfold valM; rw [List.foldl_append]; rfl
theorem or_byte (v c : Int) (h1 : 0 ≤ v) (h2 : v < 72057594037927936) (h3 : 0 ≤ c) (h4 : c < 256) : bits .or .u64 (IntKind.u64.wrap (v * 256)) (IntKind.u64.wrap c) = v * 256 + c := by
  rw [u64_mod, u64_mod, Int.emod_eq_of_lt (by omega) (by omega), Int.emod_eq_of_lt (by omega) (by omega), u64_or _ _ (by omega) (by omega) (by omega) (by omega)]
  obtain ⟨V, rfl⟩ := Int.eq_ofNat_of_zero_le h1
  obtain ⟨C, rfl⟩ := Int.eq_ofNat_of_zero_le h3
  rw [show ((V : Int) * 256).toNat = 2 ^ 8 * V by omega, Int.toNat_natCast, ← Nat.two_pow_add_eq_or_of_lt (by omega : C < 2 ^ 8)]
  omega
theorem valM_eq : ∀ (k : Nat) (l : List (Int × Int)), l.length = k → k ≤ 8 → (∀ x ∈ l, 0 ≤ x.2 ∧ x.2 < 256) → valM l = valB l := by
  intro k
  induction k with
  | zero =>
    intro l hl _ _
    obtain rfl := List.eq_nil_of_length_eq_zero hl
    rfl
  | succ k ih =>
    intro l hl hk h
    obtain ⟨l', y, rfl⟩ : ∃ l' y, l = l' ++ [y] := ⟨l.dropLast, l.getLast (by intro e; rw [e] at hl; simp at hl), (List.dropLast_concat_getLast _).symm⟩
    rw [List.length_append, List.length_singleton] at hl
    have h' : ∀ x ∈ l', 0 ≤ x.2 ∧ x.2 < 256 := fun x hx => h x (List.mem_append_left _ hx)
    obtain ⟨h1, h2⟩ := valB_range k l' (by omega) h'
    have hy := h y (List.mem_append_right _ List.mem_cons_self)
    have hp : (256 : Int) ^ k ≤ 72057594037927936 := by
      obtain rfl | rfl | rfl | rfl | rfl | rfl | rfl | rfl : k = 0 ∨ k = 1 ∨ k = 2 ∨ k = 3 ∨ k = 4 ∨ k = 5 ∨ k = 6 ∨ k = 7 := by omega
      all_goals decide
    rw [valM_snoc, valB_snoc, ih l' (by omega) (by omega) h']
    exact or_byte _ _ h1 (by omega) hy.1 hy.2
theorem backL_mem (xs : List Int) (h : ∀ x ∈ xs, 0 ≤ x ∧ x < 256) : ∀ (k : Nat), k ≤ xs.length → ∀ x ∈ backL k xs, 0 ≤ x.2 ∧ x.2 < 256 := by
  intro k
  induction k with
  | zero => intro _ x hx; cases hx
  | succ k ih =>
    intro hk x hx
    rcases List.mem_cons.1 hx with rfl | hx
    · exact h _ (by simp [rd, List.getElem?_eq_getElem (show k < xs.length by omega)])
    · exact ih (by omega) x hx
def leV (xs : List Int) : Int := valB (backL xs.length xs)
def readF (L : List Reg) (a n : Int) : Int × Bool := if numB n then match bytesF L a n with | none => (0, false) | some bs => (leV bs, true) else (0, false)
def ReadPost (X : World) (L : List Reg) (a n : Int) (e : Ending) (X' : World) : Prop := e = .returned (.tuple #[.int .u64 (readF L a n).1, .bool (readF L a n).2]) ∧ Below X.heap.size X X'
/-- What lies in the boxes behind some rounds. -/
structure RI (w : World) (Bx : Nat) (pre : List (Int × Int)) (W : World) : Prop where
  x : Boxed W Bx 31 (.int .u64 (valM pre))
  c : ∃ v, Boxed W (Bx + 1) 32 v
  b : Below w.heap.size w W
theorem box_turn {W W' : World} {row : Option Nat} {B : Nat} {t : TypeId} {v : Value} (h : Boxed W B t v) (hg : W.grownBy W' row) (hr : ∀ r, row = some r → ∃ o : Obj, W.heap[r]? = some o ∧ o.isCells = false) : Boxed W' B t v :=
  h.kept hg (fun e => by
    obtain ⟨o, ho, hc⟩ := hr B e.symm
    rw [show W.heap[B]? = _ from h] at ho; cases ho; cases hc)
theorem RI.own (w : World) (Bx B : Nat) (hB : w.heap.size ≤ B) : OwnFrom B (RI w Bx) := fun s W W' row h hg hr => by
  have hr' : ∀ r, row = some r → ∃ o : Obj, W.heap[r]? = some o ∧ o.isCells = false := fun r e => (hr r e).2
  obtain ⟨u, hu⟩ := h.c
  exact ⟨box_turn h.x hg hr', ⟨u, box_turn hu hg hr'⟩, h.b.grown hg h.b.size (fun k e => Nat.le_trans hB (hr k e).1)⟩
set_option maxHeartbeats 8000000 in
set_option maxRecDepth 100000 in
theorem mem_Read (X : World) (B : Nat) (own : Nat → Prop) (m : Nat) (L : List Reg) (a n : Int) (h : MemAt X B own m L) (hI : Inv L) (hl : L.length ≤ 1000000) (ha0 : 0 ≤ a) (ha1 : a < 18446744073709551616) (hn0 : -9223372036854775808 ≤ n) (hn1 : n < 9223372036854775808) :
    Calls Try.prog 18 #[.pointer (some ⟨m, 0, none⟩), .int .u64 a, .int .i64 n] X (ReadPost X L a n) := by
  obtain ⟨v, ps, hM⟩ := h
  have HM := Aside0.mk hM
  have HI := Aside0.mk hI
  have hA := Aside0.mk (mem_part X B own m L v ps a n hM hI hl ha0 ha1 hn0 hn1)
  have heq := fun (W : World) (b : Option Addr) (n c : Nat) => Lib.run_eql_slice_nil (P := Try.prog) W 32 5 b n c 0 0 Try.underlying32
  have HN := Aside0.mk (fun W => mem_number.calls n _ W (number_f n))
  clear hM hI ha0 ha1 hn0 hn1
  cases hf : L.findIdx? (hitR a n) with
  | none =>
    have HF : Aside0 (readF L a n = (0, false)) := ⟨by unfold readF bytesF; rw [hf]; simp⟩
    have HE : Aside0 (∀ e X', PartPost X B L ps a n e X' → e = .returned (.slice none 0 0) ∧ Below X.heap.size X X') := ⟨fun e X' hp => by unfold PartPost at hp; rw [hf] at hp; exact ⟨hp.2, hp.1⟩⟩
    clear hf
    go_enter Try.func18, Try.ntmps18
    go_wp2_with fail
    refine hA.out.mono ?_
    intro e X' hp
    obtain ⟨rfl, hb⟩ := HE.out e X' hp
    have HB := Aside0.mk hb
    clear hp hb
    go_wp2_with fail
    go_ret2
    unfold ReadPost
    rw [HF.out]
    exact ⟨rfl, HB.out⟩
  | some k =>
    have HE : Aside0 (∀ e X', PartPost X B L ps a n e X' → Below X.heap.size X X' ∧ ∃ (p : Nat × Nat) (r : Reg) (cap : Nat), ps[k]? = some p ∧ L[k]? = some r ∧ hitR a n r = true ∧ X.ownsRow B 5 1 (.slice (some ⟨p.2, 0, none⟩) r.data.length cap) r.data.length (nums .u8 r.data) ∧ e = .returned (.slice (some ⟨p.2, (a - r.base).toNat, none⟩) n.toNat (cap - (a - r.base).toNat))) := ⟨fun e X' hp => by unfold PartPost at hp; rw [hf] at hp; exact hp⟩
    by_cases hn : numB n = true
    · rw [hn] at HN
      have hn2 : n = 1 ∨ n = 2 ∨ n = 4 ∨ n = 8 := of_decide_eq_true hn
      obtain ⟨nn, rfl⟩ : ∃ nn : Nat, n = nn := ⟨n.toNat, by omega⟩
      have hnn : 1 ≤ nn ∧ nn ≤ 8 := by omega
      clear hn2
      refine (callsIn_wide (n := 6)).1 ?_
      refine callsIn_of_wp_marks Try.func18 rfl trivial ?_ rfl
      simp only [Try.ntmps18, List.size_toArray, List.length_cons, List.length_nil, Nat.reduceAdd, Nat.reduceSub, Array.replicate_succ, Array.replicate_zero, List.push_toArray, List.append_toArray, List.nil_append, List.cons_append]
      gi_wp2_with fail
      refine ⟨trivial, ?_⟩
      refine (callsIn_wide.2 hA.out).mono ?_
      intro e X' hp
      obtain ⟨hb, p, r, cap, hpk, hrk, hhit, hrow, rfl⟩ := HE.out e X' hp
      obtain ⟨hh1, hh2, hh3⟩ := hit_iff.1 hhit
      obtain ⟨off, hoff⟩ : ∃ off : Nat, (a - r.base).toNat = off := ⟨_, rfl⟩
      obtain ⟨bs, hbs⟩ : ∃ bs, (r.data.drop off).take nn = bs := ⟨_, rfl⟩
      have hreg := HM.out.reg k p r hpk hrk
      have hbl : bs.length = nn := by rw [← hbs, List.length_take, List.length_drop]; omega
      have HF : Aside0 (readF L a nn = (leV bs, true)) := ⟨by unfold readF bytesF; rw [if_pos hn, hf]; dsimp only; rw [hrk]; dsimp only; rw [hoff, Int.toNat_natCast, hbs]⟩
      have HW : Aside0 (∀ x ∈ bs, 0 ≤ x ∧ x < 256) := ⟨fun x hx => HI.out.wf r (List.mem_of_getElem? hrk) x (by rw [← hbs] at hx; exact List.mem_of_mem_drop (List.mem_of_mem_take hx))⟩
      have HC : Aside0 (∀ W', Below X'.heap.size X' W' → Kd.C (Kd.int .u8) W' (some ⟨p.2, off, none⟩) bs.length bs) := ⟨fun W' hb' => by
        have h1 := sub_C (row_keep hrow (fun k hk => by cases hk; exact hb.block p.2 hreg.lt.2)) (show off + nn ≤ r.data.length by omega) (by omega)
        rw [hbs] at h1
        rw [hbl]
        exact Kd.C_below h1 hb'⟩
      rw [hoff, Int.toNat_natCast]
      have HB := Aside0.mk hb
      subst hbl
      clear hp hb hpk hrk hhit hrow hh1 hh2 hh3 hoff hbs hreg hf hn
      obtain ⟨hnn1, hnn2⟩ := hnn
      gi_wp2_with (first | (refine ⟨trivial, ?_⟩; gi_at_call 32; refine (callsIn_wide.2 (HN.out _)).mono ?_; rintro e w2 ⟨rfl, hd⟩; have HD := Aside0.mk hd.below; clear hd) | (refine ⟨trivial, ?_⟩; gi_at_call 34; refine (back_in 5 _ rfl _).mono ?_; rintro e w3 ⟨rfl, rfl⟩))
      have hbx := Boxed.new w2 31 (.int .u64 0)
      have hbc := Boxed.new (w2.alloc (.cells #[.int .u64 0] 31)) 32 (.slice (some ⟨p.2, off, none⟩) bs.length (cap - off))
      simp only [World.size_alloc] at hbc
      have hst : RI w2 w2.heap.size [] ((w2.alloc (.cells #[.int .u64 0] 31)).alloc (.cells #[.slice (some ⟨p.2, off, none⟩) bs.length (cap - off)] 32)) := ⟨hbx.alloc _, ⟨_, hbc⟩, below_alloc (below_alloc (Below.refl _ _) _) _⟩
      obtain ⟨W0, hW0⟩ : ∃ W0, ((w2.alloc (.cells #[.int .u64 0] 31)).alloc (.cells #[.slice (some ⟨p.2, off, none⟩) bs.length (cap - off)] 32)) = W0 := ⟨_, rfl⟩
      have hsz : W0.heap.size = w2.heap.size + 2 := by rw [← hW0]; simp
      rw [hW0] at hst hbc ⊢
      refine wpIn_rangeFunc_ownF (w0 := W0) rfl (by omega) (gf := 43) (lb := #[.pointer (some ⟨w2.heap.size + 1, 0, none⟩)]) rfl trivial (enters_of Try.func43 (by kernel_rfl) rfl)
        (back_stops 5 (by omega) (w2.heap.size + 1) w2.heap.size (some ⟨p.2, off, none⟩) (cap - off) bs (by omega) W0 hbc (fun W' hb => HC.out W' (HD.out.trans ((hst.b.trans hb).mono HD.out.size))) (by omega))
        Keep.trans (Keep.book (by omega)) (Below.refl _ _) (fun _ => rfl)
        (RI w2 w2.heap.size) (fun c pre W => False) (RI.own w2 _ _ (by omega)) (fun c s W W' row h hg hr => h) hst
        (fun x => { tmps := #[.pointer (some ⟨m, 0, none⟩), .int .u64 a, .int .i64 bs.length, undef, undef, undef, .int .u64 0, .bool false, .slice (some ⟨p.2, off, none⟩) bs.length (cap - off), .pointer (some ⟨w2.heap.size, 0, none⟩), undef, .int .u8 x.2, .pointer (some ⟨m, 0, none⟩), .int .u64 a, .int .i64 bs.length,
          .slice (some ⟨p.2, off, none⟩) bs.length (cap - off), .slice (some ⟨p.2, off, none⟩) bs.length (cap - off), .bool false, .bool false, .int .i64 bs.length, .bool true, .bool false, .bool false, .slice (some ⟨p.2, off, none⟩) bs.length (cap - off), .func (.func 43) #[] #[.pointer (some ⟨w2.heap.size + 1, 0, none⟩)], .int .i64 x.1, .int .u8 x.2, undef, undef, undef, undef, undef, undef], defers := [] }) ?assign ?body ?done ?stop
      case assign =>
        intro l x W K hK
        unfold encB
        gi_wp2
        exact hK
      case body =>
        rintro l pre x W hI hlen
        obtain ⟨v, hv⟩ := hI.c
        have e1 := hI.x.cell
        have f1 := hI.x.frozen
        gi_wp2
        have g := grownBy_setCell' W w2.heap.size (.int .u64 (bits BinOp.or IntKind.u64 (IntKind.u64.wrap (valM pre * 256)) (IntKind.u64.wrap x.2)))
        have k2 := hI.x.set (.int .u64 (bits BinOp.or IntKind.u64 (IntKind.u64.wrap (valM pre * 256)) (IntKind.u64.wrap x.2)))
        rw [← valM_snoc] at k2 g ⊢
        have hv2 := hv.kept g (fun e => by injection e with e; omega)
        have setB : Below w2.heap.size W (W.setCell ⟨w2.heap.size, 0, none⟩ (.int .u64 (valM (pre ++ [x])))) := Below.setCell (p := ⟨w2.heap.size, 0, none⟩) (Below.refl w2.heap.size W) (Nat.le_refl w2.heap.size) _
        have hb := below_set hI.b (Nat.le_refl w2.heap.size) (j := 0) (v := .int .u64 (valM (pre ++ [x])))
        refine ⟨KeepsOthers.setCell _ _ _, ⟨setB, fun o ho _ => ?_⟩, k2, ⟨v, hv2⟩, hb⟩
        rw [show W.heap[w2.heap.size + 1]? = _ from hv] at ho
        cases ho
        exact hv2
      case done =>
        rintro D ys W hD hys hI hK
        have e1 := hI.x.cell
        have f1 := hI.x.frozen
        gi_wp2
        refine ⟨by simp, .inl ⟨_, _, rfl, run_takeDeferred hK, ?_⟩⟩
        refine ⟨.tuple #[.int .u64 (valM (backL bs.length bs)), .bool true], by simp [results, Try.f18, go_sem], ?_⟩
        unfold ReadPost
        rw [HF.out, leV, valM_eq bs.length _ (backL_length _ _) hnn2 (backL_mem bs HW.out _ (Nat.le_refl _))]
        exact ⟨rfl, ((HB.out.trans (HD.out.mono HB.out.size)).trans (hI.b.mono (Nat.le_trans HB.out.size HD.out.size))).trans (belowK_b (w := X) (Nat.le_refl _) W D _ _ (Nat.le_trans (Nat.le_trans HB.out.size HD.out.size) (by omega)) hK rfl rfl)⟩
      case stop =>
        rintro D c pre W hD hpre hf hK
        exact hf.elim
    · have hn' : numB n = false := by simpa using hn
      rw [hn'] at HN
      have HF : Aside0 (readF L a n = (0, false)) := ⟨by unfold readF; rw [if_neg hn]⟩
      clear hf hn hn'
      go_enter Try.func18, Try.ntmps18
      go_wp2_with fail
      refine hA.out.mono ?_
      intro e X' hp
      obtain ⟨hb, p, r, cap, hpk, hrk, hhit, hrow, rfl⟩ := HE.out e X' hp
      have HB := Aside0.mk hb
      clear hp hb hpk hrk hhit hrow
      go_wp2_with (go_at_call 32; refine (HN.out _).mono ?_; rintro e w2 ⟨rfl, ⟨nd, rfl⟩⟩)
      go_ret2
      unfold ReadPost
      rw [HF.out]
      exact ⟨rfl, below_then HB.out HB.out.size (pw_below_drewN (Below.refl _ _) _)⟩
end Go.Proofs.Ytlolhmocimaobaa.PAll
