-- By a program of this session (xp.py) over the kit's print, with texts of this session.
import Derived.Test.YtnpjfkleoijbiaaPAllx0
import Derived.Test.YtnpjfkleoijbiaaPAllx1
import Derived.Test.YtnpjfkleoijbiaaPAllx2
import Derived.Laws.CopyOwn
import Derived.Lib.BufferWrite
import Derived.WalkSpells
import Derived.StillTailTactics
import Derived.Test.YtnpjfkleoijbiaaBoxPure
namespace Go.Proofs.Ytnpjfkleoijbiaa.PAll
open Go.RowKit Go.Proofs.YtnpjfkleoijbiaaW.PrintWords Go.Proofs.YtnpjfkleoijbiaaW.PrintLast Go.Proofs.YtnpjfkleoijbiaaW.PrintMore
attribute [local go_sem] max2_int min2_int max_two min_two max_three min_three max_four min_four   -- for this text's walks alone
set_option linter.unusedVariables false
set_option linter.unusedSimpArgs false

-- EXTERN
-- XIMPORT Derived.Laws.CopyOwn Derived.Lib.BufferWrite Derived.WalkSpells Derived.StillTailTactics Derived.Test.YtnpjfkleoijbiaaBoxPure
/-! ### box.Write: function 11 -/
def box_Write.f (l0 : List S50) : Option (List Int × Int) := if Sane l0 then (if wcheck l0 = 0 then some (wbytes l0, 0) else some ([], wcheck l0)) else none
theorem wcheck_le (l : List S50) (h : wcheck l = 0) : l.length ≤ 16 ∧ wsize l ≤ 1073741824 ∧ kindsOk 0 l = true := by
  unfold wcheck at h
  split at h
  · cases h
  · split at h
    · rename_i h1 h2; exact ⟨by omega, by omega, h2⟩
    · cases h
set_option maxHeartbeats 4000000 in
set_option maxRecDepth 100000 in
theorem box_Write.bad (A0 : Option Addr) (c0 : Nat) (l0 : List S50) (w : World) (hr0 : Kd.C k50 w A0 l0.length l0) (hc0 : l0.length ≤ c0) (hs : Sane l0) (hz : wcheck l0 ≠ 0) :
    Calls Try.prog 11 #[.slice A0 l0.length c0] w fun e w' => e = .returned (.tuple #[.slice none 0 0, .int .i64 (wcheck l0)]) ∧ Below w.heap.size w w' := by
  have HR0 := Aside0.mk hr0
  have HC0 := Aside0.mk hc0
  have HF := Aside0.mk (check_f l0 hs (l0.length + 2) (by omega))
  have hz1 : (wcheck l0 != 0) = true := by simpa using hz
  clear hr0 hc0 hs hz
  go_enter Try.func11, Try.ntmps11
  go_wp2_with (first | ((with_reducible refine gate_callee (f := 24) rfl ?_); refine goesL_ (some 11) rfl rfl Try.func24 (by kernel_rfl) rfl #[.slice A0 l0.length c0] rfl (by (try simp only [List.map_toArray, List.map_cons, List.map_nil]); first | done | rfl) ?_; (with_reducible refine (box_check.calls (l0.length + 2) _ _ l0 (wcheck l0) _ ?side1 ?side2 HF.out).mono ?_); (case side1 => exact HR0.out); (case side2 => exact HC0.out); rintro e w' ⟨rfl, hb⟩; refine ⟨_, rfl, ?_⟩; have HB := Aside0.mk hb; clear hb))
  go_ret2
  exact ⟨rfl, HB.out⟩

section
variable {P : Program} {ops : Array Oper} {rest : List Oper} {o : Oper} {a : Act} {Q : Exit → Act → World → Prop}
theorem wpList_copy_str {w : World} (hgd : o.guard = none) (d s : Operand) (dT sT : TypeId)
    (ho : o.op = .call { callee := .builtin .copy, args := #[d, s], argTypes := #[dT, sT] }) (elem : TypeId) (hu : P.underlying dT = some (.slice elem)) (hsz : (P.info? elem).map (·.size) = some 1)
    (g off dLen dCap : Nat) (y : ByteArray) (hd : a.eval d = .slice (some ⟨g, off, none⟩) dLen dCap) (hs : a.eval s = .string y)
    (cur : List Value) (t : TypeId) (hg : w.heap[g]? = some (.cells cur.toArray t (0, 0))) (hle : y.size ≤ dLen) (hfit : off + y.size ≤ cur.length)
    (h : ∀ w', Hid (w'.heap[g]? = some (.cells (splice cur off (nums .u8 (bytesOf y))).toArray t (0, 0))) → w.grownBy w' (some g) → wpList P ops Q rest (a.put o.dst (goInt y.size)) w') :
    wpList P ops Q (o :: rest) a w := by
  refine wpList_plain hgd fun K hK => ?_
  have hrun := Lib.run_copy_row_string (P := P) w dT sT o.type elem g off dLen dCap y cur.toArray t hu hsz hg hle (by simpa using hfit)
  unfold Oper.wp
  simp only [execOp, ho, resolve, invoke, builtin]
  simp [hd, hs, hrun, Result.andThen]
  refine hK _ _ (h _ (show _ = _ from ?_) ⟨rfl, rfl, rfl, by simp [World.setRow], fun k hk hne => setRow_other w g k _ (by simpa using hne)⟩)
  rw [setRow_heap w g _ _ t _ hg]
  simp [splice, nums, bytesOf, Lib.byteCells, bytesOf_length]
end
theorem info5s : (Try.prog.info? 5).map (·.size) = some 1 := by kernel_rfl
theorem made_row (w : World) (m : Nat) : (w.alloc (.cells (madeCells #[.int .u8 0] m) 5)).heap[w.heap.size]? = some (.cells (nums .u8 (List.replicate m 0)).toArray 5 (0, 0)) := by
  rw [heap_alloc_new]
  congr 2
  apply Array.ext'
  apply List.ext_getElem
  · simp [nums, size_madeCells]
  · intro i h1 h2
    simp [madeCells, nums, Nat.mod_one]
theorem below_grown_new {w0 w w' : World} (h : Below w0.heap.size w0 w) (o : Obj) (hg : (w.alloc o).grownBy w' (some w.heap.size)) : Below w0.heap.size w0 w' :=
  (below_alloc h o).grown hg (Nat.le_trans h.size (by simp)) (fun _ e_ => by cases e_; exact h.size)
/-- Zeros overwritten. -/
theorem fill (A Y B : List Int) (n off : Nat) (hoff : off = A.length) (hk : Y.length ≤ n) :
    splice (nums .u8 (A ++ (List.replicate n 0 ++ B))) off (nums .u8 Y) = nums .u8 (A ++ Y ++ (List.replicate (n - Y.length) 0 ++ B)) := by
  subst hoff
  obtain ⟨q, rfl⟩ : ∃ q, n = Y.length + q := ⟨n - Y.length, by omega⟩
  rw [Nat.add_sub_cancel_left, ← List.replicate_append_replicate]
  have e1 : (nums .u8 (A ++ (List.replicate Y.length 0 ++ List.replicate q 0 ++ B))).take A.length = nums .u8 A := by
    rw [nums_append]; exact List.take_left' (nums_length _ _)
  have e2 : (nums .u8 (A ++ (List.replicate Y.length 0 ++ List.replicate q 0 ++ B))).drop (A.length + Y.length) = nums .u8 (List.replicate q 0 ++ B) := by
    rw [show A ++ (List.replicate Y.length 0 ++ List.replicate q 0 ++ B) = (A ++ List.replicate Y.length 0) ++ (List.replicate q 0 ++ B) by rw [List.append_assoc, List.append_assoc], nums_append]
    exact List.drop_left' (by simp [nums_length])
  rw [splice, nums_length, e1, e2]
  simp [nums_append]
theorem set_at (g off n k c : Nat) (x : Int) (A B : List Int) (w : World) (hg : w.heap[g]? = some (.cells (nums .u8 (A ++ (List.replicate n 0 ++ B))).toArray 5 (0, 0))) (hk : k ≤ 8) (hoff : off = A.length) (hn : k ≤ n) :
    Calls Try.prog 25 #[.slice (some ⟨g, off, none⟩) k c, .int .i64 x] w fun e w' => e = .returned (.tuple #[]) ∧ Hid (w'.heap[g]? = some (.cells (nums .u8 (A ++ le k x ++ (List.replicate (n - k) 0 ++ B))).toArray 5 (0, 0))) ∧ w.grownBy w' (some g) := by
  refine (set_sub g off k c x _ w hg hk (by rw [nums_length]; simp; omega)).mono ?_
  rintro e w' ⟨rfl, h1, h2⟩
  refine ⟨rfl, ?_, h2⟩
  have h3 := h1.out
  rw [fill A (le k x) B n off hoff (by rw [le_length]; exact hn), le_length] at h3
  exact h3
theorem str_at : nums .u8 (bytesOf ⟨#[83, 76, 67, 49]⟩) = nums .u8 [83, 76, 67, 49] := by rfl
theorem two_far {w : World} {g gb : Nat} {o : Obj} (h : w.heap[g]? = some o) (hne : g < gb) (a b : Value) : ((w.setCell ⟨gb, 0, none⟩ a).setCell ⟨gb, 1, none⟩ b).heap[g]? = some o := by
  rw [Below.heap_setCell _ _ _ _ (by simp; omega), Below.heap_setCell _ _ _ _ (by simp; omega)]; exact h
theorem two_c0 {w : World} {gb : Nat} {x y : Value} {t : TypeId} (h : w.heap[gb]? = some (.cells #[x, y] t (0, 0))) (a b : Value) : ((w.setCell ⟨gb, 0, none⟩ a).setCell ⟨gb, 1, none⟩ b).cell? ⟨gb, 0, none⟩ = some a :=
  (blk_cell (blk_set (blk_set h 0 a) 1 b) 0).trans rfl
theorem two_c1 {w : World} {gb : Nat} {x y : Value} {t : TypeId} (h : w.heap[gb]? = some (.cells #[x, y] t (0, 0))) (a b : Value) : ((w.setCell ⟨gb, 0, none⟩ a).setCell ⟨gb, 1, none⟩ b).cell? ⟨gb, 1, none⟩ = some b :=
  (blk_cell (blk_set (blk_set h 0 a) 1 b) 1).trans rfl
theorem below_step_grown {w w1 w2 : World} {g : Nat} (hg : w1.grownBy w2 (some g)) (h : Below w.heap.size w w1) (hle : w.heap.size ≤ g) : Below w.heap.size w w2 :=
  h.grown hg h.size (fun _ e_ => by cases e_; exact hle)
theorem lt_of_blk {w : World} {g : Nat} {o : Obj} (h : w.heap[g]? = some o) : g < w.heap.size := (Array.getElem?_eq_some_iff.1 h).1
def atN (l : List S50) (i : Nat) : Nat := headN l.length + datas (l.take i)
/-- What lies in the row behind i rounds. -/
def rowAt (l : List S50) (m i : Nat) : List Int :=
  hdrB l.length m ++ rowsB (headN l.length) (l.take i) ++ (List.replicate (12 * (l.length - i) + (headN l.length - (16 + 12 * l.length))) 0 ++ (bodyB (l.take i) ++ List.replicate (m - atN l i) 0))
theorem rowAt_zero (l : List S50) (m : Nat) (hn : l.length ≤ 16) (hm : wsize l = m) : rowAt l m 0 = [83, 76, 67, 49] ++ le 2 1 ++ le 2 l.length ++ le 4 m ++ (List.replicate (m - 4 - 2 - 2 - 4) 0 ++ []) := by
  have hH := upN_ge (16 + 12 * l.length)
  have hw : m = headN l.length + datas l := by rw [← hm]; rfl
  have hHd : headN l.length = upN (16 + 12 * l.length) := rfl
  unfold rowAt atN hdrB
  simp only [List.take_zero, rowsB, bodyB, datas, List.append_nil, List.nil_append, Nat.add_zero, Nat.sub_zero, List.append_assoc]
  congr 4
  rw [List.replicate_append_replicate, List.replicate_append_replicate]
  congr 1
  omega
theorem rowAt_step (l : List S50) (m i : Nat) (hi : i < l.length) (hm : wsize l = m) : ∃ (A Bd : List Int) (K Z : Nat),
    rowAt l m i = A ++ (List.replicate K 0 ++ (Bd ++ List.replicate Z 0)) ∧ A.length = 16 + 12 * i ∧ 12 ≤ K ∧ A.length + K + Bd.length = atN l i ∧ (rd_T50 l (i : Int)).f1.length ≤ Z ∧ Z = m - atN l i ∧ atN l i ≤ m ∧
    rowAt l m (i + 1) = A ++ le 4 (rd_T50 l (i : Int)).f0 ++ le 4 (atN l i) ++ le 4 (rd_T50 l (i : Int)).f1.length ++ List.replicate (K - 4 - 4 - 4) 0 ++ Bd ++ (rd_T50 l (i : Int)).f1 ++ (List.replicate (Z - (rd_T50 l (i : Int)).f1.length) 0 ++ []) ∧
    atN l (i + 1) = atN l i + upN (rd_T50 l (i : Int)).f1.length := by
  obtain ⟨s, r, hd⟩ : ∃ s r, l.drop i = s :: r := by
    cases h : l.drop i with
    | nil => have := List.drop_eq_nil_iff.mp h; omega
    | cons s r => exact ⟨s, r, rfl⟩
  obtain ⟨hd2, _, hl⟩ := drop_next hd
  have hs := rdT_at l i s r hd
  have htk : l.take (i + 1) = l.take i ++ [s] := by
    rw [List.take_add_one]
    have : l[i]? = some s := by rw [← List.head?_drop, hd]; rfl
    rw [this]; rfl
  have hsum : datas l = datas (l.take i) + (upN s.f1.length + datas r) := by
    conv => lhs; rw [← List.take_append_drop i l, datas_append, hd]
    rfl
  have hu := upN_ge s.f1.length
  have hH := upN_ge (16 + 12 * l.length)
  have hmt : m = headN l.length + datas l := by rw [← hm]; rfl
  have e1 : atN l (i + 1) = atN l i + upN s.f1.length := by
    unfold atN; rw [htk, datas_append]; simp [datas, Nat.add_assoc]
  have e0 : atN l i = headN l.length + datas (l.take i) := rfl
  have hHd : headN l.length = upN (16 + 12 * l.length) := rfl
  rw [hs]
  refine ⟨hdrB l.length m ++ rowsB (headN l.length) (l.take i), bodyB (l.take i), 12 * (l.length - i) + (headN l.length - (16 + 12 * l.length)), m - atN l i, rfl, ?_, by omega, ?_, by omega, rfl, by omega, ?_, e1⟩
  · rw [List.length_append, hdrB_length, rowsB_length, List.length_take]; omega
  · rw [List.length_append, hdrB_length, rowsB_length, List.length_take, bodyB_length]; omega
  · unfold rowAt
    rw [htk, rowsB_append, bodyB_append, e1]
    simp only [rowsB, bodyB, List.append_assoc, List.append_nil]
    rw [show headN l.length + datas (l.take i) = atN l i from rfl]
    congr 5
    rw [show 12 * (l.length - (i + 1)) + (headN l.length - (16 + 12 * l.length)) = 12 * (l.length - i) + (headN l.length - (16 + 12 * l.length)) - 4 - 4 - 4 by omega]
    congr 3
    rw [List.replicate_append_replicate]
    congr 1
    omega
theorem rowAt_end (l : List S50) (m : Nat) (hm : wsize l = m) : rowAt l m l.length = wbytes l := by
  have hw : m = headN l.length + datas l := by rw [← hm]; rfl
  unfold rowAt atN wbytes
  rw [List.take_length, show m - (headN l.length + datas l) = 0 by omega, Nat.sub_self, Nat.mul_zero, Nat.zero_add, hm]
  simp [List.append_assoc]
theorem row_end (l : List S50) (m : Nat) (hb : m ≤ 1073741824) (hm : wsize l = m) {w wr : World} {g : Nat} (h : wr.heap[g]? = some (.cells (nums .u8 (rowAt l m l.length)).toArray 5 (0, 0))) (hg : w.heap.size ≤ g) :
    Kd.R (Kd.int .u8) 5 wr w.heap.size (fun _ => True) (.slice (some ⟨g, 0, none⟩) m m) (wbytes l) := by
  rw [rowAt_end l m hm] at h
  have hl : (wbytes l).length = m := by rw [wbytes_length, hm]
  refine Kd.R_of_own ?_ (fun _ _ => trivial)
  refine ⟨by simp [encs], .inr ⟨g, m, _, by rw [hl], hg, h, by omega, ?_, by simp [nums_length, hl], ?_⟩⟩
  · simp only [maxLen]; omega
  · rw [hl, Nat.mul_one, List.take_of_length_le (by simp [nums_length, hl])]; rfl
section
variable {P : Program} {ops : Array Oper} {rest : List Oper} {o : Oper} {a : Act} {Q : Exit → Act → World → Prop}
/-- As wpList_copy_splice, but what is told of the world is that one row alone was written. -/
theorem wpList_copy_grown {w : World} (hgd : o.guard = none) (d s : Operand) (dT sT : TypeId)
    (ho : o.op = .call { callee := .builtin .copy, args := #[d, s], argTypes := #[dT, sT] }) (elem : TypeId) (hu : P.underlying dT = some (.slice elem)) (hsz : (P.info? elem).map (·.size) = some 1)
    (dp sp : Option Addr) (dLen dCap sLen sCap : Nat) (hd : a.eval d = .slice dp dLen dCap) (hs : a.eval s = .slice sp sLen sCap)
    (g off : Nat) (cur : List Value) (t : TypeId) (hg : w.heap[g]? = some (.cells cur.toArray t (0, 0))) (cs : List Value) (hn : cs.length = Nat.min sLen dLen)
    (hpos : 0 < cs.length → dp = some ⟨g, off, none⟩ ∧ ∃ ad, sp = some ad ∧ ∀ j v, cs[j]? = some v → w.cell? (ad.add j) = some v)
    (hfit : off + cs.length ≤ cur.length) (h1 : ∀ v ∈ cs, v.oneCell' = true)
    (h : ∀ w', Hid (w'.heap[g]? = some (.cells (splice cur off cs).toArray t (0, 0))) → w.grownBy w' (some g) → wpList P ops Q rest (a.put o.dst (goInt cs.length)) w') :
    wpList P ops Q (o :: rest) a w := by
  by_cases h0 : cs.length = 0
  · obtain rfl : cs = [] := List.eq_nil_of_length_eq_zero h0
    refine wpList_copy_nothing hgd d s dT sT ho elem hu hsz dp sp dLen dCap sLen sCap hd hs (by simpa using hn.symm) ?_
    exact h w (show _ = _ by simpa [splice] using hg) (World.grownBy.refl w _)
  · obtain ⟨rfl, ad, rfl, hsrc⟩ := hpos (by omega)
    refine wpList_copy_own hgd d s dT sT ho elem hu hsz g off dLen dCap ad sLen sCap hd hs cur.toArray t hg cs hn hsrc (by simpa using hfit) h1 ?_
    exact h _ (show _ = _ by simpa [splice] using setRow_heap w g _ _ t _ hg) ⟨rfl, rfl, rfl, by simp [World.setRow], fun k hk hne => setRow_other w g k _ (by simpa using hne)⟩
end
set_option maxHeartbeats 8000000 in
set_option maxRecDepth 100000 in
theorem box_Write.good (A0 : Option Addr) (c0 : Nat) (l0 : List S50) (w : World) (hr0 : Kd.C k50 w A0 l0.length l0) (hc0 : l0.length ≤ c0) (hs : Sane l0) (hz : wcheck l0 = 0) :
    Calls Try.prog 11 #[.slice A0 l0.length c0] w fun e w' => ∃ v0_ : Value, e = .returned (.tuple #[v0_, .int .i64 0]) ∧ Kd.R (Kd.int .u8) 5 w' w.heap.size (fun _ => True) v0_ (wbytes l0) ∧ Below w.heap.size w w' := by
  have HR0 := Aside0.mk hr0
  have HC0 := Aside0.mk hc0
  have HF := Aside0.mk (check_f l0 hs (l0.length + 2) (by omega))
  have HS := Aside0.mk (size_f l0 hs (l0.length + 2) (by omega))
  obtain ⟨hn, hm, hk⟩ := wcheck_le l0 hz
  have hmh : 16 + 12 * l0.length ≤ wsize l0 := by have := upN_ge (16 + 12 * l0.length); unfold wsize headN; omega
  rw [hz] at HF
  obtain ⟨m, hm1⟩ : ∃ m, m = wsize l0 := ⟨_, rfl⟩
  rw [← hm1] at HS hm hmh
  have HM := Aside0.mk hm1
  have HKO := Aside0.mk hk
  have HSA := Aside0.mk hs
  have HU := Aside0.mk (show box_up.f (16 + 12 * (l0.length : Int)) = some ((headN l0.length : Nat) : Int) from by have h_ := up_f (16 + 12 * l0.length) (by omega); simpa [headN] using h_)
  clear hr0 hc0 hz hs hm1 hk
  have hmk := print_make (P := Try.prog) 25 5 .u8 1 Try.underlying25 info5 (by decide) m (by omega)
  go_enter Try.func11, Try.ntmps11
  go_wp2_with (first | ((with_reducible refine gate_callee (f := 24) rfl ?_); refine goesL_ (some 11) rfl rfl Try.func24 (by kernel_rfl) rfl #[.slice A0 l0.length c0] rfl (by (try simp only [List.map_toArray, List.map_cons, List.map_nil]); first | done | rfl) ?_; (with_reducible refine (box_check.calls (l0.length + 2) _ _ l0 0 _ ?side1 ?side2 HF.out).mono ?_); (case side1 => exact HR0.out); (case side2 => exact HC0.out); rintro e w1 ⟨rfl, hb⟩; refine ⟨_, rfl, ?_⟩; have HB := Aside0.mk hb; clear hb) | ((with_reducible refine gate_callee (f := 13) rfl ?_); refine goesL_ (some 16) rfl rfl Try.func13 (by kernel_rfl) rfl #[.slice A0 l0.length c0] rfl (by (try simp only [List.map_toArray, List.map_cons, List.map_nil]); first | done | rfl) ?_; (with_reducible refine (box_Size.calls (l0.length + 2) _ _ l0 m _ ?side1 ?side2 HS.out).mono ?_); (case side1 => exact Kd.C_below HR0.out HB.out); (case side2 => exact HC0.out); rintro e w2 ⟨rfl, hb⟩; refine ⟨_, rfl, ?_⟩; have HB2 := Aside0.mk (below_step HB.out hb); clear hb HB) | ((with_reducible refine gate_builtin (b := .copy) (xs := #[.tmp 18, .const (.string ⟨#[83, 76, 67, 49]⟩)]) rfl ?_); refine wpList_copy_str rfl (.tmp 18) (.const (.string ⟨#[83, 76, 67, 49]⟩)) 25 9 rfl 5 Try.underlying25 info5s w2.heap.size 0 m m ⟨#[83, 76, 67, 49]⟩ rfl rfl (nums .u8 ([] ++ (List.replicate m 0 ++ []))) 5 ?hg ?hle ?hfit ?_; (case hg => simpa using made_row w2 m); (case hle => (show 4 ≤ m; omega)); (case hfit => (rw [nums_length]; simp; show 4 ≤ m; omega)); intro w3 hg3 hgr3; have HG3 := Aside0.mk (show w3.heap[w2.heap.size]? = some (.cells (nums .u8 ([83, 76, 67, 49] ++ (List.replicate (m - 4) 0 ++ []))).toArray 5 (0, 0)) from by have h_ := hg3.out; rw [str_at, fill [] [83, 76, 67, 49] [] m 0 rfl (by simp; omega)] at h_; exact h_); have HB3 := Aside0.mk (below_grown_new HB2.out _ hgr3); clear hg3 hgr3) | ((with_reducible refine gate_callee (f := 25) rfl ?_); refine goesL_ (some 22) rfl rfl Try.func25 (by kernel_rfl) rfl #[.slice (some ⟨w2.heap.size, 4, none⟩) 2 2, .int .i64 1] rfl (by (try simp only [List.map_toArray, List.map_cons, List.map_nil]); first | done | rfl) ?_; (with_reducible refine (set_at w2.heap.size 4 (m - 4) 2 2 1 [83, 76, 67, 49] [] _ HG3.out (by omega) rfl (by omega)).mono ?_); rintro e w4 ⟨rfl, hg_, hgr_⟩; refine ⟨_, rfl, ?_⟩; have HG4 := Aside0.mk hg_.out; have HB4 := Aside0.mk (HB3.out.grown hgr_ HB3.out.size (fun _ e_ => by cases e_; exact HB2.out.size)); clear hg_ hgr_ HG3 HB3) | ((with_reducible refine gate_callee (f := 25) rfl ?_); refine goesL_ (some 27) rfl rfl Try.func25 (by kernel_rfl) rfl #[.slice (some ⟨w2.heap.size, 6, none⟩) 2 2, .int .i64 l0.length] rfl (by (try simp only [List.map_toArray, List.map_cons, List.map_nil]); first | done | rfl) ?_; (with_reducible refine (set_at w2.heap.size 6 (m - 4 - 2) 2 2 l0.length ([83, 76, 67, 49] ++ le 2 1) [] _ HG4.out (by omega) rfl (by omega)).mono ?_); rintro e w5 ⟨rfl, hg_, hgr_⟩; refine ⟨_, rfl, ?_⟩; have HG5 := Aside0.mk hg_.out; have HB5 := Aside0.mk (HB4.out.grown hgr_ HB4.out.size (fun _ e_ => by cases e_; exact HB2.out.size)); clear hg_ hgr_ HG4 HB4) | ((with_reducible refine gate_callee (f := 25) rfl ?_); refine goesL_ (some 32) rfl rfl Try.func25 (by kernel_rfl) rfl #[.slice (some ⟨w2.heap.size, 8, none⟩) 4 4, .int .i64 m] rfl (by (try simp only [List.map_toArray, List.map_cons, List.map_nil]); first | done | rfl) ?_; (with_reducible refine (set_at w2.heap.size 8 (m - 4 - 2 - 2) 4 4 m ([83, 76, 67, 49] ++ le 2 1 ++ le 2 l0.length) [] _ HG5.out (by omega) rfl (by omega)).mono ?_); rintro e w6 ⟨rfl, hg_, hgr_⟩; refine ⟨_, rfl, ?_⟩; have HG6 := Aside0.mk hg_.out; have HB6 := Aside0.mk (HB5.out.grown hgr_ HB5.out.size (fun _ e_ => by cases e_; exact HB2.out.size)); clear hg_ hgr_ HG5 HB5) | ((with_reducible refine gate_callee (f := 26) rfl ?_); refine goesL_ (some 37) rfl rfl Try.func26 (by kernel_rfl) rfl #[.int .i64 (16 + 12 * (l0.length : Int))] rfl (by (try simp only [List.map_toArray, List.map_cons, List.map_nil]); first | done | rfl) ?_; (with_reducible refine (box_up.calls (16 + 12 * (l0.length : Int)) (headN l0.length) _ HU.out).mono ?_); rintro e w' ⟨rfl, ⟨nd, rfl⟩⟩; refine ⟨_, rfl, ?_⟩))
  go_loopw [6, 40] (fun v6 v40 wr => ∃ i : Nat, i ≤ l0.length ∧ v40 = .int .i64 i ∧ v6 = .int .i64 ((atN l0 i : Nat) : Int) ∧ Aside0 (wr.heap[w2.heap.size]? = some (.cells (nums .u8 (rowAt l0 m i)).toArray 5 (0, 0))) ∧ Aside0 (Below w.heap.size w wr)) (fun _ v40 _ => l0.length - (intOf v40).toNat)
  case atStart => exact ⟨0, Nat.zero_le _, rfl, by simp [atN, datas], ⟨by rw [rowAt_zero l0 m hn (by rw [HM.out])]; exact HG6.out⟩, ⟨pw_below_drewN HB6.out nd⟩⟩
  case round =>
    obtain ⟨i, hi, rfl, rfl, HG, HB⟩ := hrel
    by_cases hlt : i < l0.length
    · have hgt := at_T50 HR0.out (i : Int) (by omega) (by omega)
      rw [Int.toNat_natCast] at hgt
      obtain ⟨ad, A1, c1, eA, hx0, hx1, hl1, hC1⟩ := hgt
      cases eA
      replace hx0 := (HB.out.cell (World.block_lt_of_cell? w _ hx0)).trans hx0
      replace hx1 := (HB.out.cell (World.block_lt_of_cell? w _ hx1)).trans hx1
      have h12 : 16 + 12 * (i + 1) - (16 + 12 * i) = 12 := by omega
      have HC1 := Aside0.mk hC1
      have HLT := Aside0.mk (lt_of_blk HG.out)
      have HL1 := Aside0.mk hl1
      clear hC1 hl1
      go_wp2_with (first | ((with_reducible refine gate_dst (N := 8) rfl ?_); refine box_event ?hg (N := 8) ?hd (cs := #[.int .i64 0, .slice none 0 0]) (t := 50) ?hr ?_; (case hd => rfl); (case hg => rfl); (case hr => first | (go_simp; done) | (go_simp; rfl)); intro gb hg w7 hbox hb; have HBX := Aside0.mk hbox; have HGB := Aside0.mk (show wr.heap.size ≤ gb by omega); have HB7 := Aside0.mk (below_step HB.out hb); have HG7 := Aside0.mk ((hb.block _ (lt_of_blk HG.out)).trans HG.out); clear hb hbox hg; have hcz0 : w7.cell? ⟨gb, 0, none⟩ = some (.int .i64 0) := (blk_cell HBX.out 0).trans rfl; have hcz1 : w7.cell? ⟨gb, 1, none⟩ = some (.slice none 0 0) := (blk_cell HBX.out 1).trans rfl; have hfz0 := blk_frozen HBX.out 0; have hfz1 := blk_frozen HBX.out 1) | ((with_reducible refine gate_store (t := 50) (p := 8) rfl ?_); refine store_event (t := 50) (p := 8) (v := ?vo_) (w1 := ((w7.setCell ⟨gb, 0, none⟩ (.int .i64 (rd_T50 l0 (i : Int)).f0)).setCell ⟨gb, 1, none⟩ (.slice A1 (rd_T50 l0 (i : Int)).f1.length c1))) ?hg ?ho ?hn ?hr ?_; (case ho => rfl); (case hg => rfl); (case hn => rfl); (case hr => first | (go_simp; done) | (go_simp; rfl)); intro w8 hw; have HG8 := Aside0.mk (show w8.heap[w2.heap.size]? = some (.cells (nums .u8 (rowAt l0 m i)).toArray 5 (0, 0)) from by subst hw; exact two_far HG7.out (by have := HGB.out; have := HLT.out; omega) _ _); have HB8 := Aside0.mk (show Below w.heap.size w w8 from by subst hw; exact below_set (below_set HB7.out (Nat.le_trans HB.out.size HGB.out)) (Nat.le_trans HB.out.size HGB.out)); have hc0 : w8.cell? ⟨gb, 0, none⟩ = some (.int .i64 (rd_T50 l0 (i : Int)).f0) := (by subst hw; exact two_c0 HBX.out _ _); have hc1 : w8.cell? ⟨gb, 1, none⟩ = some (.slice A1 (rd_T50 l0 (i : Int)).f1.length c1) := (by subst hw; exact two_c1 HBX.out _ _); clear hcz0 hcz1 hfz0 hfz1 hw))
      go_still_tail 4, (by kernel_rfl)
      change wpList _ _ _ _ _ w8.drew
      obtain ⟨A, Bd, K, Z, hR, hAL, hK, hAK, hZ, hZm, hatm, hR2, hat2⟩ := rowAt_step l0 m i hlt HM.out.symm
      have HAL := Aside0.mk hAL
      have HAK := Aside0.mk hAK
      have HR2 := Aside0.mk hR2
      have HAT2 := Aside0.mk hat2
      have HZM := Aside0.mk hZm
      have HNE := Aside0.mk (show some gb ≠ some w2.heap.size from fun e_ => by have := HGB.out; have := HLT.out; cases e_; omega)
      replace HG8 := Aside0.mk (show w8.drew.heap[w2.heap.size]? = some (.cells (nums .u8 (A ++ (List.replicate K 0 ++ (Bd ++ List.replicate Z 0)))).toArray 5 (0, 0)) from by rw [← hR]; exact HG8.out)
      clear hR hAL hAK hR2 hat2 hZm
      go_wp2_with (first | ((with_reducible refine gate_callee (f := 25) rfl ?_); refine goesL_ (some 62) rfl rfl Try.func25 (by kernel_rfl) rfl #[.slice (some ⟨w2.heap.size, 16 + 12 * i, none⟩) 4 4, .int .i64 ((rd_T50 l0 (i : Int)).f0)] rfl (by (try simp only [List.map_toArray, List.map_cons, List.map_nil]); first | done | rfl) ?_; (with_reducible refine (set_at w2.heap.size (16 + 12 * i) (K) 4 4 ((rd_T50 l0 (i : Int)).f0) (A) _ w8.drew HG8.out (by omega) ?so (by omega)).mono ?_); (case so => (have := HAL.out; (try simp only [List.length_append, le_length]); omega)); rintro e w9 ⟨rfl, hg_, hgr_⟩; refine ⟨_, rfl, ?_⟩; have HG9 := Aside0.mk hg_.out; have HB9 := Aside0.mk (below_step_grown hgr_ (below_drew HB8.out) HB2.out.size); have c0_ := World.grownBy.cell hgr_ (show World.cell? w8.drew ⟨gb, 0, none⟩ = _ from hc0) HNE.out; have c1_ := World.grownBy.cell hgr_ (show World.cell? w8.drew ⟨gb, 1, none⟩ = _ from hc1) HNE.out; clear hc0 hc1; have hc0 := c0_; have hc1 := c1_; clear c0_ c1_ hg_ hgr_) | ((with_reducible refine gate_callee (f := 25) rfl ?_); refine goesL_ (some 66) rfl rfl Try.func25 (by kernel_rfl) rfl #[.slice (some ⟨w2.heap.size, 16 + 12 * i + 4, none⟩) 4 4, .int .i64 (atN l0 i)] rfl (by (try simp only [List.map_toArray, List.map_cons, List.map_nil]); first | done | rfl) ?_; (with_reducible refine (set_at w2.heap.size (16 + 12 * i + 4) (K - 4) 4 4 (atN l0 i) (A ++ le 4 (rd_T50 l0 (i : Int)).f0) _ w9 HG9.out (by omega) ?so (by omega)).mono ?_); (case so => (have := HAL.out; (try simp only [List.length_append, le_length]); omega)); rintro e w10 ⟨rfl, hg_, hgr_⟩; refine ⟨_, rfl, ?_⟩; have HG10 := Aside0.mk hg_.out; have HB10 := Aside0.mk (below_step_grown hgr_ (show Below w.heap.size w w9 from HB9.out) HB2.out.size); have c0_ := World.grownBy.cell hgr_ (show World.cell? w9 ⟨gb, 0, none⟩ = _ from hc0) HNE.out; have c1_ := World.grownBy.cell hgr_ (show World.cell? w9 ⟨gb, 1, none⟩ = _ from hc1) HNE.out; clear hc0 hc1; have hc0 := c0_; have hc1 := c1_; clear c0_ c1_ hg_ hgr_))
      go_still_tail 5, (by kernel_rfl)
      change wpList _ _ _ _ _ w10.drew
      have HG10d := Aside0.mk (show w10.drew.heap[w2.heap.size]? = _ from HG10.out)
      go_wp2_with (first | ((with_reducible refine gate_callee (f := 25) rfl ?_); refine goesL_ (some 72) rfl rfl Try.func25 (by kernel_rfl) rfl #[.slice (some ⟨w2.heap.size, 16 + 12 * i + 8, none⟩) 4 4, .int .i64 ((rd_T50 l0 (i : Int)).f1.length)] rfl (by (try simp only [List.map_toArray, List.map_cons, List.map_nil]); first | done | rfl) ?_; (with_reducible refine (set_at w2.heap.size (16 + 12 * i + 8) (K - 4 - 4) 4 4 ((rd_T50 l0 (i : Int)).f1.length) (A ++ le 4 (rd_T50 l0 (i : Int)).f0 ++ le 4 (atN l0 i)) _ w10.drew HG10d.out (by omega) ?so (by omega)).mono ?_); (case so => (have := HAL.out; (try simp only [List.length_append, le_length]); omega)); rintro e w11 ⟨rfl, hg_, hgr_⟩; refine ⟨_, rfl, ?_⟩; have HG11 := Aside0.mk hg_.out; have HB11 := Aside0.mk (below_step_grown hgr_ (below_drew HB10.out) HB2.out.size); have c0_ := World.grownBy.cell hgr_ (show World.cell? w10.drew ⟨gb, 0, none⟩ = _ from hc0) HNE.out; have c1_ := World.grownBy.cell hgr_ (show World.cell? w10.drew ⟨gb, 1, none⟩ = _ from hc1) HNE.out; clear hc0 hc1; have hc0 := c0_; have hc1 := c1_; clear c0_ c1_ hg_ hgr_))
      go_still_tail 5, (by kernel_rfl)
      change wpList _ _ _ _ _ w11.drew
      have HG11d := Aside0.mk (show w11.drew.heap[w2.heap.size]? = some (.cells (nums .u8 ((A ++ le 4 (rd_T50 l0 (i : Int)).f0 ++ le 4 (atN l0 i) ++ le 4 (rd_T50 l0 (i : Int)).f1.length ++ List.replicate (K - 4 - 4 - 4) 0 ++ Bd) ++ (List.replicate Z 0 ++ []))).toArray 5 (0, 0)) from by have h_ := HG11.out; simp only [List.append_assoc, List.append_nil] at h_ ⊢; exact h_)
      refine wpList_copy_grown rfl (.tmp 75) (.tmp 77) 25 25 rfl 5 Try.underlying25 info5s _ _ _ _ _ _ rfl rfl w2.heap.size (atN l0 i) (nums .u8 ((A ++ le 4 (rd_T50 l0 (i : Int)).f0 ++ le 4 (atN l0 i) ++ le 4 (rd_T50 l0 (i : Int)).f1.length ++ List.replicate (K - 4 - 4 - 4) 0 ++ Bd) ++ (List.replicate Z 0 ++ []))) 5 HG11d.out (nums .u8 (rd_T50 l0 (i : Int)).f1) ?hn ?hpos ?hfit ?h1 ?_
      case hn => rw [nums_length]; have := HZM.out; exact (Nat.min_eq_left (by omega)).symm
      case hpos =>
        rw [nums_length]
        intro hp
        refine ⟨if_neg (by have := HZM.out; omega), ?_⟩
        obtain ⟨ad1, e1, hc⟩ := (Kd.reads_of_C (enc := Value.int .u8) (d := (0 : Int)) (h1 := fun _ => rfl) (Kd.C_below HC1.out (below_drew HB11.out))).2.2 hp
        refine ⟨ad1, e1, fun j v hv => ?_⟩
        obtain ⟨hj, hjv⟩ := List.getElem?_eq_some_iff.1 hv
        rw [nums_length] at hj
        rw [hc j hj, ← hjv]
        simp [nums, List.getD_eq_getElem?_getD, List.getElem?_eq_getElem hj]
      case hfit =>
        rw [nums_length, nums_length]
        have := HAK.out
        simp only [List.length_append, le_length, List.length_replicate, List.length_nil]
        omega
      case h1 =>
        intro v hv
        simp only [nums, List.mem_map] at hv
        obtain ⟨x, _, rfl⟩ := hv
        rfl
      intro w12 hg12 hgb12
      have hb12 := below_step_grown hgb12 (below_drew HB11.out) HB2.out.size
      have HG12 := Aside0.mk (show w12.heap[w2.heap.size]? = some (.cells (nums .u8 (rowAt l0 m (i + 1))).toArray 5 (0, 0)) from by
        have h_ := hg12.out
        rw [fill (A ++ le 4 (rd_T50 l0 (i : Int)).f0 ++ le 4 (atN l0 i) ++ le 4 (rd_T50 l0 (i : Int)).f1.length ++ List.replicate (K - 4 - 4 - 4) 0 ++ Bd) (rd_T50 l0 (i : Int)).f1 [] Z (atN l0 i) (by have := HAK.out; simp only [List.length_append, le_length, List.length_replicate]; omega) hZ] at h_
        rw [HR2.out]
        exact h_)
      have HB12 := Aside0.mk hb12
      have hcc : w12.cell? ⟨gb, 1, none⟩ = some (.slice A1 (rd_T50 l0 (i : Int)).f1.length c1) := by
        have := hgb12.block gb (by simpa using World.block_lt_of_cell? _ _ hc1) HNE.out
        exact (World.cell?_of_block (w := w11) (a := ⟨gb, 1, none⟩) (this.trans rfl)).trans hc1
      clear hg12 hb12 hgb12 hc0 hc1
      have hub : upN (rd_T50 l0 (i : Int)).f1.length ≤ m + 8 := by have := HZM.out; have := upN_ge (rd_T50 l0 (i : Int)).f1.length; omega
      go_wp2_with (first | ((with_reducible refine gate_callee (f := 26) rfl ?_); refine goesL_ (some 83) rfl rfl Try.func26 (by kernel_rfl) rfl #[.int .i64 ((rd_T50 l0 (i : Int)).f1.length : Int)] rfl (by (try simp only [List.map_toArray, List.map_cons, List.map_nil]); first | done | rfl) ?_; (with_reducible refine (box_up.calls ((rd_T50 l0 (i : Int)).f1.length : Int) ((upN (rd_T50 l0 (i : Int)).f1.length : Nat) : Int) _ ?hu).mono ?_); (case hu => exact up_f _ (by have := HZM.out; omega)); rintro e w' ⟨rfl, ⟨nd2, rfl⟩⟩; refine ⟨_, rfl, ?_⟩))
      go_roundw
      case rel => exact ⟨i + 1, by omega, by go_num, by rw [HAT2.out]; go_num, ⟨HG12.out⟩, ⟨pw_below_drewN HB12.out nd2⟩⟩
      case measure => simp [intOf]; omega
    · have hil : i = l0.length := by omega
      subst hil
      go_wp2
      go_ret2
      exact ⟨_, rfl, row_end l0 m hm HM.out.symm HG.out HB2.out.size, HB.out⟩
theorem box_Write.calls (A0 : Option Addr) (c0 : Nat) (l0 : List S50) (r1 : List Int) (r2 : Int) (w : World) (hr0 : Kd.C k50 w A0 l0.length l0) (hc0 : l0.length ≤ c0) (h : box_Write.f l0 = some (r1, r2)) :
    Calls Try.prog 11 #[.slice A0 l0.length c0] w fun e w' => ∃ v0_ : Value, e = .returned (.tuple #[v0_, .int .i64 r2]) ∧ Kd.R (Kd.int .u8) 5 w' w.heap.size (fun _ => True) v0_ r1 ∧ Below w.heap.size w w' := by
  unfold box_Write.f at h
  split at h
  · rename_i hs
    split at h
    · rename_i hz
      simp only [Option.some.injEq, Prod.mk.injEq] at h
      obtain ⟨rfl, rfl⟩ := h
      exact box_Write.good A0 c0 l0 w hr0 hc0 hs hz
    · rename_i hz
      simp only [Option.some.injEq, Prod.mk.injEq] at h
      obtain ⟨rfl, rfl⟩ := h
      refine (box_Write.bad A0 c0 l0 w hr0 hc0 hs hz).mono ?_
      rintro e w' ⟨rfl, hb⟩
      exact ⟨_, rfl, Kd.R_nil _ _ _ _ _, hb⟩
  · cases h

end Go.Proofs.Ytnpjfkleoijbiaa.PAll
