/- mem: the law MemWrites, its walk. -/
import Derived.Test.YtlolhmocimaobaaMemLCopies
import Derived.Test.YtlolhmocimaobaaMemLApart
set_option linter.unusedVariables false
set_option linter.unusedSimpArgs false
namespace Go.Proofs.Ytlolhmocimaobaa.PAll
open Go.RowKit Go.Shelf Go.Proofs.YtlolhmocimaobaaW.PrintWords Go.Proofs.YtlolhmocimaobaaW.PrintLast Go.Proofs.YtlolhmocimaobaaW.PrintMore
theorem leV_1 (x : Int) : leV (le 1 x) = x % 256 := by
  simp [leV, le, byteAt, backL, valB, List.range_succ, rd]
  try omega
theorem leV_2 (x : Int) : leV (le 2 x) = x % 65536 := by
  simp [leV, le, byteAt, backL, valB, List.range_succ, rd]
  try omega
theorem leV_4 (x : Int) : leV (le 4 x) = x % 4294967296 := by
  simp [leV, le, byteAt, backL, valB, List.range_succ, rd]
  try omega
theorem leV_8 (x : Int) (h0 : 0 ≤ x) (h1 : x < 18446744073709551616) : leV (le 8 x) = x := by
  simp [leV, le, byteAt, backL, valB, List.range_succ, rd]
  try omega
theorem add_empty (W : World) (n0 m : Nat) (base : Int) (h : Mem W n0 m []) (ha0 : 0 ≤ base) (ha1 : base < 18446744073709551616) : Calls Try.prog 14 #[.pointer (some ⟨m, 0, none⟩), .int .u64 base, .slice none 0 0] W fun e X' => e = .returned (.bool false) ∧ Below n0 W X' := by
  have hok : addOk [] base ([] : List Int).length = false := by unfold addOk; simp
  have := add_c W n0 m [] base none 0 [] h (by decide) ha0 ha1 ⟨rfl, by show 0 ≤ _; omega, fun h => absurd h (by simp)⟩ (Nat.le_refl _) (by decide) (fun _ => []) (fun ho => by rw [hok] at ho; cases ho)
  rw [hok] at this
  exact this.mono fun e X' ⟨h1, _, h2⟩ => ⟨h1, h2⟩
theorem hit_l (l0 : List Int) (a : Nat) (n : Int) : hitR (1000 + (a : Int)) n ⟨1000, l0⟩ = decide (1 ≤ n ∧ a + n ≤ l0.length) := by
  rw [hit_z 1000 _ n l0.length l0 rfl]
  by_cases h : 1 ≤ n ∧ a + n ≤ l0.length
  · rw [decide_eq_true h]; exact decide_eq_true ⟨h.1, by omega, by omega⟩
  · rw [decide_eq_false h]; exact decide_eq_false (by omega)
theorem numB_pos {n : Int} (h : numB n = true) : n = 1 ∨ n = 2 ∨ n = 4 ∨ n = 8 := of_decide_eq_true h
theorem w_none {l0 : List Int} {a : Nat} {n x : Int} (h : ¬ (numB n = true ∧ a + n ≤ l0.length)) : writeF [⟨1000, l0⟩] (1000 + (a : Int)) n x = none := by
  unfold writeF
  by_cases hn : numB n = true
  · have := numB_pos hn
    rw [if_pos hn]
    unfold putF
    have h2 : hitR (1000 + (a : Int)) (le n.toNat x).length ⟨1000, l0⟩ = false := by
      rw [hit_l, le_length]
      exact decide_eq_false (fun h3 => h ⟨hn, by omega⟩)
    simp [List.findIdx?_cons, h2]
  · rw [if_neg hn]
theorem w_some {l0 : List Int} {a k : Nat} {x : Int} (hn : numB (k : Int) = true) (h : a + k ≤ l0.length) : writeF [⟨1000, l0⟩] (1000 + (a : Int)) k x = some [⟨1000, splice l0 a (le k x)⟩] := by
  unfold writeF putF
  rw [if_pos hn, Int.toNat_natCast]
  have := numB_pos hn
  have h2 : hitR (1000 + (a : Int)) (le k x).length ⟨1000, l0⟩ = true := by
    rw [hit_l, le_length]
    exact decide_eq_true ⟨by omega, by omega⟩
  have h3 : ((1000 : Int) + a - 1000).toNat = a := by omega
  simp [List.findIdx?_cons, h2, h3]
theorem r_back {l0 : List Int} {a k : Nat} {x : Int} (hn : numB (k : Int) = true) (h : a + k ≤ l0.length) : readF [⟨1000, splice l0 a (le k x)⟩] (1000 + (a : Int)) k = (leV (le k x), true) := by
  unfold readF bytesF
  have := numB_pos hn
  have hlen : (splice l0 a (le k x)).length = l0.length := length_splice _ _ _ (by rw [le_length]; exact h)
  have h2 : hitR (1000 + (a : Int)) k ⟨1000, splice l0 a (le k x)⟩ = true := by
    rw [hit_l, hlen]
    exact decide_eq_true ⟨by omega, by omega⟩
  have h3 : ((1000 : Int) + a - 1000).toNat = a := by omega
  have h4 : ((splice l0 a (le k x)).drop a).take k = le k x := by
    unfold splice
    rw [List.drop_left' (by rw [List.length_take]; omega)]
    exact List.take_left' (le_length k x)
  simp [hn, List.findIdx?_cons, h2, h3, h4]
theorem le_wf (k : Nat) (x : Int) : ∀ y ∈ le k x, 0 ≤ y ∧ y < 256 := fun y hy => by
  unfold le at hy
  obtain ⟨i, _, rfl⟩ := List.mem_map.1 hy
  unfold byteAt
  omega
theorem spl_wf {l0 : List Int} {a k : Nat} {x : Int} (hw : ∀ y ∈ l0, 0 ≤ y ∧ y < 256) : ∀ y ∈ splice l0 a (le k x), 0 ≤ y ∧ y < 256 := fun y hy => by
  unfold splice at hy
  rcases List.mem_append.1 hy with h | h
  · exact hw y (List.mem_of_mem_take h)
  · rcases List.mem_append.1 h with h | h
    · exact le_wf k x y h
    · exact hw y (List.mem_of_mem_drop h)
theorem spl_out {l0 cs : List Int} {a i : Nat} (h : a + cs.length ≤ l0.length) (hi : i < a ∨ a + cs.length ≤ i) : rdOf (0 : Int) (splice l0 a cs) (i : Int) = rdOf 0 l0 i := by
  unfold rdOf splice
  rw [Int.toNat_natCast, List.getD_eq_getElem?_getD, List.getD_eq_getElem?_getD]
  congr 1
  rcases hi with hi | hi
  · rw [List.getElem?_append_left (by rw [List.length_take]; omega), List.getElem?_take, if_pos hi]
  · rw [List.getElem?_append_right (by rw [List.length_take]; omega), List.getElem?_append_right (by rw [List.length_take]; omega), List.getElem?_drop, List.length_take]
    congr 1
    omega
set_option maxHeartbeats 2000000 in
set_option maxRecDepth 100000 in
theorem memWrites_a (X : World) (A0 : Option Addr) (c0 k : Nat) (at_ p x : Int) (hk : k = 0 ∨ 600 < k) :
    Calls Try.prog 4 #[.slice A0 k c0, .int .u16 at_, .agg #[.int .u64 p, .int .u64 x]] X fun e X' => e = .returned (.bool true) ∧ Below X.heap.size X X' := by
  have HXX : Aside0 (Below X.heap.size X (X.alloc (.cells #[.int .u64 p, .int .u64 x] 38)).drew) := ⟨below_drew (below_alloc (Below.refl _ _) _)⟩
  rcases hk with rfl | hk
  · skip
    go_enter Try.func4, Try.ntmps4
    go_wp2_with fail
    go_region
    go_wp2_with fail
    refine (new_c _ (X.heap.size + 1) (by simp)).mono ?_
    rintro e w1 ⟨rfl, hm1, hb1⟩
    have HM1 : Aside0 (Mem w1 (X.heap.size + 1) (X.heap.size + 1) []) := ⟨by simpa using hm1⟩
    have HB1 : Aside0 (Below X.heap.size X w1) := ⟨HXX.out.trans (hb1.mono HXX.out.size)⟩
    clear hm1 hb1
    go_wp2_with fail
    refine (alive_c w1).mono ?_
    rintro e w2 ⟨rfl, hb2⟩
    have HM2 := Aside0.mk (HM1.out.below hb2)
    have HB2 : Aside0 (Below X.heap.size X w2) := ⟨HB1.out.trans (hb2.mono HB1.out.size)⟩
    clear hb2
    go_wp2_with fail
    refine (add_empty w2 (X.heap.size + 1) (X.heap.size + 1) 1000 HM2.out (by decide) (by decide)).mono ?_
    rintro e w3 ⟨rfl, hb3⟩
    go_wp2_with fail
    go_ret
    exact ⟨rfl, HB2.out.trans (hb3.mono (Nat.le_succ _))⟩
  · have hz : ((k : Int) == 0) = false := beq_eq_false_iff_ne.mpr (by omega)
    go_enter Try.func4, Try.ntmps4
    go_wp2_with fail
    go_region
    go_wp2_with fail
    refine (new_c _ (X.heap.size + 1) (by simp)).mono ?_
    rintro e w1 ⟨rfl, hm1, hb1⟩
    have HM1 : Aside0 (Mem w1 (X.heap.size + 1) (X.heap.size + 1) []) := ⟨by simpa using hm1⟩
    have HB1 : Aside0 (Below X.heap.size X w1) := ⟨HXX.out.trans (hb1.mono HXX.out.size)⟩
    clear hm1 hb1
    go_wp2_with fail
    refine (alive_c w1).mono ?_
    rintro e w2 ⟨rfl, hb2⟩
    have HM2 := Aside0.mk (HM1.out.below hb2)
    have HB2 : Aside0 (Below X.heap.size X w2) := ⟨HB1.out.trans (hb2.mono HB1.out.size)⟩
    clear hb2
    go_wp2_with fail
    refine (add_empty w2 (X.heap.size + 1) (X.heap.size + 1) 1000 HM2.out (by decide) (by decide)).mono ?_
    rintro e w3 ⟨rfl, hb3⟩
    go_wp2_with fail
    go_ret
    exact ⟨rfl, HB2.out.trans (hb3.mono (Nat.le_succ _))⟩
set_option maxHeartbeats 2000000 in
set_option maxRecDepth 100000 in
theorem memWrites_b (X : World) (A0 : Option Addr) (c0 : Nat) (l0 : List Int) (a : Nat) (p x n : Int) (hr0 : Kd.C (Kd.int .u8) X A0 l0.length l0) (hc0 : l0.length ≤ c0) (hw : ∀ y ∈ l0, 0 ≤ y ∧ y < 256) (h1 : 0 < l0.length) (h2 : l0.length ≤ 600) (ha : a < 65536) (hx0 : 0 ≤ x) (hx1 : x < 18446744073709551616) (hn : IntKind.i64.wrap p = n) (hn0 : -9223372036854775808 ≤ n) (hn1 : n < 9223372036854775808) (hno : ¬ (numB n = true ∧ a + n ≤ l0.length)) :
    Calls Try.prog 4 #[.slice A0 l0.length c0, .int .u16 a, .agg #[.int .u64 p, .int .u64 x]] X fun e X' => e = .returned (.bool true) ∧ Below X.heap.size X X' := by
  have HXX : Aside0 (Below X.heap.size X (X.alloc (.cells #[.int .u64 p, .int .u64 x] 38)).drew) := ⟨below_drew (below_alloc (Below.refl _ _) _)⟩
  have HC := Aside0.mk hr0
  have HC0 := Aside0.mk hc0
  have HW0 := Aside0.mk hw
  have HX := Aside0.mk (And.intro hx0 hx1)
  have HN := Aside0.mk (And.intro hn0 hn1)
  have hz : ((l0.length : Int) == 0) = false := beq_eq_false_iff_ne.mpr (by omega)
  have HNO := Aside0.mk (w_none (x := x) hno)
  clear hno
  clear hr0 hc0 hw hx0 hx1 hn0 hn1
  go_enter Try.func4, Try.ntmps4
  go_wp2_with fail
  go_region
  clear hn
  go_wp2_with fail
  refine (new_c _ (X.heap.size + 1) (by simp)).mono ?_
  rintro e w1 ⟨rfl, hm1, hb1⟩
  have HM1 : Aside0 (Mem w1 (X.heap.size + 1) (X.heap.size + 1) []) := ⟨by simpa using hm1⟩
  have HB1 : Aside0 (Below X.heap.size X w1) := ⟨HXX.out.trans (hb1.mono HXX.out.size)⟩
  clear hm1 hb1
  go_wp2_with fail
  refine (add0_c w1 (X.heap.size + 1) (X.heap.size + 1) 1000 A0 c0 l0 HM1.out (by decide) (Kd.C_below HC.out HB1.out) HC0.out (by omega) (by omega) (by omega) HW0.out).mono ?_
  rintro e w2 ⟨rfl, hm2, hb2⟩
  have HM2 := Aside0.mk hm2
  have HB2 : Aside0 (Below X.heap.size X w2) := ⟨HB1.out.trans (hb2.mono (Nat.le_succ _))⟩
  clear hm2 hb2
  go_wp2_with fail
  refine (write_c w2 (X.heap.size + 1) (X.heap.size + 1) _ (1000 + (a : Int)) n x HM2.out (show 1 ≤ 999999 by decide) (by omega) (by omega) HX.out.1 HX.out.2 none HNO.out (fun q h => by cases h)).mono ?_
  rintro e w3 ⟨rfl, hm3, hb3⟩
  have HM3 : Aside0 (Mem w3 (X.heap.size + 1) (X.heap.size + 1) [⟨1000, l0⟩]) := ⟨hm3⟩
  have HB3 : Aside0 (Below X.heap.size X w3) := ⟨HB2.out.trans (hb3.mono (Nat.le_succ _))⟩
  clear hm3 hb3
  go_wp2_with fail
  refine (bytes_c w3 (X.heap.size + 1) (X.heap.size + 1) _ 1000 l0.length HM3.out (show 1 ≤ 999999 by decide) (by decide) (by decide) (by omega) (by omega) _ (bytes_all 1000 l0 h1)).mono ?_
  rintro e w4 ⟨⟨v4, rfl, hr4⟩, hb4⟩
  obtain ⟨A4, c4, rfl, hc4, hC4⟩ := Kd.R_reads (show Kd.R (Kd.int .u8) 5 w4 w3.heap.size (fun _ => True) v4 l0 from hr4)
  have HC4 := Aside0.mk hC4
  have HB4 : Aside0 (Below X.heap.size X w4) := ⟨HB3.out.trans (hb4.mono HB3.out.size)⟩
  clear hr4 hb4 hC4
  go_wp2_with fail
  refine (alive_c w4).mono ?_
  rintro e w5 ⟨rfl, hb5⟩
  have HB45 := Aside0.mk hb5
  have HB5 : Aside0 (Below X.heap.size X w5) := ⟨HB4.out.trans (hb5.mono HB4.out.size)⟩
  clear hb5
  go_wp2_with fail
  refine (same_c A4 c4 l0 A0 c0 l0 w5 (Kd.C_below HC4.out HB45.out) hc4 (Kd.C_below HC.out HB5.out) HC0.out (by omega) true (by simp)).mono ?_
  rintro e w6 ⟨rfl, k6, rfl⟩
  go_wp2_with fail
  go_ret
  exact ⟨rfl, pw_below_drewN HB5.out _⟩
end Go.Proofs.Ytlolhmocimaobaa.PAll
