/- mem: the law MemApart, its walk. -/
import Derived.Test.YtlolhmocimaobaaMemLBounds
set_option linter.unusedVariables false
set_option linter.unusedSimpArgs false
namespace Go.Proofs.Ytlolhmocimaobaa.PAll
open Go.RowKit Go.Shelf Go.Proofs.YtlolhmocimaobaaW.PrintWords Go.Proofs.YtlolhmocimaobaaW.PrintLast Go.Proofs.YtlolhmocimaobaaW.PrintMore
theorem inv_two {r s : Reg} (hr : Inv [r]) (hs : Inv [s]) (h : r.base + r.data.length ≤ s.base) : Inv [r, s] := by
  have two : ∀ (P : Reg → Prop), (∀ x ∈ [r], P x) → (∀ x ∈ [s], P x) → ∀ x ∈ [r, s], P x := fun P h1 h2 x hx => by
    rcases List.mem_cons.1 hx with rfl | hx
    · exact h1 _ (List.mem_singleton.2 rfl)
    · exact h2 x hx
  refine ⟨two _ hr.pos hs.pos, two _ hr.lo hs.lo, two _ hr.hi hs.hi, two _ hr.wf hs.wf, two _ hr.short hs.short, fun i j p q hij hp hq => ?_⟩
  have hj := (List.getElem?_eq_some_iff.1 hq).1
  simp at hj
  obtain rfl : i = 0 := by omega
  obtain rfl : j = 1 := by omega
  cases hp; cases hq
  exact h
def seven (s : Nat) : List Int := splice (zeros s) 0 [7]
theorem seven_len (s : Nat) (h : 1 ≤ s) : (seven s).length = s := by unfold seven; rw [length_splice _ _ _ (by simp [zeros]; omega), zeros_len]
theorem seven_wf (s : Nat) : ∀ x ∈ seven s, 0 ≤ x ∧ x < 256 := fun x hx => by
  unfold seven splice at hx
  simp at hx
  rcases hx with rfl | hx
  · decide
  · exact zeros_wf s x (List.mem_of_mem_tail hx)
theorem inv_z {b : Int} {s : Nat} (h0 : 0 ≤ b) (h1 : b + s ≤ 18446744073709551616) (hs : 1 ≤ s) (hs1 : s ≤ 1000000) : Inv [⟨b, zeros s⟩] := inv_one (by rw [zeros_len]; omega) h0 (by rw [zeros_len]; exact h1) (zeros_wf s) (by rw [zeros_len]; omega)
theorem inv_7 {b : Int} {s : Nat} (h0 : 0 ≤ b) (h1 : b + s ≤ 18446744073709551616) (hs : 1 ≤ s) (hs1 : s ≤ 1000000) : Inv [⟨b, seven s⟩] := inv_one (by rw [seven_len s hs]; omega) h0 (by rw [seven_len s hs]; exact h1) (seven_wf s) (by rw [seven_len s hs]; omega)
theorem hit_z (b a n : Int) (s : Nat) (d : List Int) (hd : d.length = s) : hitR a n ⟨b, d⟩ = decide (1 ≤ n ∧ b ≤ a ∧ a + n ≤ b + s) := by
  have h := hit_iff (a := a) (n := n) (r := ⟨b, d⟩)
  simp only [hd] at h
  by_cases hc : 1 ≤ n ∧ b ≤ a ∧ a + n ≤ b + s
  · rw [decide_eq_true hc]; exact h.2 hc
  · rw [decide_eq_false hc]
    cases hh : hitR a n ⟨b, d⟩ with
    | false => rfl
    | true => exact absurd (h.1 hh) hc
theorem le_17 : le 1 7 = [7] := by decide
theorem zeros_succ (s : Nat) (h : 1 ≤ s) : zeros s = 0 :: zeros (s - 1) := by
  obtain ⟨k, rfl⟩ : ∃ k, s = k + 1 := ⟨s - 1, by omega⟩
  rfl
theorem w_first {base a : Int} {s0 s1 : Nat} (h0 : 1 ≤ s0) : writeF [⟨base, zeros s0⟩, ⟨a, zeros s1⟩] base 1 7 = some [⟨base, seven s0⟩, ⟨a, zeros s1⟩] := by
  unfold writeF putF
  rw [if_pos (by decide), show (1 : Int).toNat = 1 by rfl, le_17]
  have : hitR base 1 ⟨base, zeros s0⟩ = true := by rw [hit_z base base _ s0 _ (zeros_len s0)]; exact decide_eq_true ⟨by decide, by omega, by omega⟩
  simp [List.findIdx?_cons, this, seven]
theorem w_second {base a : Int} {s0 s1 : Nat} (h0 : 1 ≤ s0) (h : a + s1 ≤ base) : writeF [⟨a, zeros s1⟩, ⟨base, zeros s0⟩] base 1 7 = some [⟨a, zeros s1⟩, ⟨base, seven s0⟩] := by
  unfold writeF putF
  rw [if_pos (by decide), show (1 : Int).toNat = 1 by rfl, le_17]
  have h1 : hitR base 1 ⟨base, zeros s0⟩ = true := by rw [hit_z base base _ s0 _ (zeros_len s0)]; exact decide_eq_true ⟨by decide, by omega, by omega⟩
  have h2 : hitR base 1 ⟨a, zeros s1⟩ = false := by rw [hit_z a base _ s1 _ (zeros_len s1)]; exact decide_eq_false (by omega)
  simp [List.findIdx?_cons, h1, h2, seven]
theorem r_zero {a : Int} {s1 : Nat} {L : List Reg} (h1 : 1 ≤ s1) (k : Nat) (hk : L.findIdx? (hitR a 1) = some k) (hL : L[k]? = some ⟨a, zeros s1⟩) : readF L a 1 = (0, true) := by
  unfold readF bytesF
  rw [if_pos (by decide), hk]
  dsimp only
  rw [hL]
  dsimp only
  rw [zeros_succ s1 h1]
  simp
  rfl
theorem r_first {base a : Int} {s0 s1 : Nat} (h0 : 1 ≤ s0) (h1 : 1 ≤ s1) (h : a + s1 ≤ base) : readF [⟨a, zeros s1⟩, ⟨base, seven s0⟩] a 1 = (0, true) := by
  have : hitR a 1 ⟨a, zeros s1⟩ = true := by rw [hit_z a a _ s1 _ (zeros_len s1)]; exact decide_eq_true ⟨by decide, by omega, by omega⟩
  exact r_zero h1 0 (by simp [List.findIdx?_cons, this]) rfl
theorem r_second {base a : Int} {s0 s1 : Nat} (h0 : 1 ≤ s0) (h1 : 1 ≤ s1) (h : base + s0 ≤ a) : readF [⟨base, seven s0⟩, ⟨a, zeros s1⟩] a 1 = (0, true) := by
  have h2 : hitR a 1 ⟨a, zeros s1⟩ = true := by rw [hit_z a a _ s1 _ (zeros_len s1)]; exact decide_eq_true ⟨by decide, by omega, by omega⟩
  have h3 : hitR a 1 ⟨base, seven s0⟩ = false := by rw [hit_z base a _ s0 _ (seven_len s0 h0)]; exact decide_eq_false (by omega)
  exact r_zero h1 1 (by simp [List.findIdx?_cons, h2, h3]) rfl
/-- The second Add. -/
theorem addz2_c (W : World) (n0 m : Nat) (base a : Int) (s0 s1 : Nat) (h : Mem W n0 m [⟨base, zeros s0⟩]) (ha0 : 0 ≤ base) (ha : 0 ≤ a) (hs : 1 ≤ s0) (hs1 : s0 ≤ 1000000) (ht : 1 ≤ s1) (ht1 : s1 ≤ 1000000) (hfit : base + s0 ≤ 18446744073709551616) (hfa : a + s1 ≤ 18446744073709551616) (ap : Bool) (L : List Reg)
    (hL : (ap = false ∧ L = [⟨base, zeros s0⟩] ∧ ¬ (base + s0 ≤ a ∨ a + s1 ≤ base)) ∨ (ap = true ∧ base + s0 ≤ a ∧ L = [⟨base, zeros s0⟩, ⟨a, zeros s1⟩]) ∨ (ap = true ∧ a + s1 ≤ base ∧ L = [⟨a, zeros s1⟩, ⟨base, zeros s0⟩])) :
    Calls Try.prog 14 #[.pointer (some ⟨m, 0, none⟩), .int .u64 a, .slice (some ⟨W.heap.size, 0, none⟩) s1 s1] (W.alloc (.cells (madeCells #[.int .u8 0] s1) 5)) fun e X' => e = .returned (.bool ap) ∧ Mem X' n0 m L ∧ Below n0 W X' := by
  have hb := below_alloc (Below.refl W.heap.size W) (.cells (madeCells #[.int .u8 0] s1) 5)
  have hok : addOk [⟨base, zeros s0⟩] a (zeros s1).length = ap := by
    unfold addOk
    rw [zeros_len]
    rcases hL with ⟨rfl, _, h1⟩ | ⟨rfl, h1, _⟩ | ⟨rfl, h1, _⟩
    · exact decide_eq_false (fun h2 => by
        have := h2.2.2 _ (List.mem_singleton.2 rfl)
        simp only [zeros_len] at this
        exact h1 this)
    · exact decide_eq_true ⟨by omega, hfa, fun r hr => by rw [List.mem_singleton.1 hr]; left; simp only [zeros_len]; exact h1⟩
    · exact decide_eq_true ⟨by omega, hfa, fun r hr => by rw [List.mem_singleton.1 hr]; right; exact h1⟩
  have hA := add_c _ n0 m [⟨base, zeros s0⟩] a _ s1 (zeros s1) (h.below hb) (show 1 ≤ 999999 by decide) ha (by omega) (zeros_C W s1 ht1) (by rw [zeros_len]; exact Nat.le_refl _) (by rw [zeros_len]; omega) (fun _ => L) (fun ho i hi => by
    rw [hok] at ho
    rw [zeros_len] at hi
    obtain ⟨hi1, hi2, hi3⟩ := hi
    simp only [List.length_singleton] at hi1
    rcases hL with ⟨h1, _, _⟩ | ⟨_, h1, rfl⟩ | ⟨_, h1, rfl⟩
    · rw [h1] at ho; cases ho
    · obtain rfl : i = 1 := by
        rcases Nat.lt_or_ge i 1 with h2 | h2
        · have := hi3 0 _ (by omega) rfl; simp only at this; omega
        · omega
      exact ⟨rfl, inv_two (inv_z ha0 hfit hs hs1) (inv_z ha hfa ht ht1) (by simp only [zeros_len]; exact h1)⟩
    · obtain rfl : i = 0 := by
        rcases Nat.lt_or_ge i 1 with h2 | h2
        · omega
        · have := hi2 0 _ (by omega) rfl; simp only at this; omega
      exact ⟨rfl, inv_two (inv_z ha hfa ht ht1) (inv_z ha0 hfit hs hs1) (by simp only [zeros_len]; exact h1)⟩)
  rw [hok, zeros_len] at hA
  refine hA.mono fun e X' ⟨h1, h2, h3⟩ => ⟨h1, ?_, (hb.mono h.1).trans h3⟩
  rcases hL with ⟨rfl, rfl, _⟩ | ⟨rfl, _, rfl⟩ | ⟨rfl, _, rfl⟩
  · exact h2
  · rw [if_pos rfl] at h2; obtain ⟨_, _, h2⟩ := h2; exact h2
  · rw [if_pos rfl] at h2; obtain ⟨_, _, h2⟩ := h2; exact h2
set_option maxHeartbeats 2000000 in
set_option maxRecDepth 100000 in
theorem memApart_m (X : World) (base off : Int) (s t : Nat) (h3 : base ≤ 9223372036854775808) (h4 : 100000 ≤ base) (hs : 1 ≤ s) (hs1 : s < 256) (ht : 1 ≤ t) (ht1 : t < 256) (ho0 : -32768 ≤ off) (ho1 : off < 32768) :
    Calls Try.prog 6 #[.int .u64 base, .int .i16 off, .agg #[.int .u8 s, .int .u8 t]] X fun e X' => e = .returned (.bool true) ∧ Below X.heap.size X X' := by
  have hz' : ((s : Int) == 0) = false := beq_eq_false_iff_ne.mpr (by omega)
  have hz2 : ((t : Int) == 0) = false := beq_eq_false_iff_ne.mpr (by omega)
  have hmk := fun W => run_make_row' (P := Try.prog) 32 5 (.int .u8 0) 1 Try.underlying32 infoU8 rfl .u8 .u8 s (by omega) (by omega) W
  have hmk2 := fun W => run_make_row' (P := Try.prog) 32 5 (.int .u8 0) 1 Try.underlying32 infoU8 rfl .u8 .u8 t (by omega) (by omega) W
  obtain ⟨a, ha⟩ : ∃ a, IntKind.u64.wrap (base + IntKind.u64.wrap off) = a := ⟨_, rfl⟩
  have hae : a = base + off := by rw [← ha]; exact addr_wrap base off h3 h4 ho0 ho1
  have HA := Aside0.mk ha
  have HA2 := Aside0.mk hae.symm
  have HAR : Aside0 (0 ≤ a ∧ a < 18446744073709551616) := ⟨by omega⟩
  have HB : Aside0 (0 ≤ base ∧ base < 18446744073709551616) := ⟨by omega⟩
  have HXX : Aside0 (Below X.heap.size X (X.alloc (.cells #[.int .u8 s, .int .u8 t] 51))) := ⟨below_alloc (Below.refl _ _) _⟩
  have HADD : Aside0 (∀ W, Mem W (X.heap.size + 1) (X.heap.size + 1) [] → Calls Try.prog 14 #[.pointer (some ⟨X.heap.size + 1, 0, none⟩), .int .u64 base, .slice (some ⟨W.heap.size, 0, none⟩) s s] (W.alloc (.cells (madeCells #[.int .u8 0] s) 5)) fun e X' => e = .returned (.bool true) ∧ Mem X' (X.heap.size + 1) (X.heap.size + 1) [⟨base, zeros s⟩] ∧ Below (X.heap.size + 1) W X') := ⟨fun W h => addz_c W (X.heap.size + 1) (X.heap.size + 1) base s h HB.out.1 hs (by omega) (by omega)⟩
  obtain ⟨ap, L, L', hcase, hInv⟩ : ∃ (ap : Bool) (L L' : List Reg), ((ap = false ∧ L = [⟨base, zeros s⟩] ∧ ¬ (base + s ≤ a ∨ a + t ≤ base) ∧ off < s ∧ -off < t) ∨ (ap = true ∧ (base + s ≤ a ∧ L = [⟨base, zeros s⟩, ⟨a, zeros t⟩] ∨ a + t ≤ base ∧ L = [⟨a, zeros t⟩, ⟨base, zeros s⟩]) ∧ L.length = 2 ∧ L'.length = 2 ∧ writeF L base 1 7 = some L' ∧ readF L' a 1 = (0, true) ∧ Inv L' ∧ ((s : Int) ≤ off ∨ (off < s ∧ (t : Int) ≤ -off)))) ∧ True := by
    by_cases h1 : (s : Int) ≤ off
    · exact ⟨true, _, _, .inr ⟨rfl, .inl ⟨by omega, rfl⟩, rfl, rfl, w_first hs, r_second hs ht (by omega), inv_two (inv_7 (by omega) (by omega) hs (by omega)) (inv_z (by omega) (by omega) ht (by omega)) (by simp only [seven_len s hs]; omega), .inl h1⟩, trivial⟩
    · by_cases h2 : (t : Int) ≤ -off
      · exact ⟨true, _, _, .inr ⟨rfl, .inr ⟨by omega, rfl⟩, rfl, rfl, w_second hs (by omega), r_first hs ht (by omega), inv_two (inv_z (by omega) (by omega) ht (by omega)) (inv_7 (by omega) (by omega) hs (by omega)) (by simp only [zeros_len]; omega), .inr ⟨by omega, h2⟩⟩, trivial⟩
      · exact ⟨false, _, [], .inl ⟨rfl, rfl, by omega, by omega, by omega⟩, trivial⟩
  have HADD2 : Aside0 (∀ W, Mem W (X.heap.size + 1) (X.heap.size + 1) [⟨base, zeros s⟩] → Calls Try.prog 14 #[.pointer (some ⟨X.heap.size + 1, 0, none⟩), .int .u64 a, .slice (some ⟨W.heap.size, 0, none⟩) t t] (W.alloc (.cells (madeCells #[.int .u8 0] t) 5)) fun e X' => e = .returned (.bool ap) ∧ Mem X' (X.heap.size + 1) (X.heap.size + 1) L ∧ Below (X.heap.size + 1) W X') :=
    ⟨fun W h => addz2_c W (X.heap.size + 1) (X.heap.size + 1) base a s t h HB.out.1 HAR.out.1 hs (by omega) ht (by omega) (by omega) (by omega) ap L (by
      rcases hcase with ⟨h1, h2, h3, _⟩ | ⟨h1, h2 | h2, _⟩
      · exact .inl ⟨h1, h2, h3⟩
      · exact .inr (.inl ⟨h1, h2.1, h2.2⟩)
      · exact .inr (.inr ⟨h1, h2.1, h2.2⟩))⟩
  clear hInv ha hae
  rcases hcase with ⟨rfl, rfl, _, h5, h6⟩ | ⟨rfl, _, hL2, hL2', hw, hr, hi, h5⟩
  · have hd : (decide ((s : Int) ≤ off) || decide ((t : Int) ≤ -off)) = false := by rw [decide_eq_false (by omega), decide_eq_false (by omega)]; rfl
    go_enter Try.func6, Try.ntmps6
    go_wp2_with fail
    refine (new_c _ (X.heap.size + 1) (by simp)).mono ?_
    rintro e w1 ⟨rfl, hm1, hb1⟩
    have HM1 : Aside0 (Mem w1 (X.heap.size + 1) (X.heap.size + 1) []) := ⟨by simpa using hm1⟩
    have HB0 : Aside0 (Below X.heap.size X w1) := ⟨HXX.out.trans (hb1.mono HXX.out.size)⟩
    have hx0 : w1.heap[X.heap.size]? = some (.cells #[.int .u8 s, .int .u8 t] 51 (0, 0)) := (hb1.block X.heap.size (by simp)).trans (heap_alloc_new X _)
    obtain ⟨hx1, hx2, hx3, hx4⟩ := blk2 hx0
    have HX0 := Aside0.mk hx0
    clear hm1 hb1 hx0
    go_wp2_with fail
    refine (HADD.out w1 HM1.out).mono ?_
    rintro e w2 ⟨rfl, hm2, hb2⟩
    have HM2 := Aside0.mk hm2
    have HB2 : Aside0 (Below X.heap.size X w2) := ⟨HB0.out.trans (hb2.mono (Nat.le_succ _))⟩
    have hx0 := (hb2.block X.heap.size (Nat.lt_succ_self _)).trans HX0.out
    obtain ⟨hx1, hx2, hx3, hx4⟩ := blk2 hx0
    have HX2 := Aside0.mk hx0
    clear hm2 hb2 hx0
    go_wp2_with fail
    first | rw [HA.out] | rw [HA2.out] | skip
    refine (HADD2.out w2 HM2.out).mono ?_
    rintro e w3 ⟨rfl, hm3, hb3⟩
    have HM3 := Aside0.mk hm3
    have HB3 : Aside0 (Below X.heap.size X w3) := ⟨HB2.out.trans (hb3.mono (Nat.le_succ _))⟩
    have hx0 := (hb3.block X.heap.size (Nat.lt_succ_self _)).trans HX2.out
    obtain ⟨hx1, hx2, hx3, hx4⟩ := blk2 hx0
    clear hm3 hb3 hx0
    go_wp2_with fail
    refine (alive_c w3).mono ?_
    rintro e w4 ⟨rfl, hb4⟩
    have HM4 := Aside0.mk (HM3.out.below hb4)
    have HB4 : Aside0 (Below X.heap.size X w4) := ⟨HB3.out.trans (hb4.mono HB3.out.size)⟩
    clear hb4
    go_wp2_with fail
    refine (len_c w4 _ _ _ HM4.out).mono ?_
    rintro e w5 ⟨rfl, rfl⟩
    go_wp2_with fail
    go_ret
    exact ⟨rfl, HB4.out⟩
  · have HW := Aside0.mk hw
    have HR := Aside0.mk hr
    have HI := Aside0.mk hi
    have hl2 : ((L'.length : Nat) : Int) = 2 := by omega
    clear hw hr hi
    rcases h5 with h5 | ⟨h5, h6⟩
    all_goals
      go_enter Try.func6, Try.ntmps6
      go_wp2_with fail
      refine (new_c _ (X.heap.size + 1) (by simp)).mono ?_
      rintro e w1 ⟨rfl, hm1, hb1⟩
      have HM1 : Aside0 (Mem w1 (X.heap.size + 1) (X.heap.size + 1) []) := ⟨by simpa using hm1⟩
      have HB0 : Aside0 (Below X.heap.size X w1) := ⟨HXX.out.trans (hb1.mono HXX.out.size)⟩
      have hx0 : w1.heap[X.heap.size]? = some (.cells #[.int .u8 s, .int .u8 t] 51 (0, 0)) := (hb1.block X.heap.size (by simp)).trans (heap_alloc_new X _)
      obtain ⟨hx1, hx2, hx3, hx4⟩ := blk2 hx0
      have HX0 := Aside0.mk hx0
      clear hm1 hb1 hx0
      go_wp2_with fail
      refine (HADD.out w1 HM1.out).mono ?_
      rintro e w2 ⟨rfl, hm2, hb2⟩
      have HM2 := Aside0.mk hm2
      have HB2 : Aside0 (Below X.heap.size X w2) := ⟨HB0.out.trans (hb2.mono (Nat.le_succ _))⟩
      have hx0 := (hb2.block X.heap.size (Nat.lt_succ_self _)).trans HX0.out
      obtain ⟨hx1, hx2, hx3, hx4⟩ := blk2 hx0
      have HX2 := Aside0.mk hx0
      clear hm2 hb2 hx0
      go_wp2_with fail
      first | rw [HA.out] | rw [HA2.out] | skip
      refine (HADD2.out w2 HM2.out).mono ?_
      rintro e w3 ⟨rfl, hm3, hb3⟩
      have HM3 := Aside0.mk hm3
      have HB3 : Aside0 (Below X.heap.size X w3) := ⟨HB2.out.trans (hb3.mono (Nat.le_succ _))⟩
      have hx0 := (hb3.block X.heap.size (Nat.lt_succ_self _)).trans HX2.out
      obtain ⟨hx1, hx2, hx3, hx4⟩ := blk2 hx0
      clear hm3 hb3 hx0
      go_wp2_with fail
      refine (write_c w3 (X.heap.size + 1) (X.heap.size + 1) L base 1 7 HM3.out (by omega) HB.out.1 HB.out.2 (by decide) (by decide) _ HW.out (fun q h => by cases h; exact HI.out)).mono ?_
      rintro e w4 ⟨rfl, hm4, hb4⟩
      have HM4 : Aside0 (Mem w4 (X.heap.size + 1) (X.heap.size + 1) L') := ⟨hm4⟩
      have HB4 : Aside0 (Below X.heap.size X w4) := ⟨HB3.out.trans (hb4.mono (Nat.le_succ _))⟩
      clear hm4 hb4
      go_wp2_with fail
      first | rw [HA.out] | rw [HA2.out] | skip
      refine (read_c w4 (X.heap.size + 1) (X.heap.size + 1) L' a 1 HM4.out (by omega) HAR.out.1 HAR.out.2 (by decide) (by decide) _ _ HR.out).mono ?_
      rintro e w5 ⟨rfl, hb5⟩
      have HM5 := Aside0.mk (HM4.out.below hb5)
      have HB5 : Aside0 (Below X.heap.size X w5) := ⟨HB4.out.trans (hb5.mono HB4.out.size)⟩
      clear hb5
      go_wp2_with fail
      refine (alive_c w5).mono ?_
      rintro e w6 ⟨rfl, hb6⟩
      have HM6 := Aside0.mk (HM5.out.below hb6)
      have HB6 : Aside0 (Below X.heap.size X w6) := ⟨HB5.out.trans (hb6.mono HB5.out.size)⟩
      clear hb6
      go_wp2_with fail
      refine (len_c w6 _ _ _ HM6.out).mono ?_
      rintro e w7 ⟨rfl, rfl⟩
      rw [hl2]
      go_wp2_with fail
      go_ret
      exact ⟨rfl, HB6.out⟩
set_option maxHeartbeats 2000000 in
set_option maxRecDepth 100000 in
theorem memApart_c (X : World) (base off s t : Int) (hb0 : 0 ≤ base) (hs0 : 0 ≤ s) (hs1 : s < 256) (ht0 : 0 ≤ t) (ht1 : t < 256) (ho0 : -32768 ≤ off) (ho1 : off < 32768) :
    Calls Try.prog 6 #[.int .u64 base, .int .i16 off, .agg #[.int .u8 s, .int .u8 t]] X fun e X' => e = .returned (.bool true) ∧ Below X.heap.size X X' := by
  have HXX : Aside0 (Below X.heap.size X (X.alloc (.cells #[.int .u8 s, .int .u8 t] 51))) := ⟨below_alloc (Below.refl _ _) _⟩
  have arm : (s = 0 ∨ (s ≠ 0 ∧ t = 0) ∨ (s ≠ 0 ∧ t ≠ 0 ∧ 9223372036854775808 < base) ∨ (s ≠ 0 ∧ t ≠ 0 ∧ base ≤ 9223372036854775808 ∧ base < 100000)) → Calls Try.prog 6 #[.int .u64 base, .int .i16 off, .agg #[.int .u8 s, .int .u8 t]] X fun e X' => e = .returned (.bool true) ∧ Below X.heap.size X X' := by
    clear hb0 ho0 ho1 hs0 hs1 ht0 ht1
    rintro (hz | ⟨hz, hy⟩ | ⟨hz, hy, hd⟩ | ⟨hz, hy, hd, hd2⟩)
    · subst hz
      go_enter Try.func6, Try.ntmps6
      go_wp2_with fail
      refine (new_c _ X.heap.size (Nat.le_of_lt (by simp))).mono ?_
      rintro e w1 ⟨rfl, hm1, hb1⟩
      have hx0 : w1.heap[X.heap.size]? = some (.cells #[.int .u8 _, .int .u8 _] 51 (0, 0)) := (hb1.block X.heap.size (by simp)).trans (heap_alloc_new X _)
      obtain ⟨hx1, hx2, hx3, hx4⟩ := blk2 hx0
      have HB0 : Aside0 (Below X.heap.size X w1) := ⟨HXX.out.trans (hb1.mono HXX.out.size)⟩
      clear hm1 hb1 hx0
      go_wp2_with fail
      refine (alive_c w1).mono ?_
      rintro e w2 ⟨rfl, hb2⟩
      go_wp2_with fail
      go_ret
      exact ⟨rfl, HB0.out.trans (hb2.mono HB0.out.size)⟩
    · have hz' : (s == 0) = false := beq_eq_false_iff_ne.mpr hz
      subst hy
      go_enter Try.func6, Try.ntmps6
      go_wp2_with fail
      refine (new_c _ X.heap.size (Nat.le_of_lt (by simp))).mono ?_
      rintro e w1 ⟨rfl, hm1, hb1⟩
      have hx0 : w1.heap[X.heap.size]? = some (.cells #[.int .u8 _, .int .u8 _] 51 (0, 0)) := (hb1.block X.heap.size (by simp)).trans (heap_alloc_new X _)
      obtain ⟨hx1, hx2, hx3, hx4⟩ := blk2 hx0
      have HB0 : Aside0 (Below X.heap.size X w1) := ⟨HXX.out.trans (hb1.mono HXX.out.size)⟩
      clear hm1 hb1 hx0
      go_wp2_with fail
      refine (alive_c w1).mono ?_
      rintro e w2 ⟨rfl, hb2⟩
      go_wp2_with fail
      go_ret
      exact ⟨rfl, HB0.out.trans (hb2.mono HB0.out.size)⟩
    · have hz' : (s == 0) = false := beq_eq_false_iff_ne.mpr hz
      have hy' : (t == 0) = false := beq_eq_false_iff_ne.mpr hy
      go_enter Try.func6, Try.ntmps6
      go_wp2_with fail
      refine (new_c _ X.heap.size (Nat.le_of_lt (by simp))).mono ?_
      rintro e w1 ⟨rfl, hm1, hb1⟩
      have hx0 : w1.heap[X.heap.size]? = some (.cells #[.int .u8 _, .int .u8 _] 51 (0, 0)) := (hb1.block X.heap.size (by simp)).trans (heap_alloc_new X _)
      obtain ⟨hx1, hx2, hx3, hx4⟩ := blk2 hx0
      have HB0 : Aside0 (Below X.heap.size X w1) := ⟨HXX.out.trans (hb1.mono HXX.out.size)⟩
      clear hm1 hb1 hx0
      go_wp2_with fail
      refine (alive_c w1).mono ?_
      rintro e w2 ⟨rfl, hb2⟩
      go_wp2_with fail
      go_ret
      exact ⟨rfl, HB0.out.trans (hb2.mono HB0.out.size)⟩
    · have hz' : (s == 0) = false := beq_eq_false_iff_ne.mpr hz
      have hy' : (t == 0) = false := beq_eq_false_iff_ne.mpr hy
      go_enter Try.func6, Try.ntmps6
      go_wp2_with fail
      refine (new_c _ X.heap.size (Nat.le_of_lt (by simp))).mono ?_
      rintro e w1 ⟨rfl, hm1, hb1⟩
      have hx0 : w1.heap[X.heap.size]? = some (.cells #[.int .u8 _, .int .u8 _] 51 (0, 0)) := (hb1.block X.heap.size (by simp)).trans (heap_alloc_new X _)
      obtain ⟨hx1, hx2, hx3, hx4⟩ := blk2 hx0
      have HB0 : Aside0 (Below X.heap.size X w1) := ⟨HXX.out.trans (hb1.mono HXX.out.size)⟩
      clear hm1 hb1 hx0
      go_wp2_with fail
      refine (alive_c w1).mono ?_
      rintro e w2 ⟨rfl, hb2⟩
      go_wp2_with fail
      go_ret
      exact ⟨rfl, HB0.out.trans (hb2.mono HB0.out.size)⟩
  by_cases h0 : s = 0
  · exact arm (.inl h0)
  by_cases h00 : t = 0
  · exact arm (.inr (.inl ⟨h0, h00⟩))
  by_cases h1 : 9223372036854775808 < base
  · exact arm (.inr (.inr (.inl ⟨h0, h00, h1⟩)))
  by_cases h2 : base < 100000
  · exact arm (.inr (.inr (.inr ⟨h0, h00, by omega, h2⟩)))
  clear arm
  obtain ⟨s', rfl⟩ : ∃ s' : Nat, s = s' := ⟨s.toNat, by omega⟩
  obtain ⟨t', rfl⟩ : ∃ t' : Nat, t = t' := ⟨t.toNat, by omega⟩
  exact memApart_m X base off s' t' (by omega) (by omega) (by omega) (by omega) (by omega) (by omega) ho0 ho1
end Go.Proofs.Ytlolhmocimaobaa.PAll
