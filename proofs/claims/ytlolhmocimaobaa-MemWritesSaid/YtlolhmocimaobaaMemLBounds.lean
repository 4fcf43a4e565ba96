/- mem: the law MemBounds, its walk. -/
import Derived.Test.YtlolhmocimaobaaMemAlive
set_option linter.unusedVariables false
set_option linter.unusedSimpArgs false
namespace Go.Proofs.Ytlolhmocimaobaa.PAll
open Go.RowKit Go.Shelf Go.Proofs.YtlolhmocimaobaaW.PrintWords Go.Proofs.YtlolhmocimaobaaW.PrintLast Go.Proofs.YtlolhmocimaobaaW.PrintMore
def zeros (n : Nat) : List Int := List.replicate n 0
theorem zeros_len (n : Nat) : (zeros n).length = n := by simp [zeros]
theorem zeros_wf (n : Nat) : ∀ x ∈ zeros n, 0 ≤ x ∧ x < 256 := fun x hx => by obtain ⟨_, rfl⟩ := List.mem_replicate.1 hx; decide
def edge (base size : Int) : Bool := decide (size = 0) || decide (9223372036854775808 < base) || decide (base < 100000)
theorem HX2 (X : World) (off n : Int) : Below X.heap.size X (X.alloc (.cells #[.int .i16 off, .int .i64 n] 49)).drew := below_drew (below_alloc (Below.refl _ _) _)
theorem zeros_C (W : World) (s : Nat) (hs : s ≤ 1000000) : Kd.C (Kd.int .u8) (W.alloc (.cells (madeCells #[.int .u8 0] s) 5)) (some ⟨W.heap.size, 0, none⟩) (zeros s).length (zeros s) := by
  obtain ⟨A, c, he, _, _, hC⟩ := row_C (own_made W 0 5 .u8 s (Nat.zero_le _) (by omega))
  cases he
  rw [zeros_len]
  exact hC
theorem addz_c (W : World) (n0 m : Nat) (base : Int) (s : Nat) (h : Mem W n0 m []) (ha0 : 0 ≤ base) (hs : 1 ≤ s) (hs1 : s ≤ 1000000) (hfit : base + s ≤ 18446744073709551616) :
    Calls Try.prog 14 #[.pointer (some ⟨m, 0, none⟩), .int .u64 base, .slice (some ⟨W.heap.size, 0, none⟩) s s] (W.alloc (.cells (madeCells #[.int .u8 0] s) 5)) fun e X' => e = .returned (.bool true) ∧ Mem X' n0 m [⟨base, zeros s⟩] ∧ Below n0 W X' := by
  have hb := below_alloc (Below.refl W.heap.size W) (.cells (madeCells #[.int .u8 0] s) 5)
  have := add0_c _ n0 m base _ s (zeros s) (h.below hb) ha0 (zeros_C W s hs1) (by rw [zeros_len]; exact Nat.le_refl _) (by rw [zeros_len]; omega) (by rw [zeros_len]; omega) (by rw [zeros_len]; omega) (zeros_wf s)
  rw [zeros_len] at this
  exact this.mono fun e X' ⟨h1, h2, h3⟩ => ⟨h1, h2, (hb.mono h.1).trans h3⟩
theorem hit_one (base off n : Int) (s : Nat) : hitR (base + off) n ⟨base, zeros s⟩ = decide (1 ≤ n ∧ 0 ≤ off ∧ n ≤ s - off) := by
  have h := hit_iff (a := base + off) (n := n) (r := ⟨base, zeros s⟩)
  simp only [zeros_len] at h
  by_cases hc : 1 ≤ n ∧ 0 ≤ off ∧ n ≤ s - off
  · rw [decide_eq_true hc]; exact h.2 ⟨by omega, by omega, by omega⟩
  · rw [decide_eq_false hc]
    cases hh : hitR (base + off) n ⟨base, zeros s⟩ with
    | false => rfl
    | true => exact absurd (h.1 hh) (by omega)
theorem b_none {base off n : Int} {s : Nat} (h : ¬ (1 ≤ n ∧ 0 ≤ off ∧ n ≤ s - off)) : bytesF [⟨base, zeros s⟩] (base + off) n = none := by
  unfold bytesF
  have : hitR (base + off) n ⟨base, zeros s⟩ = false := by rw [hit_one, decide_eq_false h]
  simp [List.findIdx?_cons, this]
theorem b_some {base off n : Int} {s : Nat} (h : 1 ≤ n ∧ 0 ≤ off ∧ n ≤ s - off) : ∃ bs, bytesF [⟨base, zeros s⟩] (base + off) n = some bs ∧ (bs.length : Int) = n := by
  unfold bytesF
  have : hitR (base + off) n ⟨base, zeros s⟩ = true := by rw [hit_one, decide_eq_true h]
  simp only [List.findIdx?_cons, this, if_true, List.getElem?_cons_zero]
  exact ⟨_, rfl, by simp [zeros]; omega⟩
theorem r_none {L : List Reg} {a n : Int} (h : bytesF L a n = none) : readF L a n = (0, false) := by
  unfold readF; rw [h]; simp
theorem r_some {L : List Reg} {a n : Int} {bs : List Int} (h : bytesF L a n = some bs) (hn : numB n = true) : readF L a n = (leV bs, true) := by
  unfold readF; rw [h, if_pos hn]
theorem r_not {L : List Reg} {a n : Int} (hn : numB n = false) : readF L a n = (0, false) := by
  unfold readF; rw [hn]; simp
theorem addr_wrap (base off : Int) (h3 : base ≤ 9223372036854775808) (h4 : 100000 ≤ base) (ho0 : -32768 ≤ off) (ho1 : off < 32768) : IntKind.u64.wrap (base + IntKind.u64.wrap off) = base + off := by
  rw [u64_mod, u64_mod]; omega
set_option maxHeartbeats 2000000 in
set_option maxRecDepth 100000 in
theorem memBounds_m (X : World) (base off n : Int) (s : Nat) (h3 : base ≤ 9223372036854775808) (h4 : 100000 ≤ base) (hs : 1 ≤ s) (hs1 : s < 256) (ho0 : -32768 ≤ off) (ho1 : off < 32768) (hn0 : -9223372036854775808 ≤ n) (hn1 : n < 9223372036854775808) :
    Calls Try.prog 5 #[.int .u64 base, .int .u8 s, .agg #[.int .i16 off, .int .i64 n]] X fun e X' => e = .returned (.bool true) ∧ Below X.heap.size X X' := by
  have hz' : ((s : Int) == 0) = false := beq_eq_false_iff_ne.mpr (by omega)
  obtain ⟨a, ha⟩ : ∃ a, IntKind.u64.wrap (base + IntKind.u64.wrap off) = a := ⟨_, rfl⟩
  have hae : a = base + off := by rw [← ha]; exact addr_wrap base off h3 h4 ho0 ho1
  have HA := Aside0.mk ha
  have HA2 := Aside0.mk hae.symm
  have HAR : Aside0 (0 ≤ a ∧ a < 18446744073709551616) := ⟨by omega⟩
  have HB : Aside0 (0 ≤ base ∧ base < 18446744073709551616) := ⟨by omega⟩
  have HN := Aside0.mk (And.intro hn0 hn1)
  have HXX := Aside0.mk (HX2 X off n)
  have HADD : Aside0 (∀ W, Mem W X.heap.size (X.heap.size + 1) [] → Calls Try.prog 14 #[.pointer (some ⟨X.heap.size + 1, 0, none⟩), .int .u64 base, .slice (some ⟨W.heap.size, 0, none⟩) s s] (W.alloc (.cells (madeCells #[.int .u8 0] s) 5)) fun e X' => e = .returned (.bool true) ∧ Mem X' X.heap.size (X.heap.size + 1) [⟨base, zeros s⟩] ∧ Below X.heap.size W X') := ⟨fun W h => addz_c W X.heap.size (X.heap.size + 1) base s h HB.out.1 hs (by omega) (by omega)⟩
  have hmk := fun W => run_make_row' (P := Try.prog) 32 5 (.int .u8 0) 1 Try.underlying32 infoU8 rfl .u8 .u8 s (by omega) (by omega) W
  have hnum : (n = 1 ∨ n = 2 ∨ n = 4 ∨ n = 8) → numB n = true := fun h => decide_eq_true h
  have hnot : ¬ (n = 1 ∨ n = 2 ∨ n = 4 ∨ n = 8) → numB n = false := fun h => decide_eq_false h
  obtain ⟨o, y, b, hO, hY, hcase⟩ : ∃ (o : Option (List Int)) (y : Int) (b : Bool), bytesF [⟨base, zeros s⟩] a n = o ∧ readF [⟨base, zeros s⟩] a n = (y, b) ∧
      ((o = none ∧ b = false ∧ (off < 0 ∨ (0 ≤ off ∧ n < 1) ∨ (0 ≤ off ∧ 1 ≤ n ∧ (s : Int) - off < n))) ∨ ((∃ bs, o = some bs ∧ (bs.length : Int) = n) ∧ 0 ≤ off ∧ 1 ≤ n ∧ n ≤ s - off ∧
        ((b = true ∧ (n = 1 ∨ n = 2 ∨ n = 4 ∨ n = 8)) ∨ (b = false ∧ (n == 1) = false ∧ (n == 2) = false ∧ (n == 4) = false ∧ (n == 8) = false)))) := by
    rw [hae]
    by_cases hw : 1 ≤ n ∧ 0 ≤ off ∧ n ≤ s - off
    · obtain ⟨bs, h1, h2⟩ := b_some (base := base) hw
      by_cases hq : n = 1 ∨ n = 2 ∨ n = 4 ∨ n = 8
      · exact ⟨_, _, _, h1, r_some h1 (hnum hq), .inr ⟨⟨bs, rfl, h2⟩, hw.2.1, hw.1, hw.2.2, .inl ⟨rfl, hq⟩⟩⟩
      · refine ⟨_, _, _, h1, r_not (hnot hq), .inr ⟨⟨bs, rfl, h2⟩, hw.2.1, hw.1, hw.2.2, .inr ⟨rfl, ?_⟩⟩⟩
        refine ⟨beq_eq_false_iff_ne.mpr ?_, beq_eq_false_iff_ne.mpr ?_, beq_eq_false_iff_ne.mpr ?_, beq_eq_false_iff_ne.mpr ?_⟩ <;> omega
    · have h1 := b_none (base := base) hw
      exact ⟨_, _, _, h1, r_none h1, .inl ⟨rfl, rfl, by omega⟩⟩
  have HO := Aside0.mk hO
  have HY := Aside0.mk hY
  clear hO hY hnum hnot hae hn0 hn1 ha
  rcases hcase with ⟨rfl, rfl, hcase⟩ | ⟨⟨bs, rfl, hbs⟩, hoff, hn1, hnf, hcase⟩
  · rcases hcase with h5 | ⟨h5, h6⟩ | ⟨h5, h6, h7⟩
    all_goals
      go_enter Try.func5, Try.ntmps5
      go_wp2_with fail
      go_region
      go_wp2_with fail
      refine (new_c _ X.heap.size (Nat.le_of_lt (by simp))).mono ?_
      rintro e w1 ⟨rfl, hm1, hb1⟩
      have HM1 : Aside0 (Mem w1 X.heap.size (X.heap.size + 1) []) := ⟨by simpa using hm1⟩
      have HB0 : Aside0 (Below X.heap.size X w1) := ⟨HXX.out.trans (hb1.mono HXX.out.size)⟩
      clear hm1 hb1
      go_wp2_with fail
      refine (HADD.out w1 HM1.out).mono ?_
      rintro e w2 ⟨rfl, hm2, hb2⟩
      have HM2 := Aside0.mk hm2
      have HB2 : Aside0 (Below X.heap.size X w2) := ⟨HB0.out.trans hb2⟩
      clear hm2 hb2
      go_wp2_with fail
      first | rw [HA.out] | rw [HA2.out] | skip
      refine (bytes_c w2 X.heap.size (X.heap.size + 1) _ a _ HM2.out (show 1 ≤ 999999 by decide) HAR.out.1 HAR.out.2 HN.out.1 HN.out.2 _ HO.out).mono ?_
      rintro e w3 ⟨⟨v3, rfl, hr3⟩, hb3⟩
      obtain ⟨A3, c3, rfl⟩ := Kd.R_slice hr3
      have HM3 := Aside0.mk (HM2.out.below hb3)
      have HB3 : Aside0 (Below X.heap.size X w3) := ⟨HB2.out.trans (hb3.mono HB2.out.size)⟩
      clear hr3 hb3
      go_wp2_with fail
      first | rw [HA.out] | rw [HA2.out] | skip
      refine (read_c w3 X.heap.size (X.heap.size + 1) _ a _ HM3.out (show 1 ≤ 999999 by decide) HAR.out.1 HAR.out.2 HN.out.1 HN.out.2 _ _ HY.out).mono ?_
      rintro e w4 ⟨rfl, hb4⟩
      have HB4 : Aside0 (Below X.heap.size X w4) := ⟨HB3.out.trans (hb4.mono HB3.out.size)⟩
      clear hb4
      go_wp2_with fail
      refine (alive_c w4).mono ?_
      rintro e w5 ⟨rfl, hb5⟩
      have HB5 : Aside0 (Below X.heap.size X w5) := ⟨HB4.out.trans (hb5.mono HB4.out.size)⟩
      clear hb5
      go_wp2_with fail
      go_ret
      exact ⟨rfl, HB5.out⟩
  · have hlen : ((bs.length : Int) == n) = true := beq_iff_eq.mpr hbs
    clear hbs
    rcases hcase with ⟨rfl, hq⟩ | ⟨rfl, q1, q2, q3, q4⟩
    · rcases hq with rfl | rfl | rfl | rfl
      all_goals
        go_enter Try.func5, Try.ntmps5
        go_wp2_with fail
        go_region
        go_wp2_with fail
        refine (new_c _ X.heap.size (Nat.le_of_lt (by simp))).mono ?_
        rintro e w1 ⟨rfl, hm1, hb1⟩
        have HM1 : Aside0 (Mem w1 X.heap.size (X.heap.size + 1) []) := ⟨by simpa using hm1⟩
        have HB0 : Aside0 (Below X.heap.size X w1) := ⟨HXX.out.trans (hb1.mono HXX.out.size)⟩
        clear hm1 hb1
        go_wp2_with fail
        refine (HADD.out w1 HM1.out).mono ?_
        rintro e w2 ⟨rfl, hm2, hb2⟩
        have HM2 := Aside0.mk hm2
        have HB2 : Aside0 (Below X.heap.size X w2) := ⟨HB0.out.trans hb2⟩
        clear hm2 hb2
        go_wp2_with fail
        first | rw [HA.out] | rw [HA2.out] | skip
        refine (bytes_c w2 X.heap.size (X.heap.size + 1) _ a _ HM2.out (show 1 ≤ 999999 by decide) HAR.out.1 HAR.out.2 HN.out.1 HN.out.2 _ HO.out).mono ?_
        rintro e w3 ⟨⟨v3, rfl, hr3⟩, hb3⟩
        obtain ⟨A3, c3, rfl⟩ := Kd.R_slice (show Kd.R (Kd.int .u8) 5 w3 w2.heap.size (fun _ => True) v3 bs from hr3)
        have HM3 := Aside0.mk (HM2.out.below hb3)
        have HB3 : Aside0 (Below X.heap.size X w3) := ⟨HB2.out.trans (hb3.mono HB2.out.size)⟩
        clear hr3 hb3
        go_wp2_with fail
        first | rw [HA.out] | rw [HA2.out] | skip
        refine (read_c w3 X.heap.size (X.heap.size + 1) _ a _ HM3.out (show 1 ≤ 999999 by decide) HAR.out.1 HAR.out.2 HN.out.1 HN.out.2 _ _ HY.out).mono ?_
        rintro e w4 ⟨rfl, hb4⟩
        have HB4 : Aside0 (Below X.heap.size X w4) := ⟨HB3.out.trans (hb4.mono HB3.out.size)⟩
        clear hb4
        go_wp2_with fail
        refine (alive_c w4).mono ?_
        rintro e w5 ⟨rfl, hb5⟩
        have HB5 : Aside0 (Below X.heap.size X w5) := ⟨HB4.out.trans (hb5.mono HB4.out.size)⟩
        clear hb5
        go_wp2_with fail
        go_ret
        exact ⟨rfl, HB5.out⟩
    · go_enter Try.func5, Try.ntmps5
      go_wp2_with fail
      go_region
      go_wp2_with fail
      refine (new_c _ X.heap.size (Nat.le_of_lt (by simp))).mono ?_
      rintro e w1 ⟨rfl, hm1, hb1⟩
      have HM1 : Aside0 (Mem w1 X.heap.size (X.heap.size + 1) []) := ⟨by simpa using hm1⟩
      have HB0 : Aside0 (Below X.heap.size X w1) := ⟨HXX.out.trans (hb1.mono HXX.out.size)⟩
      clear hm1 hb1
      go_wp2_with fail
      refine (HADD.out w1 HM1.out).mono ?_
      rintro e w2 ⟨rfl, hm2, hb2⟩
      have HM2 := Aside0.mk hm2
      have HB2 : Aside0 (Below X.heap.size X w2) := ⟨HB0.out.trans hb2⟩
      clear hm2 hb2
      go_wp2_with fail
      first | rw [HA.out] | rw [HA2.out] | skip
      refine (bytes_c w2 X.heap.size (X.heap.size + 1) _ a _ HM2.out (show 1 ≤ 999999 by decide) HAR.out.1 HAR.out.2 HN.out.1 HN.out.2 _ HO.out).mono ?_
      rintro e w3 ⟨⟨v3, rfl, hr3⟩, hb3⟩
      obtain ⟨A3, c3, rfl⟩ := Kd.R_slice (show Kd.R (Kd.int .u8) 5 w3 w2.heap.size (fun _ => True) v3 bs from hr3)
      have HM3 := Aside0.mk (HM2.out.below hb3)
      have HB3 : Aside0 (Below X.heap.size X w3) := ⟨HB2.out.trans (hb3.mono HB2.out.size)⟩
      clear hr3 hb3
      go_wp2_with fail
      first | rw [HA.out] | rw [HA2.out] | skip
      refine (read_c w3 X.heap.size (X.heap.size + 1) _ a _ HM3.out (show 1 ≤ 999999 by decide) HAR.out.1 HAR.out.2 HN.out.1 HN.out.2 _ _ HY.out).mono ?_
      rintro e w4 ⟨rfl, hb4⟩
      have HB4 : Aside0 (Below X.heap.size X w4) := ⟨HB3.out.trans (hb4.mono HB3.out.size)⟩
      clear hb4
      go_wp2_with fail
      refine (alive_c w4).mono ?_
      rintro e w5 ⟨rfl, hb5⟩
      have HB5 : Aside0 (Below X.heap.size X w5) := ⟨HB4.out.trans (hb5.mono HB4.out.size)⟩
      clear hb5
      go_wp2_with fail
      go_ret
      exact ⟨rfl, HB5.out⟩
set_option maxHeartbeats 2000000 in
set_option maxRecDepth 100000 in
theorem memBounds_c (X : World) (base size off n : Int) (hb0 : 0 ≤ base) (hb1 : base < 18446744073709551616) (hs0 : 0 ≤ size) (hs1 : size < 256) (ho0 : -32768 ≤ off) (ho1 : off < 32768) (hn0 : -9223372036854775808 ≤ n) (hn1 : n < 9223372036854775808) :
    Calls Try.prog 5 #[.int .u64 base, .int .u8 size, .agg #[.int .i16 off, .int .i64 n]] X fun e X' => e = .returned (.bool true) ∧ Below X.heap.size X X' := by
  have arm : (size = 0 ∨ (size ≠ 0 ∧ 9223372036854775808 < base) ∨ (size ≠ 0 ∧ base ≤ 9223372036854775808 ∧ base < 100000)) → Calls Try.prog 5 #[.int .u64 base, .int .u8 size, .agg #[.int .i16 off, .int .i64 n]] X fun e X' => e = .returned (.bool true) ∧ Below X.heap.size X X' := by
    clear hb0 hb1 hn0 hn1 ho0 ho1 hs0 hs1
    rintro (hz | ⟨hz, hd⟩ | ⟨hz, hd, hd2⟩)
    · have hz' : (size == 0) = true := beq_iff_eq.mpr hz
      go_enter Try.func5, Try.ntmps5
      go_wp2_with fail
      go_region
      go_wp2_with fail
      refine (new_c _ X.heap.size (Nat.le_of_lt (by simp))).mono ?_
      rintro e w1 ⟨rfl, hm1, hb1⟩
      go_wp2_with fail
      refine (alive_c w1).mono ?_
      rintro e w2 ⟨rfl, hb2⟩
      go_wp2_with fail
      go_ret
      exact ⟨rfl, (HX2 X off n).trans ((hb1.trans (hb2.mono hb1.size)).mono (HX2 X off n).size)⟩
    · have hz' : (size == 0) = false := beq_eq_false_iff_ne.mpr hz
      go_enter Try.func5, Try.ntmps5
      go_wp2_with fail
      go_region
      go_wp2_with fail
      refine (new_c _ X.heap.size (Nat.le_of_lt (by simp))).mono ?_
      rintro e w1 ⟨rfl, hm1, hb1⟩
      go_wp2_with fail
      refine (alive_c w1).mono ?_
      rintro e w2 ⟨rfl, hb2⟩
      go_wp2_with fail
      go_ret
      exact ⟨rfl, (HX2 X off n).trans ((hb1.trans (hb2.mono hb1.size)).mono (HX2 X off n).size)⟩
    · have hz' : (size == 0) = false := beq_eq_false_iff_ne.mpr hz
      go_enter Try.func5, Try.ntmps5
      go_wp2_with fail
      go_region
      go_wp2_with fail
      refine (new_c _ X.heap.size (Nat.le_of_lt (by simp))).mono ?_
      rintro e w1 ⟨rfl, hm1, hb1⟩
      go_wp2_with fail
      refine (alive_c w1).mono ?_
      rintro e w2 ⟨rfl, hb2⟩
      go_wp2_with fail
      go_ret
      exact ⟨rfl, (HX2 X off n).trans ((hb1.trans (hb2.mono hb1.size)).mono (HX2 X off n).size)⟩
  by_cases h0 : size = 0
  · exact arm (.inl h0)
  by_cases h1 : 9223372036854775808 < base
  · exact arm (.inr (.inl ⟨h0, h1⟩))
  by_cases h2 : base < 100000
  · exact arm (.inr (.inr ⟨h0, by omega, h2⟩))
  clear arm
  obtain ⟨s, rfl⟩ : ∃ s : Nat, size = s := ⟨size.toNat, by omega⟩
  exact memBounds_m X base off n s (by omega) (by omega) (by omega) (by omega) ho0 ho1 hn0 hn1
end Go.Proofs.Ytlolhmocimaobaa.PAll
