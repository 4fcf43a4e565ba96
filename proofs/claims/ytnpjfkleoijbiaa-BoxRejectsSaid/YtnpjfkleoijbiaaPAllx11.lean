-- By a program of this session (xp.py) over the kit's print, with texts of this session.
import Derived.Test.YtnpjfkleoijbiaaPAllx0
import Derived.ArgAppend
namespace Go.Proofs.Ytnpjfkleoijbiaa.PAll
open Go.RowKit Go.Proofs.YtnpjfkleoijbiaaW.PrintWords Go.Proofs.YtnpjfkleoijbiaaW.PrintLast Go.Proofs.YtnpjfkleoijbiaaW.PrintMore
attribute [local go_sem] max2_int min2_int max_two min_two max_three min_three max_four min_four   -- for this text's walks alone
set_option linter.unusedVariables false
set_option linter.unusedSimpArgs false

-- EXTERN
-- XIMPORT Derived.ArgAppend
/-! ### slotcoderef15_number: function 28 -/
def slotcoderef15_number.l0 : Nat → List Int → Int → Int → Int → Option (List Int)
  | 0, _, _, _, _ => none
  | k + 1, x0, x1, x2, x7 => if x7 < x2 then (if x0.length < 140737488355328 then (slotcoderef15_number.l0 k (x0 ++ [(Int.tmod x1 256) % 256]) (wrap64 (Int.tdiv x1 256)) x2 (wrap64 (x7 + 1))) else (none)) else (some x0)
def slotcoderef15_number.f (k : Nat) (l0 : List Int) (a1 : Int) (a2 : Int) : Option (List Int) := slotcoderef15_number.l0 k l0 a1 a2 0
theorem slotcoderef15_number.mono_l : ∀ k, (∀ y0 y1 y2 y3, LeO (slotcoderef15_number.l0 k y0 y1 y2 y3) (slotcoderef15_number.l0 (k + 1) y0 y1 y2 y3))
  | 0 => fun _ _ _ _ r h => by simp [slotcoderef15_number.l0] at h
  | k + 1 => by
    have ih0 := slotcoderef15_number.mono_l k
    · intro y0 y1 y2 y3
      unfold slotcoderef15_number.l0
      repeat' first
      | (with_reducible exact ih0 _ _ _ _)
      | (with_reducible exact LeO.refl _)
      | (with_reducible exact LeO.none _)
      | (with_reducible refine LeO.ite ?_ ?_)
      | (with_reducible refine LeO.bind ?_ (fun _ => ?_))
      | exact ih0 _ _ _ _
      | exact LeO.none _
      | refine LeO.ite ?_ ?_
      | refine LeO.bind ?_ (fun _ => ?_)
theorem slotcoderef15_number.mono : ∀ a0 a1 a2 k, LeO (slotcoderef15_number.f k a0 a1 a2) (slotcoderef15_number.f (k + 1) a0 a1 a2) := by
  intro a0 a1 a2 k
  have ih0 := slotcoderef15_number.mono_l k
  unfold slotcoderef15_number.f
  repeat' first
      | (with_reducible exact ih0 _ _ _ _)
      | (with_reducible exact LeO.refl _)
      | (with_reducible exact LeO.none _)
      | (with_reducible refine LeO.ite ?_ ?_)
      | (with_reducible refine LeO.bind ?_ (fun _ => ?_))
      | exact ih0 _ _ _ _
      | exact LeO.none _
      | refine LeO.ite ?_ ?_
      | refine LeO.bind ?_ (fun _ => ?_)
set_option maxHeartbeats 2000000 in
set_option maxRecDepth 100000 in
/-- The first number behind a literal's row: the row is full, so the first append moves it. -/
theorem number_lit (k : Nat) (ad : Addr) (n : Nat) (l0 : List Int) (a1 : Int) (a2 : Int) (r : List Int) (w : World) (hn : l0.length = n) (hr : Kd.C (Kd.int .u8) w (some ad) n l0) (ha : 0 < a2) (h : slotcoderef15_number.f k l0 a1 a2 = some r) :
    Calls Try.prog 28 #[.slice (some ad) n n, .int .i64 a1, .int .i64 a2] w fun e w' => ∃ v0_ : Value, e = .returned (v0_) ∧ Kd.R (Kd.int .u8) 5 w' w.heap.size (fun _ => True) v0_ r ∧ Below w.heap.size w w' := by
  subst hn
  have HR0 := Aside0.mk hr
  have HA2 := Aside0.mk ha
  have HB := Aside0.mk (Below.refl w.heap.size w)
  have H' : Aside0 (slotcoderef15_number.l0 k l0 a1 a2 0 = some r) := ⟨h⟩
  clear h hr ha
  obtain ⟨i0, hi, hzz⟩ := Option.map_eq_some_iff.1 info5
  simp only [Prod.mk.injEq] at hzz
  have HI := Aside0.mk hi
  have HZ := Aside0.mk hzz
  clear hi hzz
  go_enter Try.func28, Try.ntmps28
  go_wp2
  go_loopg [0, 1, 7] k (fun kq v0 v1 v7 w' => ∃ (x0_1 : List Int) (x1_1 : Int) (x7_1 : Int), v1 = .int .i64 x1_1 ∧ v7 = .int .i64 x7_1 ∧ Aside0 (slotcoderef15_number.l0 kq x0_1 x1_1 a2 x7_1 = some r) ∧ Aside0 (kq ≤ k) ∧ Aside0 (Below w.heap.size w w') ∧ Aside0 ((v0 = .slice (some ad) l0.length l0.length ∧ x0_1 = l0 ∧ x7_1 < a2) ∨ Kd.R (Kd.int .u8) 5 w' w.heap.size (fun _ => True) v0 x0_1))
  case atStart => exact ⟨l0, a1, 0, rfl, rfl, H', ⟨Nat.le_refl _⟩, HB, ⟨.inl ⟨rfl, rfl, HA2.out⟩⟩⟩
  case round =>
    clear H'
    obtain ⟨x0_1, x1_1, x7_1, rfl, rfl, HA, HK1, HB, HO⟩ := hrel
    cases gk with
    | zero => exact absurd HA.out (by simp [slotcoderef15_number.l0])
    | succ k1 =>
      have H := HA.out
      clear HA
      simp only [slotcoderef15_number.l0] at H
      by_cases c4 : x7_1 < a2
      · rw [if_pos c4] at H
        have c4b0 : decide (x7_1 < a2) = true := decide_eq_true c4
        by_cases c5 : x0_1.length < 140737488355328
        · rw [if_pos c5] at H
          have LMc5 := Aside0.mk c5
          have H' := Aside0.mk H
          clear H c5 c4
          rcases HO.out with ⟨hv, hx, -⟩ | hR
          · clear HO
            subst hv
            subst hx
            go_wp2_with (first | ((with_reducible refine gate_builtin (b := .append) (xs := #[.tmp 13, .tmp 17]) rfl ?_); at_builtin; refine wpList_append_grows _ rfl (.tmp 13) (.tmp 17) 25 rfl 5 i0 (.int .u8 0) 1 1 Try.underlying25 HI.out HZ.out.1 HZ.out.2.1 HZ.out.2.2 rfl (by decide) (some ad) x0_1.length x0_1.length (nums .u8 x0_1) rfl ?a1 ?a2 ?a3 ⟨wr.heap.size, 0, none⟩ 1 1 [.int .u8 ((Int.tmod x1_1 256) % 256)] rfl rfl ?a4 ?a5 ?a6 ?a7 ?a8 ?_; (case a1 => intro e_; cases e_); (case a2 => rw [nums_length, Nat.mul_one]); (case a3 => intro b_ e_; cases e_; exact fun j u hu => by have h1 := (Kd.C_alloc (Kd.C_below HR0.out HB.out) (.cells #[.int .u8 ((Int.tmod x1_1 256) % 256)] 5)); obtain ⟨hj, hju⟩ := List.getElem?_eq_some_iff.1 hu; rw [nums_length] at hj; obtain ⟨ad', ea, hc⟩ := Kd.at_int h1 (j : Int) (by omega) (by omega); cases ea; rw [Int.toNat_natCast] at hc; rw [hc, ← hju]; simp [rd, nums, List.getD_eq_getElem?_getD, List.getElem?_eq_getElem hj]); (case a4 => intro j u hj; match j, hj with | 0, hj => (simp at hj; subst hj; simp [Addr.add])); (case a5 => intro u hu; simp at hu; subst hu; rfl); (case a6 => omega); (case a7 => have := LMc5.out; simp only [maxLen]; omega); (case a8 => have := LMc5.out; omega); intro v1 w1 ho1 hg1; have HB1 := Aside0.mk ((below_alloc HB.out (.cells #[.int .u8 ((Int.tmod x1_1 256) % 256)] 5)).grown hg1 (Nat.le_trans HB.out.size (by simp)) (fun _ e_ => by cases e_)); have HO1 := Aside0.mk (show Kd.R (Kd.int .u8) 5 w1 w.heap.size (fun _ => True) v1 (x0_1 ++ [(Int.tmod x1_1 256) % 256]) from Kd.R_of_own (by have hz_ := own_weaken ho1 (show w.heap.size ≤ (wr.alloc (.cells #[.int .u8 ((Int.tmod x1_1 256) % 256)] 5)).heap.size from Nat.le_trans HB.out.size (by simp)); simpa [nums, encs] using hz_) (fun _ _ => trivial)); clear ho1 hg1 HB))
            go_roundg k1
            case measure => have := HK1.out; omega
            case rel => exact ⟨_, _, _, rfl, rfl, H', ⟨by have := HK1.out; omega⟩, HB1, ⟨.inr HO1.out⟩⟩
          · have HO_0 := Aside0.mk hR
            clear HO hR
            obtain ⟨Ao, co, eo⟩ := Kd.R_slice HO_0.out
            subst eo
            go_wp2_with (first | ((with_reducible refine gate_builtin (b := .append) (xs := #[.tmp 13, .tmp 17]) rfl ?_); at_builtin; refine Kd.R_append (Kd.int .u8) (w0 := w) w.heap.size rfl (.tmp 13) (.tmp 17) 25 5 (.int .u8 0) 1 rfl Try.underlying25 info5 rfl (by decide) (by omega) (.slice Ao x0_1.length co) x0_1 ((Int.tmod x1_1 256) % 256) [.int .u8 ((Int.tmod x1_1 256) % 256)] (fun _ => True) (fun _ => False) rfl rfl ?aP (fun _ hk => hk.elim) ?aF ?aO ?aB ?aS ?aL ?_; (case aP => exact rfl); (case aB => exact HB.out); (case aF => exact (fun _ _ => trivial)); (case aO => exact HO_0.out); (case aS => exact HB.out.size); (case aL => have := LMc5.out; omega); intro v1 w1 ho hb hg hat; clear hg hat; have HO1 := Aside0.mk ho; have HB1 := Aside0.mk hb; clear ho hb HB HO_0))
            go_roundg k1
            case measure => have := HK1.out; omega
            case rel => exact ⟨_, _, _, rfl, rfl, H', ⟨by have := HK1.out; omega⟩, HB1, ⟨.inr HO1.out⟩⟩
        · rw [if_neg c5] at H
          exact absurd H (by simp)
      · rw [if_neg c4] at H
        obtain rfl := Option.some.inj H
        rcases HO.out with ⟨-, -, hx⟩ | hR
        · exact absurd hx c4
        · have HO_0 := Aside0.mk hR
          have c4b0 : decide (x7_1 < a2) = false := decide_eq_false c4
          clear HO hR c4 H
          go_wp2
          go_ret
          exact ⟨_, rfl, HO_0.out, HB.out⟩

set_option maxHeartbeats 8000000 in
set_option maxRecDepth 100000 in
theorem slotcoderef15_number.calls (k : Nat) (P0_ : Nat → Prop) (u9000_ : Value) (l0 : List Int) (a1 : Int) (a2 : Int) (r : List Int) (w0 w : World) (hB : Below w0.heap.size w0 w) (ho0 : Kd.R (Kd.int .u8) 5 w w0.heap.size P0_ u9000_ l0) (h : slotcoderef15_number.f k l0 a1 a2 = some r) :
    Calls Try.prog 28 #[u9000_, .int .i64 a1, .int .i64 a2] w fun e w' => ∃ v0_ : Value, e = .returned (v0_) ∧ Kd.R (Kd.int .u8) 5 w' w0.heap.size (fun k_ => (P0_ k_ ∨ w.heap.size ≤ k_)) v0_ r ∧ Below w0.heap.size w0 w' ∧ Kept w w' (fun k_ => P0_ k_) := by
  have HO0 := Aside0.mk (show Kd.R (Kd.int .u8) 5 w w0.heap.size (fun k_ => (P0_ k_ ∨ w.heap.size ≤ k_)) u9000_ l0 from Kd.R_mono ho0 (fun k_ hk => (.inl hk)))
  have HK := Aside0.mk (Kept.refl w (fun k_ => P0_ k_))
  have HW0 := Aside0.mk hB.size
  have HB := Aside0.mk hB
  clear hB
  have H : (slotcoderef15_number.l0 k l0 a1 a2 0) = some r := h
  clear h
  have H' := Aside0.mk H
  clear H
  go_enter Try.func28, Try.ntmps28
  go_wp2
  go_loopg [0, 1, 7] k (fun kq v0 v1 v7 w' => ∃ (x0_1 : List Int) (x1_1 : Int) (x7_1 : Int), v1 = .int .i64 x1_1 ∧ v7 = .int .i64 x7_1 ∧ Aside0 (slotcoderef15_number.l0 kq x0_1 x1_1 a2 x7_1 = some r) ∧ Aside0 (kq ≤ k) ∧ Aside0 (Kd.R (Kd.int .u8) 5 w' w0.heap.size (fun k_ => (P0_ k_ ∨ w.heap.size ≤ k_)) v0 x0_1) ∧ Aside0 (Kept w w' (fun k_ => P0_ k_)) ∧ Aside0 (Below w0.heap.size w0 w'))
  case atStart => exact ⟨(l0), (a1), (0), (by first | rfl | (simp; done) | (simp [*]; done)), (by first | rfl | (simp; done) | (simp [*]; done)), H', ⟨Nat.le_refl _⟩, ⟨by (with_reducible repeat (first | apply Kd.R_alloc | apply Kd.R_drewN | apply Kd.R_drew)); exact HO0.out⟩, ⟨by repeat (first | (with_reducible first | exact HK.out | apply Kept.alloc | apply Kept.drewN | apply Kept.drew) | exact HK.out)⟩, ⟨by repeat (first | (with_reducible first | exact HB.out | apply below_alloc | apply pw_below_drewN | apply below_drew1) | exact HB.out)⟩⟩
  case round =>
    clear H'
    try clear c2
    try clear p2
    obtain ⟨x0_1, x1_1, x7_1, rfl, rfl, HA, HK1, HO_0, HK, HB⟩ := hrel
    cases gk with
    | zero => exact absurd HA.out (by simp [slotcoderef15_number.l0])
    | succ k1 =>
      have H := HA.out
      clear HA
      simp only [slotcoderef15_number.l0] at H
      by_cases c4 : x7_1 < a2
      · rw [if_pos c4] at H
        have c4b0 : decide (x7_1 < a2) = true := decide_eq_true c4
        clear c4
        by_cases c5 : x0_1.length < 140737488355328
        · rw [if_pos c5] at H
          have LMc5 := Aside0.mk c5
          clear c5
          obtain ⟨y129, hy129⟩ : ∃ y_ : List Int, y_ = (x0_1 ++ [(Int.tmod x1_1 256) % 256]) := ⟨_, rfl⟩
          replace H : (slotcoderef15_number.l0 k1 y129 (wrap64 (Int.tdiv x1_1 256)) a2 (wrap64 (x7_1 + 1))) = some r := by first | (rw [hy129]; with_reducible exact H) | (have H2_ := (Option.bind_some _ _).symm.trans H; rw [hy129]; with_reducible exact H2_) | (have H2_ := (Option.bind_some _ _).symm.trans H; with_reducible exact H2_) | with_reducible exact H | (rw [hy129]; exact H) | exact H
          have Ny129 := Aside0.mk hy129
          clear hy129
          have H' := Aside0.mk H
          clear H
          go_wp2_with (first | ((with_reducible refine gate_builtin (b := .append) (xs := #[.tmp 13, .tmp 17]) rfl ?_); at_builtin; refine Kd.R_append (Kd.int .u8) (w0 := w0) w0.heap.size rfl (.tmp 13) (.tmp 17) 25 5 (.int .u8 0) 1 rfl Try.underlying25 info5 rfl (by decide) (by omega) u0 x0_1 ((Int.tmod x1_1 256) % 256) [.int .u8 ((Int.tmod x1_1 256) % 256)] (fun k_ => (P0_ k_ ∨ w.heap.size ≤ k_)) (fun _ => False) rfl rfl ?aP (fun _ hk => hk.elim) ?aF ?aO ?aB ?aS ?aL ?_; (case aP => exact rfl); (case aB => exact (by repeat (first | (with_reducible first | exact HB.out | apply below_alloc | apply pw_below_drewN | apply below_drew1) | exact HB.out))); (case aF => exact (fun k_ hk => (.inr (Nat.le_trans (by first | exact HK.out.1 | exact (show Kept w _ (fun k_ => P0_ k_) from by repeat (first | (with_reducible first | exact HK.out | apply Kept.alloc | apply Kept.drewN | apply Kept.drew) | exact HK.out)).1) hk)))); (case aO => exact (by (with_reducible repeat (first | apply Kd.R_alloc | apply Kd.R_drewN | apply Kd.R_drew)); exact HO_0.out)); (case aS => exact (below_size (by repeat (first | (with_reducible first | exact HB.out | apply below_alloc | apply pw_below_drewN | apply below_drew1) | exact HB.out)))); (case aL => have := LMc5.out; omega); intro v130 w6 ho hb hg hat; rw [← Ny129.out] at ho; have n0_ := Aside0.mk (hb); have n1_ := Aside0.mk (Kept.of_grown (S := (fun k_ => P0_ k_)) hg (by repeat (first | (with_reducible first | exact HK.out | apply Kept.alloc | apply Kept.drewN | apply Kept.drew) | exact HK.out)) (fun k_ e_ => (HO_0.out.1 k_ e_))); have n2_ := Aside0.mk (ho); clear HB; clear HK; clear HO_0; have HB := n0_; have HK := n1_; have HO131 := n2_; clear n0_ n1_ n2_; clear ho hb hg hat))
          go_roundg k1
          case measure => have := HK1.out; omega
          case rel => exact ⟨(y129), (wrap64 (Int.tdiv x1_1 256)), (wrap64 (x7_1 + 1)), (by first | rfl | (simp; done) | (simp [*]; done)), (by first | rfl | (simp; done) | (simp [*]; done)), H', ⟨by have := HK1.out; omega⟩, ⟨by (with_reducible repeat (first | apply Kd.R_alloc | apply Kd.R_drewN | apply Kd.R_drew)); exact HO131.out⟩, ⟨by repeat (first | (with_reducible first | exact HK.out | apply Kept.alloc | apply Kept.drewN | apply Kept.drew) | exact HK.out)⟩, ⟨by repeat (first | (with_reducible first | exact HB.out | apply below_alloc | apply pw_below_drewN | apply below_drew1) | exact HB.out)⟩⟩
        · rw [if_neg c5] at H
          exact absurd H (by simp)
      · rw [if_neg c4] at H
        have c4b0 : decide (x7_1 < a2) = false := decide_eq_false c4
        clear c4
        obtain rfl := Option.some.inj H
        go_wp2
        go_ret
        exact ⟨_, by first | rfl | (simp [errW_none, errW_some] <;> rfl) | (simp [*, errW_none, errW_some] <;> rfl), by (with_reducible repeat (first | apply Kd.R_alloc | apply Kd.R_drewN | apply Kd.R_drew)); exact HO_0.out, by repeat (first | (with_reducible first | exact HB.out | apply below_alloc | apply pw_below_drewN | apply below_drew1) | exact HB.out), by repeat (first | (with_reducible first | exact HK.out | apply Kept.alloc | apply Kept.drewN | apply Kept.drew) | exact HK.out)⟩

end Go.Proofs.Ytnpjfkleoijbiaa.PAll
