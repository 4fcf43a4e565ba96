/- Plain facts: the reference's reading, and that reading what was written gives the sections back. -/
import Derived.Test.YtnpjfkleoijbiaaBoxRef2
import Derived.Test.YtnpjfkleoijbiaaPAllx7
namespace Go.Proofs.Ytnpjfkleoijbiaa.PAll
open Go.RowKit Go.Proofs.YtnpjfkleoijbiaaW.PrintWords Go.Proofs.YtnpjfkleoijbiaaW.PrintLast Go.Proofs.YtnpjfkleoijbiaaW.PrintMore

theorem leV_le : ∀ (n : Nat) (x : Int), 0 ≤ x → x < 256 ^ n → leV (le n x) = x := by
  intro n
  induction n with
  | zero => intro x h0 h1; simp at h1; simp [le, leV]; omega
  | succ n ih =>
    intro x h0 h1
    rw [Int.pow_succ] at h1
    rw [le_cons, leV, ih (x / 256) (by omega) (by omega)]
    unfold byteAt; simp; omega
theorem part_mid (A B C : List Int) (a n : Nat) (ha : A.length = a) (hn : B.length = n) : partL (A ++ B ++ C) a n = B ∧ inR (A ++ B ++ C) a n = true := by
  subst ha; subst hn
  have hin : inR (A ++ B ++ C) A.length B.length = true := by unfold inR; simp
  refine ⟨?_, hin⟩
  unfold partL
  rw [if_pos hin]
  have : (A ++ B ++ C).take (A.length + B.length) = A ++ B := by
    have e : A.length + B.length = (A ++ B).length := by simp
    rw [e, List.take_left]
  rw [this, List.drop_left]
theorem num_mid (A C : List Int) (x : Int) (a n : Nat) (ha : A.length = a) (h0 : 0 ≤ x) (h1 : x < 256 ^ n) : numL (A ++ le n x ++ C) a n = x ∧ inR (A ++ le n x ++ C) a n = true := by
  have h := part_mid A (le n x) C a n ha (le_length n x)
  exact ⟨by unfold numL; rw [h.1, leV_le n x h0 h1], h.2⟩

theorem wbytes_count (m : List S50) (hm : m.length ≤ 16) : numL (wbytes m) 6 2 = m.length ∧ inR (wbytes m) 6 2 = true := by
  have e : wbytes m = ([83, 76, 67, 49] ++ le 2 1) ++ le 2 (m.length : Int) ++ (le 4 (wsize m : Int) ++ List.replicate 4 0 ++ rowsB (headN m.length) m ++ List.replicate (headN m.length - (16 + 12 * m.length)) 0 ++ bodyB m) := by
    simp [wbytes, hdrB]
  rw [e]
  exact num_mid _ _ _ 6 2 (by simp [le_length]) (by omega) (by omega)
theorem wbytes_cnt (m : List S50) (hm : m.length ≤ 16) : cntF (wbytes m) = m.length := by
  unfold cntF; rw [(wbytes_count m hm).1]; unfold mn; omega
theorem wbytes_row (m m1 m2 : List S50) (s : S50) (hm : m = m1 ++ s :: m2) (hn : m.length ≤ 16) (hs : wsize m ≤ 1073741824) (hk : 0 ≤ s.f0 ∧ s.f0 ≤ 65535) :
    rowF (wbytes m) m1.length = s ∧ rowOk (wbytes m) m1.length = true := by
  have hu := upN_ge s.f1.length
  have hd : datas m = datas m1 + (upN s.f1.length + datas m2) := by rw [hm, datas_append]; rfl
  have hb : bodyB m = bodyB m1 ++ (s.f1 ++ List.replicate (upN s.f1.length - s.f1.length) 0 ++ bodyB m2) := by rw [hm, bodyB_append]; rfl
  have hr' : ∀ a, rowsB a m = rowsB a m1 ++ (le 4 s.f0 ++ le 4 ((a + datas m1 : Nat) : Int) ++ le 4 s.f1.length ++ rowsB (a + datas m1 + upN s.f1.length) m2) := by
    intro a; rw [hm, rowsB_append]; rfl
  have hr := hr' (headN m.length)
  clear hr'
  have hH : headN m.length + (datas m1 + (upN s.f1.length + datas m2)) ≤ 1073741824 := by rw [← hd]; exact hs
  have hHn : headN m.length = upN (16 + 12 * m.length) := rfl
  have huH := upN_ge (16 + 12 * m.length)
  generalize hE : hdrB m.length (wsize m) = E at *
  have hEl : E.length = 16 := by rw [← hE, hdrB_length]
  have hw : wbytes m = E ++ rowsB (headN m.length) m ++ List.replicate (headN m.length - (16 + 12 * m.length)) 0 ++ bodyB m := by rw [← hE]; rfl
  generalize hT : List.replicate (headN m.length - (16 + 12 * m.length)) (0 : Int) ++ bodyB m = T at *
  have hA : (E ++ rowsB (headN m.length) m1).length = 16 + 12 * m1.length := by rw [List.length_append, hEl, rowsB_length]
  have n0 : numL (wbytes m) (16 + 12 * m1.length) 4 = s.f0 ∧ inR (wbytes m) (16 + 12 * m1.length) 4 = true := by
    have e : wbytes m = (E ++ rowsB (headN m.length) m1) ++ le 4 s.f0 ++ (le 4 ((headN m.length + datas m1 : Nat) : Int) ++ le 4 s.f1.length ++ rowsB (headN m.length + datas m1 + upN s.f1.length) m2 ++ T) := by
      rw [hw, hr, ← hT]; simp only [List.append_assoc]
    rw [e]; exact num_mid _ _ _ _ 4 hA hk.1 (by omega)
  have n1 : numL (wbytes m) (16 + 12 * m1.length + 4) 4 = ((headN m.length + datas m1 : Nat) : Int) ∧ inR (wbytes m) (16 + 12 * m1.length + 4) 4 = true := by
    have e : wbytes m = (E ++ rowsB (headN m.length) m1 ++ le 4 s.f0) ++ le 4 ((headN m.length + datas m1 : Nat) : Int) ++ (le 4 s.f1.length ++ rowsB (headN m.length + datas m1 + upN s.f1.length) m2 ++ T) := by
      rw [hw, hr, ← hT]; simp only [List.append_assoc]
    rw [e]; exact num_mid _ _ _ _ 4 (by rw [List.length_append, hA, le_length]) (by omega) (by omega)
  have n2 : numL (wbytes m) (16 + 12 * m1.length + 8) 4 = s.f1.length ∧ inR (wbytes m) (16 + 12 * m1.length + 8) 4 = true := by
    have e : wbytes m = (E ++ rowsB (headN m.length) m1 ++ le 4 s.f0 ++ le 4 ((headN m.length + datas m1 : Nat) : Int)) ++ le 4 (s.f1.length : Int) ++ (rowsB (headN m.length + datas m1 + upN s.f1.length) m2 ++ T) := by
      rw [hw, hr, ← hT]; simp only [List.append_assoc]
    rw [e]; exact num_mid _ _ _ _ 4 (by rw [List.length_append, List.length_append, hA, le_length, le_length]) (by omega) (by omega)
  have n3 : partL (wbytes m) (headN m.length + datas m1) s.f1.length = s.f1 ∧ inR (wbytes m) (headN m.length + datas m1) s.f1.length = true := by
    have e : wbytes m = (E ++ rowsB (headN m.length) m ++ List.replicate (headN m.length - (16 + 12 * m.length)) 0 ++ bodyB m1) ++ s.f1 ++ (List.replicate (upN s.f1.length - s.f1.length) 0 ++ bodyB m2) := by
      rw [hw, hb]; simp only [List.append_assoc]
    rw [e]; exact part_mid _ _ _ _ _ (by rw [List.length_append, List.length_append, List.length_append, hEl, rowsB_length, List.length_replicate, bodyB_length]; omega) rfl
  constructor
  · unfold rowF; rw [n0.1, n1.1, n2.1, Int.toNat_natCast, Int.toNat_natCast, n3.1]
  · unfold rowOk; rw [n0.2, n1.2, n2.2, n1.1, n2.1, Int.toNat_natCast, Int.toNat_natCast, n3.2]; rfl
theorem wbytes_rows (m : List S50) (hz : wcheck m = 0) : ∀ (i : Nat), i ≤ m.length → outF (wbytes m) i = m.take i ∧ okF (wbytes m) i = true := by
  obtain ⟨h1, h2, h3⟩ := wcheck0 hz
  intro i
  induction i with
  | zero => intro _; exact ⟨by simp [outF], (wbytes_count m h1).2⟩
  | succ i ih =>
    intro hi
    obtain ⟨a, b⟩ := ih (by omega)
    obtain ⟨s, r, hq⟩ : ∃ s r, m.drop i = s :: r := by
      cases h : m.drop i with
      | nil => have := List.drop_eq_nil_iff.mp h; omega
      | cons q r2 => exact ⟨q, r2, rfl⟩
    have hm : m = m.take i ++ s :: r := by rw [← hq, List.take_append_drop]
    have hl : (m.take i).length = i := by rw [List.length_take]; omega
    have hmem : s ∈ m := by rw [hm]; simp
    have hk := kindsOk_mem m 0 h3 s hmem
    have hrow := wbytes_row m (m.take i) r s hm h1 h2 ⟨by omega, hk.2⟩
    rw [hl] at hrow
    refine ⟨?_, ?_⟩
    · rw [outF_succ, a, hrow.1]
      have : m[i]? = some s := by rw [← List.head?_drop, hq]; rfl
      rw [List.take_add_one, this]; rfl
    · simp only [okF, b, hrow.2, Bool.and_self]
/-- What is written is read back. -/
theorem read_wbytes (m : List S50) (hz : wcheck m = 0) : readRes (wbytes m) = (m, 0) := by
  obtain ⟨h1, h2, h3⟩ := wcheck0 hz
  have hc := wbytes_cnt m h1
  have hr := wbytes_rows m hz m.length (Nat.le_refl _)
  rw [List.take_length] at hr
  have : readOk (wbytes m) := by unfold readOk; rw [hc, hr.1]; exact ⟨hr.2, hz, rfl⟩
  unfold readRes; rw [if_pos this, hc, hr.1]

theorem okF_down (l : List Int) (i j : Nat) (h : okF l i = false) : okF l (i + j) = false := by
  induction j with
  | zero => exact h
  | succ j ih => rw [← Nat.add_assoc]; simp only [okF, ih, Bool.false_and]
theorem outF_sane (l : List Int) (i : Nat) (hi : i ≤ 16) (hl : l.length ≤ 1048576) : Sane (outF l i) := by
  refine ⟨by rw [outF_length]; omega, fun s hs => ?_⟩
  obtain ⟨j, _, rfl⟩ := List.mem_map.1 hs
  have := partL_len l (numL l (16 + 12 * j + 4) 4).toNat (numL l (16 + 12 * j + 8) 4).toNat
  show (partL _ _ _).length ≤ _
  omega
theorem check_flat (l : List Int) (n k : Nat) (hn : n ≤ 16) (hl : l.length ≤ 1048576) (hk : 100 < k) :
    slotcoderef15_Check.f k ((outF l n).map c46) = some (wcheck (outF l n)) := by
  have h := rcheck_f ((outF l n).map c46) (by rw [map_50_46]; exact outF_sane l n hn hl) k (by simp [outF_length]; omega)
  rwa [map_50_46] at h
theorem rread_l0 (l : List Int) (hb : Bytes l) (hl : l.length ≤ 1048576) (n : Nat) (hn : n ≤ 16) (hnl : 16 + 12 * n ≤ l.length) : ∀ (d i k : Nat), i + d = n → d + 1048576 + 200 < k → okF l i = true →
    slotcoderef15_Read.l0 k l (n : Int) ((outF l i).map c46) (i : Int) = some (if okF l n = true ∧ wcheck (outF l n) = 0 ∧ wbytes (outF l n) = l then ((outF l n).map c46, true) else ([], false)) := by
  intro d
  induction d with
  | zero =>
    intro i k hi hk hok
    obtain ⟨k, rfl⟩ : ∃ m, k = m + 1 := ⟨k - 1, by omega⟩
    obtain rfl : i = n := by omega
    simp only [slotcoderef15_Read.l0]; rw [if_neg (by omega), check_flat l i k hn hl (by omega)]
    simp only [Option.bind_some]
    by_cases hz : wcheck (outF l i) = 0
    · rw [if_pos hz, rwrite_f ((outF l i).map c46) (by rw [map_50_46]; exact hz) k (by simp [outF_length]; omega), map_50_46]
      simp only [Option.bind_some]
      obtain ⟨_, h2, _⟩ := wcheck0 hz
      unfold slotcoderef01_Same.f
      by_cases hlen : (wbytes (outF l i)).length = l.length
      · have hs := same_f (wbytes (outF l i)) l (by omega) k (by omega)
        unfold slotcoderef01_Same.f at hs
        rw [hs]
        simp only [Option.bind_some, decide_eq_true_eq]
        by_cases hw : wbytes (outF l i) = l
        · rw [if_pos hw, if_pos ⟨hok, hz, hw⟩]
        · rw [if_neg hw, if_neg (fun h => hw h.2.2)]
      · have hw : wbytes (outF l i) ≠ l := fun h => hlen (by rw [h])
        rw [if_neg (by omega), if_neg (fun h => hw h.2.2)]; rfl
    · rw [if_neg hz, if_neg (fun h => hz h.2.1)]
  | succ d ih =>
    intro i k hi hk hok
    obtain ⟨k, rfl⟩ : ∃ m, k = m + 1 := ⟨k - 1, by omega⟩
    have b0 := numL_bound hb (16 + 12 * i) 4
    have b1 := numL_bound hb (16 + 12 * i + 4) 4
    have b2 := numL_bound hb (16 + 12 * i + 8) 4
    have hin0 : inR l (16 + 12 * i) 4 = true := by unfold inR; simp; omega
    have hin1 : inR l (16 + 12 * i + 4) 4 = true := by unfold inR; simp; omega
    have hin2 : inR l (16 + 12 * i + 8) 4 = true := by unfold inR; simp; omega
    have w0 : wrap64 (16 + wrap64 (12 * (i : Int))) = ((16 + 12 * i : Nat) : Int) := by rw [w64 (12 * (i : Int)) (by omega) (by omega), w64 _ (by omega) (by omega)]; omega
    have w1 : wrap64 (20 + wrap64 (12 * (i : Int))) = ((16 + 12 * i + 4 : Nat) : Int) := by rw [w64 (12 * (i : Int)) (by omega) (by omega), w64 _ (by omega) (by omega)]; omega
    have w2 : wrap64 (24 + wrap64 (12 * (i : Int))) = ((16 + 12 * i + 8 : Nat) : Int) := by rw [w64 (12 * (i : Int)) (by omega) (by omega), w64 _ (by omega) (by omega)]; omega
    simp only [slotcoderef15_Read.l0]; rw [if_pos (by omega), w0, w1, w2, get4 k l _ hb (by omega) hl (by omega)]
    simp only [Option.bind_some]
    rw [get4 k l _ hb (by omega) hl (by omega)]
    simp only [Option.bind_some]
    rw [get4 k l _ hb (by omega) hl (by omega)]
    simp only [Option.bind_some]
    have rowdef : rowF l i = ⟨numL l (16 + 12 * i) 4, partL l (numL l (16 + 12 * i + 4) 4).toNat (numL l (16 + 12 * i + 8) 4).toNat⟩ := rfl
    have okdef : rowOk l i = inR l (numL l (16 + 12 * i + 4) 4).toNat (numL l (16 + 12 * i + 8) 4).toNat := by unfold rowOk; rw [hin0, hin1, hin2]; simp
    generalize numL l (16 + 12 * i) 4 = K at *
    generalize numL l (16 + 12 * i + 4) 4 = X at *
    generalize numL l (16 + 12 * i + 8) 4 = Y at *
    obtain ⟨X, rfl⟩ := Int.eq_ofNat_of_zero_le b1.1
    obtain ⟨Y, rfl⟩ := Int.eq_ofNat_of_zero_le b2.1
    rw [Int.toNat_natCast, Int.toNat_natCast] at okdef rowdef
    rw [w64 (X : Int) (by omega) (by omega), w64 (Y : Int) (by omega) (by omega), w64 K (by omega) (by omega), w64 ((X : Int) + (Y : Int)) (by omega) (by omega)]
    by_cases hR : X + Y ≤ l.length
    · have hin : inR l X Y = true := by unfold inR; simpa using hR
      have hp : partL l X Y = (l.take (X + Y)).drop X := by unfold partL; rw [if_pos hin]
      have hpl := partL_len l X Y
      have e1 : ((X : Int) + (Y : Int)).toNat = X + Y := by omega
      rw [if_neg (by omega), if_pos (by omega), if_pos (by omega), if_pos (by omega), e1, Int.toNat_natCast, ← hp, if_pos (by first | (simp; done) | (simp; omega)), if_pos (by rw [List.length_map, outF_length]; omega)]
      have e2 : (outF l i).map c46 ++ [(⟨K, [] ++ partL l X Y⟩ : S46)] = (outF l (i + 1)).map c46 := by
        rw [outF_succ, rowdef]; simp [c46]
      have e2' : (outF l i).map c46 ++ [{ f0 := K, f1 := [] ++ partL l X Y }] = (outF l (i + 1)).map c46 := e2
      rw [e2', w64 _ (by omega) (by omega), show (i : Int) + 1 = ((i + 1 : Nat) : Int) by omega]
      exact ih (i + 1) k (by omega) (by omega) (by simp only [okF, hok, okdef, hin, Bool.and_self])
    · have hin : inR l X Y = false := by unfold inR; simpa using hR
      have hno : okF l n = false := by
        have := okF_down l (i + 1) d (by simp only [okF, okdef, hin, Bool.and_false])
        rwa [show i + 1 + d = n by omega] at this
      rw [if_pos (by omega), if_neg (fun h => by rw [hno] at h; exact absurd h.1 (by decide))]
/-- The reference's reading: the sections of readOk bytes. -/
theorem rread_f (l : List Int) (hb : Bytes l) (hl : l.length ≤ 1048576) (k : Nat) (hk : 1048576 + 300 < k) :
    slotcoderef15_Read.f k l = some (if readOk l then ((outF l (cntF l)).map c46, true) else ([], false)) := by
  have hmin : ∀ m : List S50, 16 ≤ (wbytes m).length := fun m => by simp [wbytes, hdrB_length]
  unfold slotcoderef15_Read.f
  by_cases c1 : l.length < 16
  · rw [if_pos (by omega), if_neg (fun h => by have := hmin (outF l (cntF l)); rw [h.2.2] at this; omega)]
  · rw [if_neg (by omega), show (6 : Int) = ((6 : Nat) : Int) from rfl, get2 k l 6 hb (by omega) hl (by omega)]
    simp only [Option.bind_some]
    have bn := numL_bound hb 6 2
    obtain ⟨n, hn⟩ := Int.eq_ofNat_of_zero_le bn.1
    have hj : ∀ K b, slotcoderef15_Read.j0 (K + 1) l (n : Int) b = if b = true then (some (([] : List S46), false)) else (slotcoderef15_Read.l0 K l (n : Int) ([] : List S46) 0) := fun K b => rfl
    obtain ⟨k, rfl⟩ : ∃ m, k = m + 1 := ⟨k - 1, by omega⟩
    have e16 : wbytes (outF l (cntF l)) = l → (cntF l : Int) = numL l 6 2 := by
      intro h
      have h16 : cntF l ≤ 16 := by unfold cntF mn; omega
      have := (wbytes_count (outF l (cntF l)) (by rw [outF_length]; exact h16)).1
      rw [h, outF_length] at this
      exact this.symm
    rw [hn] at bn e16 ⊢
    rw [w64 (n : Int) (by omega) (by omega), hj, hj]
    by_cases c2 : (n : Int) > 16
    · rw [if_pos c2, if_pos rfl]
      have hno : ¬ readOk l := fun h => by
        have := e16 h.2.2
        have h16 : cntF l ≤ 16 := by unfold cntF mn; omega
        omega
      rw [if_neg hno]
    · rw [if_neg c2]
      have hcnt : cntF l = n := by unfold cntF mn; rw [hn]; omega
      rw [w64 (12 * (n : Int)) (by omega) (by omega), w64 _ (by omega) (by omega)]
      by_cases c3 : 16 + 12 * (n : Int) > (l.length : Int)
      · rw [if_pos (by simpa using c3)]
        have hno : ¬ readOk l := fun h => by
          have h3 := h.1
          rw [hcnt] at h3
          cases n with
          | zero => omega
          | succ q =>
            have h4 : rowOk l q = true := by simp only [okF, Bool.and_eq_true] at h3; exact h3.2
            unfold rowOk at h4
            simp only [Bool.and_eq_true] at h4
            have h5 := h4.1.1.2
            unfold inR at h5
            simp only [decide_eq_true_eq] at h5
            omega
        rw [if_neg hno]
      · rw [if_neg (by simpa using c3)]
        have h := rread_l0 l hb hl n (by omega) (by omega) n 0 k (by omega) (by omega) (show inR l 6 2 = true by unfold inR; simp; omega)
        have h' : slotcoderef15_Read.l0 k l (n : Int) [] 0 = _ := h
        rw [h']
        have hq : readOk l ↔ (okF l n = true ∧ wcheck (outF l n) = 0 ∧ wbytes (outF l n) = l) := by unfold readOk; rw [hcnt]
        by_cases hr : readOk l
        · rw [if_pos hr, if_pos (hq.1 hr), hcnt]
        · rw [if_neg hr, if_neg (fun h => hr (hq.2 h))]
theorem byte_wf (x : Int) (h : (Lit.int .u8 x).wf = true) : 0 ≤ x ∧ x < 256 := by
  have h' : (decide ((IntKind.u8).min ≤ x) && decide (x ≤ (IntKind.u8).max)) = true := h
  rw [show (IntKind.u8).min = 0 by decide, show (IntKind.u8).max = 255 by decide, Bool.and_eq_true, decide_eq_true_eq, decide_eq_true_eq] at h'
  omega
end Go.Proofs.Ytnpjfkleoijbiaa.PAll
