/- The four laws over lists of sections: what the printed functions answer. -/
import Derived.Test.YtnpjfkleoijbiaaBoxRef3
import Derived.Test.YtnpjfkleoijbiaaPAllx16
namespace Go.Proofs.Ytnpjfkleoijbiaa.Pure
open Go.RowKit Go.Proofs.Ytnpjfkleoijbiaa.PAll Go.Proofs.YtnpjfkleoijbiaaW.PrintWords Go.Proofs.YtnpjfkleoijbiaaW.PrintLast

theorem alive_true : slotcodelaw15_alive.f = some true := rfl
theorem few_sane (l : List S46) (h : l.length ≤ 30 ∧ ∀ s ∈ l, s.f1.length ≤ 500) : Sane (l.map c50) :=
  ⟨by simp; omega, fun s hs => by obtain ⟨t, ht, rfl⟩ := List.mem_map.1 hs; have := h.2 t ht; show t.f1.length ≤ _; omega⟩
theorem few_wsize (l : List S50) (h : l.length ≤ 30 ∧ ∀ s ∈ l, s.f1.length ≤ 500) : wsize l ≤ 20000 := by
  have hd : ∀ t : List S50, (∀ s ∈ t, s.f1.length ≤ 500) → datas t ≤ t.length * 508 := by
    intro t
    induction t with
    | nil => intro _; simp [datas]
    | cons s r ih =>
      intro ht
      have h1 := ht s (by simp)
      have h2 := ih (fun x hx => ht x (by simp [hx]))
      have := upN_ge s.f1.length
      simp only [datas, List.length_cons]; omega
  have h1 := hd l h.2
  have := upN_ge (16 + 12 * l.length)
  unfold wsize headN; omega
theorem few50 (l : List S46) (h : l.length ≤ 30 ∧ ∀ s ∈ l, s.f1.length ≤ 500) : (l.map c50).length ≤ 30 ∧ ∀ s ∈ l.map c50, s.f1.length ≤ 500 :=
  ⟨by simpa using h.1, fun s hs => by obtain ⟨t, ht, rfl⟩ := List.mem_map.1 hs; exact h.2 t ht⟩
theorem byteAt_range (x : Int) (i : Nat) : 0 ≤ byteAt x i ∧ byteAt x i < 256 := by unfold byteAt; omega
theorem Bytes_append {a b : List Int} (ha : Bytes a) (hb : Bytes b) : Bytes (a ++ b) := fun x hx => by
  rcases List.mem_append.1 hx with h | h
  · exact ha x h
  · exact hb x h
theorem Bytes_le (n : Nat) (x : Int) : Bytes (le n x) := fun y hy => by
  obtain ⟨i, _, rfl⟩ := List.mem_map.1 hy
  exact byteAt_range x i
theorem Bytes_rep (n : Nat) : Bytes (List.replicate n 0) := fun y hy => by
  have := (List.mem_replicate.1 hy).2; omega
theorem Bytes_rows (l : List S50) : ∀ a, Bytes (rowsB a l) := by
  induction l with
  | nil => intro a x hx; cases hx
  | cons s r ih => intro a; exact Bytes_append (Bytes_append (Bytes_append (Bytes_le _ _) (Bytes_le _ _)) (Bytes_le _ _)) (ih _)
theorem Bytes_body (l : List S50) (h : ∀ s ∈ l, Bytes s.f1) : Bytes (bodyB l) := by
  induction l with
  | nil => intro x hx; cases hx
  | cons s r ih => exact Bytes_append (Bytes_append (h s (by simp)) (Bytes_rep _)) (ih (fun x hx => h x (by simp [hx])))
theorem Bytes_wbytes (l : List S50) (h : ∀ s ∈ l, Bytes s.f1) : Bytes (wbytes l) := by
  refine Bytes_append (Bytes_append (Bytes_append ?_ (Bytes_rows _ _)) (Bytes_rep _)) (Bytes_body l h)
  refine Bytes_append (Bytes_append (Bytes_append (Bytes_append ?_ (Bytes_le _ _)) (Bytes_le _ _)) (Bytes_le _ _)) (Bytes_rep _)
  intro x hx
  simp at hx
  omega
theorem Bytes50 (l : List S46) (h : ∀ s ∈ l, Bytes s.f1) : ∀ s ∈ l.map c50, Bytes s.f1 := fun s hs => by
  obtain ⟨t, ht, rfl⟩ := List.mem_map.1 hs; exact h t ht
theorem write_f (l : List S50) (hs : Sane l) : box_Write.f l = if wcheck l = 0 then some (wbytes l, 0) else some ([], wcheck l) := by
  unfold box_Write.f; rw [if_pos hs]
theorem same15_self (l : List S46) (h : l.length ≤ 30 ∧ ∀ s ∈ l, s.f1.length ≤ 500) (m : List S46) (k : Nat) (hk : 1000 < k) : slotcoderef15_Same.f k l m = some (decide (l = m)) := by
  refine same15_f l m (by omega) (fun s hs => by have := h.2 s hs; omega) 501 (fun s hs => by have := h.2 s hs; omega) k (by omega)

/-- BoxWrites: size, check and bytes are the reference's. -/
theorem BoxWrites (l : List S46) (hl : l.length ≤ 4398046511103) : ∃ k, slotcodelaw15_BoxWrites.f k l = some true := by
  obtain ⟨b, hb, hb2⟩ := few_f l hl
  obtain ⟨K, hbig⟩ : ∃ K, l.length + 3000000 ≤ K := ⟨_, Nat.le_refl _⟩
  refine ⟨K, ?_⟩
  unfold slotcodelaw15_BoxWrites.f
  rw [hb _ (by omega)]
  simp only [Option.bind_some]
  cases b with
  | false => rw [if_neg (by decide), alive_true]; rfl
  | true =>
    have hf := hb2 rfl
    have hs := few_sane l hf
    rw [if_pos (by trivial), forward_f l (by omega) _ (by omega)]
    simp only [Option.bind_some]
    rw [write_f _ hs]
    by_cases hz : wcheck (l.map c50) = 0
    · rw [if_pos hz]
      simp only [Option.bind_some]
      rw [size_f _ hs _ (by rw [List.length_map]; omega)]
      simp only [Option.bind_some]
      rw [rsize_f l hs _ (by omega)]
      simp only [Option.bind_some]
      rw [if_pos (by trivial), rcheck_f l hs _ (by omega)]
      simp only [Option.bind_some]
      rw [if_pos hz, alive_true]
      simp only [Option.bind_some]
      rw [if_pos (by trivial), if_pos (by trivial), rwrite_f l hz _ (by omega)]
      simp only [Option.bind_some]
      have hw := few_wsize _ (few50 l hf)
      have hwl := wbytes_length (l.map c50)
      rw [same_f _ _ (by omega) _ (by omega), decide_eq_true rfl]; rfl
    · rw [if_neg hz]
      simp only [Option.bind_some]
      rw [size_f _ hs _ (by rw [List.length_map]; omega)]
      simp only [Option.bind_some]
      rw [rsize_f l hs _ (by omega)]
      simp only [Option.bind_some]
      rw [if_pos (by trivial), rcheck_f l hs _ (by omega)]
      simp only [Option.bind_some]
      rw [if_neg hz, alive_true]
      simp only [Option.bind_some]
      rw [if_pos (by trivial), if_pos (by trivial)]; simp

/-- BoxInverts: what was written is read back. -/
theorem BoxInverts (l : List S46) (hl : l.length ≤ 4398046511103) (hB : ∀ s ∈ l, Bytes s.f1) : ∃ k, slotcodelaw15_BoxInverts.f k l = some true := by
  obtain ⟨b, hb, hb2⟩ := few_f l hl
  obtain ⟨K, hbig⟩ : ∃ K, l.length + 3000000 ≤ K := ⟨_, Nat.le_refl _⟩
  refine ⟨K + 1, ?_⟩
  have hj : ∀ b, slotcodelaw15_BoxInverts.j0 (K + 1) l b = if b = true then ((slotcodelaw15_alive.f).bind fun t248 => (some t248)) else ((slotcodelaw15_forward.f K l).bind fun t249 => ((box_Write.f t249).bind fun bt252 => ((box_Read.f bt252.1).bind fun bt256 => ((slotcodelaw15_alive.f).bind fun t260 => (if t260 = true then (if bt252.2 = 0 then (if bt256.2 = 0 then ((slotcodelaw15_back.f K bt256.1).bind fun t261 => ((slotcoderef15_Same.f K t261 l).bind fun t264 => (some t264))) else (some false)) else (some false)) else (some false)))))) := fun b => rfl
  unfold slotcodelaw15_BoxInverts.f
  rw [hb _ (by omega)]
  simp only [Option.bind_some]
  cases b with
  | false => rw [if_neg (by decide), hj, if_pos (by trivial), alive_true]; rfl
  | true =>
    have hf := hb2 rfl
    have hs := few_sane l hf
    rw [if_pos (by trivial), rcheck_f l hs _ (by omega)]
    simp only [Option.bind_some]
    rw [hj]
    by_cases hz : wcheck (l.map c50) = 0
    · rw [if_neg (by simp [hz]), forward_f l (by omega) _ (by omega)]
      simp only [Option.bind_some]
      have hw := few_wsize _ (few50 l hf)
      have hwl := wbytes_length (l.map c50)
      have hr : box_Read.f (wbytes (l.map c50)) = some (l.map c50, 0) := by
        unfold box_Read.f; rw [if_pos ⟨by omega, Bytes_wbytes _ (Bytes50 l hB)⟩, read_wbytes _ hz]
      rw [write_f _ hs, if_pos hz]
      simp only [Option.bind_some]
      rw [hr]
      simp only [Option.bind_some]
      rw [alive_true]
      simp only [Option.bind_some]
      rw [if_pos (by trivial), if_pos (by trivial), if_pos (by trivial), back_f _ (by rw [List.length_map]; omega) _ (by rw [List.length_map]; omega), map_46_50]
      simp only [Option.bind_some]
      rw [same15_self l hf l _ (by omega), decide_eq_true rfl]; rfl
    · rw [if_pos (by simpa using hz), alive_true]; rfl

/-- BoxRejects: a container with another byte is rejected, or holds another list. -/
theorem BoxRejects (l : List S46) (at_ x : Int) (hl : l.length ≤ 4398046511103) (hB : ∀ s ∈ l, Bytes s.f1) (ha0 : 0 ≤ at_) (ha1 : at_ < 65536) (hx0 : 0 ≤ x) (hx1 : x < 256) : ∃ k, slotcodelaw15_BoxRejects.f k l at_ x = some true := by
  obtain ⟨b, hb, hb2⟩ := few_f l hl
  obtain ⟨K, hbig⟩ : ∃ K, l.length + 3000000 ≤ K := ⟨_, Nat.le_refl _⟩
  refine ⟨K + 1, ?_⟩
  unfold slotcodelaw15_BoxRejects.f
  rw [hb _ (by omega)]
  simp only [Option.bind_some]
  cases b with
  | false =>
    rw [if_neg (by decide)]
    simp only [slotcodelaw15_BoxRejects.j0]
    rw [if_pos (by trivial), alive_true]; rfl
  | true =>
    have hf := hb2 rfl
    have hs := few_sane l hf
    rw [if_pos (by trivial), rcheck_f l hs _ (by omega)]
    simp only [Option.bind_some]
    by_cases hz : wcheck (l.map c50) = 0
    · rw [hz]
      simp only [slotcodelaw15_BoxRejects.j0]
      rw [if_neg (by decide), rwrite_f l hz K (by omega)]
      simp only [Option.bind_some]
      have hw := few_wsize _ (few50 l hf)
      have hwl := wbytes_length (l.map c50)
      have h16 : 16 ≤ (wbytes (l.map c50)).length := by simp [wbytes, hdrB_length]
      have hWB := Bytes_wbytes _ (Bytes50 l hB)
      have hinv := read_wbytes (l.map c50) hz
      generalize hW : wbytes (l.map c50) = W at *
      have e1 : wrap64 at_ = at_ := w64 _ (by omega) (by omega)
      have e2 : Int.tmod at_ (W.length : Int) = at_ % (W.length : Int) := Int.tmod_eq_emod_of_nonneg ha0
      have e3 := Int.emod_nonneg at_ (show (W.length : Int) ≠ 0 by omega)
      have e4 := Int.emod_lt_of_pos at_ (show (0 : Int) < (W.length : Int) by omega)
      obtain ⟨i, hi⟩ := Int.eq_ofNat_of_zero_le e3
      rw [if_neg (by omega), e1, e2, hi]
      rw [hi] at e4
      rw [if_pos (by omega), if_pos e4]
      by_cases hsame : rd W (i : Int) = x
      · rw [if_pos hsame, alive_true]; rfl
      · rw [if_neg hsame, Int.toNat_natCast]
        have hlen : (W.set i x).length = W.length := List.length_set
        have hSB : Bytes (W.set i x) := fun y hy => by
          rcases List.mem_or_eq_of_mem_set hy with h | h
          · exact hWB y h
          · subst h; exact ⟨hx0, hx1⟩
        have hr : box_Read.f (W.set i x) = some (readRes (W.set i x)) := by unfold box_Read.f; rw [if_pos ⟨by omega, hSB⟩]
        have hne : W.set i x ≠ W := by
          intro h
          have h1 : (W.set i x)[i]? = some x := by rw [List.getElem?_set_self (by omega)]
          rw [h] at h1
          apply hsame
          simp [rd, List.getD_eq_getElem?_getD, h1]
        rw [hr]
        simp only [Option.bind_some]
        by_cases ok : readOk (W.set i x)
        · have e5 : readRes (W.set i x) = (outF (W.set i x) (cntF (W.set i x)), 0) := by unfold readRes; rw [if_pos ok]
          have h16 : cntF (W.set i x) ≤ 16 := by unfold cntF mn; omega
          rw [e5, if_pos (by trivial), alive_true]
          simp only [Option.bind_some]
          rw [if_pos (by trivial), back_f _ (by rw [outF_length]; omega) _ (by rw [outF_length]; omega)]
          simp only [Option.bind_some]
          have hsn := outF_sane (W.set i x) (cntF (W.set i x)) h16 (by omega)
          rw [same15_f _ l (by rw [List.length_map, outF_length]; omega) (fun s hs => by obtain ⟨t, ht, rfl⟩ := List.mem_map.1 hs; exact hsn.2 t ht) 20001
            (fun s hs => by
              obtain ⟨t, ht, rfl⟩ := List.mem_map.1 hs
              obtain ⟨j, _, rfl⟩ := List.mem_map.1 ht
              have := partL_len (W.set i x) (numL (W.set i x) (16 + 12 * j + 4) 4).toNat (numL (W.set i x) (16 + 12 * j + 8) 4).toNat
              show (partL _ _ _).length < _
              omega) K (by rw [List.length_map, outF_length]; omega)]
          simp only [Option.bind_some]
          have hno : (outF (W.set i x) (cntF (W.set i x))).map c46 ≠ l := by
            intro h
            apply hne
            have h2 : outF (W.set i x) (cntF (W.set i x)) = l.map c50 := by rw [← h, map_50_46]
            have h3 := ok.2.2
            rw [h2, hW] at h3
            exact h3.symm
          rw [decide_eq_false hno]; rfl
        · have e5 : readRes (W.set i x) = ([], 19) := by unfold readRes; rw [if_neg ok]
          rw [e5, if_neg (by show ¬ ((19 : Int) = 0); decide), alive_true]
          simp only [Option.bind_some]
          rw [if_pos (by trivial), if_pos (by trivial)]; rfl
    · have e0 : (wcheck (l.map c50) != 0) = true := by simpa using hz
      rw [e0]
      simp only [slotcodelaw15_BoxRejects.j0]
      rw [if_pos (by trivial), alive_true]; rfl

/-- What Get answers over the rest of a list. -/
def getR (kind : Int) : List S46 → List Int × Bool
  | [] => ([], false)
  | s :: r => if s.f0 = kind then (s.f1, true) else getR kind r
theorem get_l0 (l : List S46) (hl : l.length ≤ 1048576) (kind : Int) (t : List S46) : ∀ (i k : Nat), l.drop i = t → t.length < k → i ≤ l.length →
    box_Get.l0 k kind (l.map c50) (l.length : Int) (i : Int) = some (getR kind t) := by
  induction t with
  | nil =>
    intro i k ht hk hi
    obtain ⟨k, rfl⟩ : ∃ m, k = m + 1 := ⟨k - 1, by omega⟩
    have : l.length ≤ i := List.drop_eq_nil_iff.mp ht
    simp only [box_Get.l0]; rw [if_neg (by omega)]; rfl
  | cons s r ih =>
    intro i k ht hk hi
    obtain ⟨k, rfl⟩ : ∃ m, k = m + 1 := ⟨k - 1, by omega⟩
    obtain ⟨hd, hlt, hl2⟩ := drop_next ht
    have hr : rd_T50 (l.map c50) (i : Int) = c50 s := rdT_at _ i (c50 s) (r.map c50) (by rw [← List.map_drop, ht]; rfl)
    simp only [List.length_cons] at hk
    simp only [box_Get.l0]; rw [if_pos (by omega), if_pos (by omega), if_pos (by rw [List.length_map]; omega), hr]
    by_cases c : (c50 s).f0 = kind
    · have c' : s.f0 = kind := c
      rw [if_pos c]; simp only [getR]; rw [if_pos c']; rfl
    · have c' : ¬ s.f0 = kind := c
      rw [if_neg c, w64 _ (by omega) (by omega), show (i : Int) + 1 = ((i + 1 : Nat) : Int) by omega, ih (i + 1) k hd (by omega) (by omega)]
      simp only [getR]; rw [if_neg c']
theorem gets_l0 (l : List S46) (hf : l.length ≤ 30 ∧ ∀ s ∈ l, s.f1.length ≤ 500) (kind : Int) (t : List S46) : ∀ (i k : Nat), l.drop i = t → t.length + 1000 < k → i ≤ l.length →
    slotcodelaw15_BoxGets.l0 k kind (getR kind t).1 (getR kind t).2 l (l.length : Int) (i : Int) = some true := by
  induction t with
  | nil =>
    intro i k ht hk hi
    obtain ⟨k, rfl⟩ : ∃ m, k = m + 1 := ⟨k - 1, by omega⟩
    have : l.length ≤ i := List.drop_eq_nil_iff.mp ht
    simp only [slotcodelaw15_BoxGets.l0]; rw [if_neg (by omega), alive_true]; rfl
  | cons s r ih =>
    intro i k ht hk hi
    obtain ⟨k, rfl⟩ : ∃ m, k = m + 1 := ⟨k - 1, by omega⟩
    obtain ⟨hd, hlt, hl2⟩ := drop_next ht
    have hm : s ∈ l := List.mem_of_mem_drop (i := i) (by rw [ht]; simp)
    have h5 := hf.2 s hm
    simp only [List.length_cons] at hk
    simp only [slotcodelaw15_BoxGets.l0]; rw [if_pos (by omega), if_pos (by omega), if_pos (by omega), rdT46_at l i s r ht]
    by_cases c : s.f0 = kind
    · have eg : getR kind (s :: r) = (s.f1, true) := by simp only [getR]; rw [if_pos c]
      rw [if_pos c, alive_true, eg]
      simp only [Option.bind_some]
      rw [if_pos (by trivial), if_pos (by trivial), same_f _ _ (by omega) k (by omega), decide_eq_true rfl]; rfl
    · rw [if_neg c, w64 _ (by omega) (by omega), show (i : Int) + 1 = ((i + 1 : Nat) : Int) by omega]
      have eg : getR kind (s :: r) = getR kind r := by simp only [getR]; rw [if_neg c]
      rw [eg]
      exact ih (i + 1) k hd (by omega) (by omega)
/-- BoxGets: the data of the first section of a kind. -/
theorem BoxGets (l : List S46) (kind : Int) (hl : l.length ≤ 4398046511103) : ∃ k, slotcodelaw15_BoxGets.f k l kind = some true := by
  obtain ⟨b, hb, hb2⟩ := few_f l hl
  obtain ⟨K, hbig⟩ : ∃ K, l.length + 3000000 ≤ K := ⟨_, Nat.le_refl _⟩
  refine ⟨K + 1, ?_⟩
  unfold slotcodelaw15_BoxGets.f
  rw [hb _ (by omega)]
  simp only [Option.bind_some]
  cases b with
  | false => rw [if_neg (by decide), alive_true]; rfl
  | true =>
    have hf := hb2 rfl
    rw [if_pos (by trivial), forward_f l (by omega) _ (by omega)]
    simp only [Option.bind_some]
    have hg : box_Get.f (K + 1) (l.map c50) kind = some (getR kind l) := by
      unfold box_Get.f
      rw [List.length_map]
      exact get_l0 l (by omega) kind l 0 _ rfl (by omega) (Nat.zero_le _)
    rw [hg]
    simp only [Option.bind_some]
    exact gets_l0 l hf kind l 0 _ rfl (by omega) (Nat.zero_le _)
end Go.Proofs.Ytnpjfkleoijbiaa.Pure
