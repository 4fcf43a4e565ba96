/- Plain facts: the texts of a table; the reference's Parse; equality of texts. -/
import Derived.Test.YtbepheikefkaiaaStrRef2
import Derived.Test.YtbepheikefkaiaaPAllx13
import Derived.Test.YtbepheikefkaiaaPAllx17
import Derived.Test.YtbepheikefkaiaaPAllx16
set_option linter.unusedVariables false
set_option linter.unusedSimpArgs false
namespace Go.Proofs.Ytbepheikefkaiaa.PAll
open Go.RowKit Go.Proofs.YtbepheikefkaiaaW.PrintWords Go.Proofs.YtbepheikefkaiaaW.PrintLast Go.Proofs.YtbepheikefkaiaaW.PrintMore

theorem zero_split (t : List Int) (hB : BytesOk t) (hz : 0 ≤ zeroAt t) : t = t.take (zeroAt t).toNat ++ 0 :: t.drop ((zeroAt t).toNat + 1) ∧ ∀ x ∈ t.take (zeroAt t).toNat, x ≠ 0 := by
  induction t with
  | nil => exact absurd hz (by decide)
  | cons x r ih =>
    have hx := hB x (by simp)
    rw [zeroAt_cons x r hx.1 hx.2] at hz ⊢
    by_cases h0 : x = 0
    · rw [if_pos h0]; subst h0; simp
    · rw [if_neg h0] at hz ⊢
      have hg := zeroAt_ge r
      by_cases hn : zeroAt r = -1
      · rw [if_pos hn] at hz; omega
      · rw [if_neg hn]
        obtain ⟨h1, h2⟩ := ih (fun y hy => hB y (by simp [hy])) (by omega)
        have e : (zeroAt r + 1).toNat = (zeroAt r).toNat + 1 := by omega
        rw [e, List.take_succ_cons, List.drop_succ_cons]
        refine ⟨by rw [List.cons_append, ← h1], fun y hy => ?_⟩
        rcases List.mem_cons.1 hy with rfl | hy
        · exact h0
        · exact h2 y hy
theorem bytesOf_strOf (l : List Int) (hB : BytesOk l) : bytesOf (strOfNums l) = l := by
  induction l with
  | nil => rfl
  | cons x r ih =>
    have hx := hB x (by simp)
    have h2 := ih (fun y hy => hB y (by simp [hy]))
    unfold bytesOf strOfNums at h2 ⊢
    simp only [List.map_cons, List.map_map, Function.comp_def] at h2 ⊢
    rw [h2]
    congr 1
    rw [UInt8.toNat_ofNat', Nat.mod_eq_of_lt (by omega)]
    omega
theorem noZero_bad (s : ByteArray) (h : ∀ x ∈ bytesOf s, x ≠ 0) (hn : s.toList ≠ []) : badS s = false := by
  unfold badS
  rw [decide_eq_false hn, Bool.false_or, decide_eq_false_iff_not]
  unfold bytesOf at h
  generalize s.data.toList = l at h
  clear hn
  induction l with
  | nil => decide
  | cons b r ih =>
    have h1 := ih (fun x hx => h x (by simp at hx ⊢; right; exact hx))
    have hb : (b == 0) = false := beq_eq_false_iff_ne.mpr (fun e => h 0 (by simp [e]) rfl)
    have hg := Lib.indexByte_ge r 0
    simp only [Lib.indexByte, hb]
    have : Lib.indexByte r 0 = -1 := by omega
    simp [this]
theorem zeroAt_text (s : ByteArray) (hb : badS s = false) (r : List Int) : zeroAt (bytesOf s ++ 0 :: r) = s.size := by
  unfold badS at hb
  rw [Bool.or_eq_false_iff, decide_eq_false_iff_not, decide_eq_false_iff_not] at hb
  have h := hb.2
  rw [← data_length s]
  unfold bytesOf
  generalize s.data.toList = l at h
  clear hb
  induction l with
  | nil =>
    show zeroAt (0 :: r) = 0
    rw [zeroAt_cons 0 r (by omega) (by omega), if_pos rfl]
  | cons b t ih =>
    have hlt := b.toNat_lt
    have hg := Lib.indexByte_ge t 0
    by_cases hb0 : b = 0
    · subst hb0
      exact absurd (by simp [Lib.indexByte]) h
    · have hbb : (b == 0) = false := beq_eq_false_iff_ne.mpr hb0
      have ht : ¬ 0 ≤ Lib.indexByte t 0 := by
        intro hh
        apply h
        simp only [Lib.indexByte, hbb]
        have : ¬ Lib.indexByte t 0 = -1 := by omega
        simp [this]; omega
      have e := ih ht
      have hne : ¬ ((b.toNat : Int) = 0) := by
        intro hh
        apply hb0
        apply UInt8.toNat_inj.1
        have : (0 : UInt8).toNat = 0 := rfl
        omega
      show zeroAt ((b.toNat : Int) :: (List.map (fun b => (b.toNat : Int)) t ++ 0 :: r)) = _
      rw [zeroAt_cons _ _ (by omega) (by omega), if_neg hne, e, if_neg (by omega)]
      simp
theorem strOf_bytesOf (s : ByteArray) : strOfNums (bytesOf s) = s := by
  apply ByteArray.ext
  apply Array.ext'
  unfold strOfNums bytesOf
  simp only [List.map_map, Function.comp_def, Int.toNat_natCast]
  simp
theorem getR_text (T : List Int) (at_ : Nat) (s : ByteArray) (r : List Int) (hd : T.drop at_ = bytesOf s ++ 0 :: r) (hb : badS s = false) : getR T at_ = (s, 0) := by
  have hz := zeroAt_text s hb r
  have hlt : at_ < T.length := by
    refine Decidable.byContradiction fun h => ?_
    rw [List.drop_eq_nil_iff.mpr (by omega)] at hd
    simp at hd
  unfold getR
  rw [if_neg (by omega), Int.toNat_natCast, hd, hz, if_pos (by omega)]
  rw [Int.toNat_natCast, List.take_append_of_le_length (by rw [bytesOf_length]; omega), List.take_of_length_le (by rw [bytesOf_length]; omega), strOf_bytesOf]
theorem bad_ne (s : ByteArray) (hb : badS s = false) : s.toList ≠ [] := by
  unfold badS at hb
  rw [Bool.or_eq_false_iff, decide_eq_false_iff_not] at hb
  exact hb.1
theorem drop_text (T : List Int) (at_ : Nat) (s : ByteArray) (r : List Int) (hd : T.drop at_ = bytesOf s ++ 0 :: r) : T.drop (at_ + s.size + 1) = r := by
  have : T.drop (at_ + (s.size + 1)) = (T.drop at_).drop (s.size + 1) := by rw [List.drop_drop]
  rw [show at_ + s.size + 1 = at_ + (s.size + 1) by omega, this, hd, show bytesOf s ++ 0 :: r = (bytesOf s ++ [0]) ++ r by simp,
    List.drop_append_of_le_length (by simp [bytesOf_length])]
  rw [List.drop_of_length_le (by simp [bytesOf_length])]
  rfl
/-- The items of a table of texts are the texts. -/
theorem items_table (ls : List ByteArray) : ∀ (K : Nat) (T : List Int) (at_ : Nat), T.drop at_ = textB ls → T.length < at_ + K → (∀ s ∈ ls, badS s = false) → (items K T at_).map (·.2) = ls ∧ (items K T at_).map (·.1) = offs at_ ls := by
  induction ls with
  | nil =>
    intro K T at_ hd hK hb
    have h : T.length ≤ at_ := List.drop_eq_nil_iff.mp hd
    cases K with
    | zero => exact ⟨rfl, rfl⟩
    | succ K => simp only [items]; rw [if_neg (by omega)]; exact ⟨rfl, rfl⟩
  | cons s r ih =>
    intro K T at_ hd hK hb
    have hs := hb s (by simp)
    have hd' : T.drop at_ = bytesOf s ++ 0 :: textB r := by rw [hd]; simp [textB]
    have hlt : at_ < T.length := by
      refine Decidable.byContradiction fun h => ?_
      rw [List.drop_eq_nil_iff.mpr (by omega)] at hd'
      simp at hd'
    obtain ⟨K, rfl⟩ : ∃ m, K = m + 1 := ⟨K - 1, by omega⟩
    obtain ⟨h1, h2⟩ := ih K T (at_ + s.size + 1) (drop_text T at_ s _ hd') (by omega) (fun x hx => hb x (by simp [hx]))
    simp only [items]
    rw [if_pos hlt, getR_text T at_ s _ hd' hs]
    simp only []
    rw [if_neg (bad_ne s hs)]
    simp only [List.map_cons, h1, h2, offs]
    exact ⟨trivial, trivial⟩
theorem getR_empty (l : List Int) (i : Int) (h : (getR l i).2 ≠ 0) : (getR l i).1.toList = [] := by
  unfold getR at h ⊢
  split
  · rw [Lib.toList_data]
  · rename_i h1
    rw [if_neg h1] at h
    split
    · rename_i h2; rw [if_pos h2] at h; exact absurd rfl h
    · rw [Lib.toList_data]
/-- Where no text is empty the bytes are the table of the texts. -/
theorem items_good (l : List Int) (hB : BytesOk l) : ∀ (K at_ : Nat), l.length < at_ + K → (∀ x ∈ items K l at_, x.2.toList ≠ []) →
    l.drop at_ = textB ((items K l at_).map (·.2)) ∧ ∀ s ∈ (items K l at_).map (·.2), badS s = false := by
  intro K
  induction K with
  | zero =>
    intro at_ hK _
    rw [List.drop_eq_nil_iff.mpr (by omega)]
    exact ⟨rfl, fun s hs => by cases hs⟩
  | succ K ih =>
    intro at_ hK hg
    simp only [items] at hg ⊢
    by_cases hlt : at_ < l.length
    · rw [if_pos hlt] at hg ⊢
      have hs := hg _ (List.mem_cons_self)
      simp only [] at hs
      rw [if_neg hs] at hg ⊢
      have hz : 0 ≤ zeroAt (l.drop at_) := by
        refine Decidable.byContradiction fun h => hs ?_
        refine getR_empty l at_ ?_
        unfold getR
        rw [if_neg (by omega), Int.toNat_natCast, if_neg h]
        decide
      have e : (getR l at_).1 = strOfNums ((l.drop at_).take (zeroAt (l.drop at_)).toNat) := by unfold getR; rw [if_neg (by omega), Int.toNat_natCast, if_pos hz]
      have hBd : BytesOk (l.drop at_) := fun x hx => hB x (List.mem_of_mem_drop hx)
      obtain ⟨h1, h2⟩ := zero_split (l.drop at_) hBd hz
      have hBt : BytesOk ((l.drop at_).take (zeroAt (l.drop at_)).toNat) := fun x hx => hBd x (List.mem_of_mem_take hx)
      have hb := bytesOf_strOf _ hBt
      rw [← e] at hb
      have hd : l.drop at_ = bytesOf (getR l at_).1 ++ 0 :: (l.drop at_).drop ((zeroAt (l.drop at_)).toNat + 1) := by rw [hb]; exact h1
      have hd2 := drop_text l at_ _ _ hd
      obtain ⟨k1, k2⟩ := ih (at_ + (getR l at_).1.size + 1) (by omega) (fun x hx => hg x (List.mem_cons_of_mem _ hx))
      rw [hd2] at k1
      refine ⟨?_, ?_⟩
      · refine hd.trans ?_
        simp only [List.map_cons, textB]
        rw [← k1, List.append_assoc]
        rfl
      · intro s hs'
        simp only [List.map_cons] at hs'
        rcases List.mem_cons.1 hs' with rfl | hs'
        · exact noZero_bad _ (by rw [hb]; exact h2) hs
        · exact k2 s hs'
    · rw [if_neg hlt, List.drop_eq_nil_iff.mpr (by omega)]
      exact ⟨rfl, fun s hs => by cases hs⟩
theorem rparse_l0 (l : List Int) (hB : BytesOk l) (hl : l.length ≤ 1000000) : ∀ (K at_ k : Nat) (acc : List ByteArray), l.length < at_ + K → l.length + K < k → acc.length + K ≤ 1000000000 → at_ ≤ l.length + 1 →
    slotcoderef14_Parse.l0 k l acc (at_ : Int) = some (if (items K l at_).any (fun x => x.2.toList.isEmpty) = true then ([], false) else (acc ++ (items K l at_).map (·.2), true)) := by
  intro K
  induction K with
  | zero =>
    intro at_ k acc hK hk _ _
    obtain ⟨k, rfl⟩ : ∃ m, k = m + 1 := ⟨k - 1, by omega⟩
    simp only [slotcoderef14_Parse.l0]
    rw [if_neg (by omega)]
    simp [items]
  | succ K ih =>
    intro at_ k acc hK hk ha hat
    obtain ⟨k, rfl⟩ : ∃ m, k = m + 1 := ⟨k - 1, by omega⟩
    simp only [slotcoderef14_Parse.l0]
    obtain ⟨it, hit⟩ : ∃ it, items (K + 1) l at_ = it := ⟨_, rfl⟩
    rw [hit]
    simp only [items] at hit
    by_cases hlt : at_ < l.length
    · rw [if_pos hlt] at hit
      rw [if_pos (by omega), rget_f l hB (by omega) at_ k (by omega)]
      simp only [Option.bind_some]
      by_cases hz : (getR l at_).2 = 0
      · rw [if_pos hz]
        by_cases he : (getR l at_).1.toList = []
        · rw [if_pos he] at hit
          rw [if_pos (by trivial), if_pos he, ← hit]
          simp [he]
        · rw [if_neg he] at hit
          rw [if_pos (by trivial), if_neg he, if_pos (by omega)]
          have hr := getR_room l at_ hlt
          have hsz : at_ + (getR l at_).1.size + 1 ≤ l.length + 1 := by
            rcases hr with h | h
            · exact h
            · exact absurd h he
          rw [w64 ((getR l at_).1.size + 1) (by omega) (by omega), w64 _ (by omega) (by omega), show (at_ : Int) + (((getR l at_).1.size : Int) + 1) = ((at_ + (getR l at_).1.size + 1 : Nat) : Int) by omega,
            ih (at_ + (getR l at_).1.size + 1) k (acc ++ [(getR l at_).1]) (by omega) (by omega) (by simp; omega) (by omega)]
          have hemp : (getR l at_).1.toList.isEmpty = false := by
            cases h : (getR l at_).1.toList with
            | nil => exact absurd h he
            | cons _ _ => rfl
          rw [← hit]
          simp only [List.any_cons, hemp, Bool.false_or, List.map_cons, List.append_assoc, List.cons_append, List.nil_append]
      · have he := getR_empty l at_ hz
        rw [if_pos he] at hit
        rw [if_neg hz, if_neg (by decide), ← hit]
        simp [he]
    · rw [if_neg hlt] at hit
      rw [if_neg (by omega), ← hit]
      simp
theorem rparse_f (l : List Int) (hB : BytesOk l) (hl : l.length ≤ 1000000) (k : Nat) (hk : l.length + l.length + 10 < k) :
    slotcoderef14_Parse.f k l = some (if (parseR l).2.2 = 0 then ((parseR l).1, true) else ([], false)) := by
  obtain ⟨k, rfl⟩ : ∃ m, k = m + 1 := ⟨k - 1, by omega⟩
  unfold slotcoderef14_Parse.f
  by_cases h0 : l.length = 0
  · have hp : parseR l = ([], [], 19) := by unfold parseR; rw [if_pos (.inl h0)]
    rw [if_pos (by omega), hp]
    simp only [slotcoderef14_Parse.j0]
    rw [if_pos (by trivial)]; rfl
  · rw [if_neg (by omega), if_pos (by omega)]
    by_cases hz : rd l 0 = 0
    · have hb : (rd l 0 != 0) = false := bne_eq_false_iff_eq.mpr hz
      rw [hb]
      simp only [slotcoderef14_Parse.j0]
      rw [if_neg (by decide)]
      have h1 := rparse_l0 l hB hl (l.length + 1) 1 k [] (by omega) (by omega) (by simp; omega) (by omega)
      have h1' : slotcoderef14_Parse.l0 k l [] 1 = _ := h1
      rw [h1']
      by_cases hany : (its l).any (fun x => x.2.toList.isEmpty) = true
      · have hp : parseR l = ([], [], 19) := by unfold parseR; rw [if_pos (.inr (.inr hany))]
        unfold its at hany
        rw [if_pos hany, hp]; rfl
      · have hn : ¬ (l.length = 0 ∨ rd l 0 ≠ 0 ∨ (its l).any (fun x => x.2.toList.isEmpty) = true) := by
          rintro (h | h | h)
          · exact h0 h
          · exact h hz
          · exact hany h
        have hp : parseR l = ((its l).map (·.2), (its l).map (·.1), 0) := by unfold parseR; rw [if_neg hn]
        unfold its at hany
        rw [if_neg hany, hp]
        rfl
    · have hb : (rd l 0 != 0) = true := bne_iff_ne.mpr hz
      have hp : parseR l = ([], [], 19) := by unfold parseR; rw [if_pos (.inr (.inl hz))]
      rw [hb, hp]
      simp only [slotcoderef14_Parse.j0]
      rw [if_pos (by trivial)]; rfl
/-- Parse's answer, taken apart. -/
theorem parse_good (l : List Int) (hB : BytesOk l) (h : (parseR l).2.2 = 0) : l = tableB (parseR l).1 ∧ (parseR l).2.1 = offs 1 (parseR l).1 ∧ ∀ s ∈ (parseR l).1, badS s = false := by
  unfold parseR at h ⊢
  by_cases hn : l.length = 0 ∨ rd l 0 ≠ 0 ∨ (its l).any (fun x => x.2.toList.isEmpty) = true
  · rw [if_pos hn] at h; exact absurd h (by decide)
  · rw [if_neg hn]
    have hg : ∀ x ∈ its l, x.2.toList ≠ [] := fun x hx he => hn (.inr (.inr (List.any_eq_true.2 ⟨x, hx, by rw [he]; rfl⟩)))
    obtain ⟨h1, h2⟩ := items_good l hB (l.length + 1) 1 (by omega) hg
    have h3 := items_table _ (l.length + 1) l 1 h1 (by omega) h2
    refine ⟨?_, h3.2, h2⟩
    cases l with
    | nil => exact absurd (.inl rfl) hn
    | cons x r =>
      have hx : x = 0 := Decidable.byContradiction fun h => hn (.inr (.inl h))
      subst hx
      unfold tableB
      congr 1
theorem parse_bad (l : List Int) (h : (parseR l).2.2 ≠ 0) : parseR l = ([], [], 19) := by
  unfold parseR at h ⊢
  split
  · rfl
  · rename_i hn; rw [if_neg hn] at h; exact absurd rfl h
theorem eqs_l0 (a b : List ByteArray) (hl : a.length = b.length) (hm : a.length ≤ 1099511627776) (t : List ByteArray) : ∀ (i k : Nat), a.drop i = t → t.length < k → i ≤ a.length →
    slices_Equal_string_string.l0 k a b (a.length : Int) (i : Int) = some (decide (t = b.drop i)) := by
  induction t with
  | nil =>
    intro i k ht hk hi
    obtain ⟨k, rfl⟩ : ∃ m, k = m + 1 := ⟨k - 1, by omega⟩
    have : a.length ≤ i := List.drop_eq_nil_iff.mp ht
    simp only [slices_Equal_string_string.l0]; rw [if_neg (by omega)]
    have hbn : b.drop i = [] := List.drop_eq_nil_iff.mpr (by omega)
    rw [hbn]; simp
  | cons s r ih =>
    intro i k ht hk hi
    obtain ⟨k, rfl⟩ : ∃ m, k = m + 1 := ⟨k - 1, by omega⟩
    obtain ⟨hd, hlt, hl2⟩ := drop_next ht
    obtain ⟨q, r2, hq⟩ : ∃ q r2, b.drop i = q :: r2 := by
      cases h : b.drop i with
      | nil => have := List.drop_eq_nil_iff.mp h; omega
      | cons q r2 => exact ⟨q, r2, rfl⟩
    obtain ⟨hd2, _, _⟩ := drop_next hq
    simp only [List.length_cons] at hk
    simp only [slices_Equal_string_string.l0]; rw [if_pos (by omega), if_pos (by omega), if_pos (by omega), if_pos (by omega), rdS_at a i s r ht, rdS_at b i q r2 hq]
    by_cases c : s = q
    · rw [if_pos (by rw [c]), w64 _ (by omega) (by omega), show (i : Int) + 1 = ((i + 1 : Nat) : Int) by omega, ih (i + 1) k hd (by omega) (by omega), hd2, hq]
      simp [c]
    · have c' : ¬ s.toList = q.toList := fun h => c (by
        rw [Lib.toList_data, Lib.toList_data] at h
        exact ByteArray.ext (Array.ext' h))
      rw [if_neg c', hq]; simp [c]
theorem eqs_f (a b : List ByteArray) (hm : a.length ≤ 1099511627776) (k : Nat) (hk : a.length < k) : slices_Equal_string_string.f k a b = some (decide (a = b)) := by
  unfold slices_Equal_string_string.f
  by_cases c : a.length = b.length
  · rw [if_pos (by omega)]
    have := eqs_l0 a b c hm a 0 k rfl hk (Nat.zero_le _)
    simpa using this
  · rw [if_neg (by omega)]
    have : a ≠ b := fun h => c (by rw [h])
    simp [this]
theorem bytesOf_ok (s : ByteArray) : BytesOk (bytesOf s) := by
  intro x hx
  unfold bytesOf at hx
  obtain ⟨b, _, rfl⟩ := List.mem_map.1 hx
  have := b.toNat_lt
  omega
theorem textB_ok (l : List ByteArray) : BytesOk (textB l) := by
  induction l with
  | nil => intro x hx; cases hx
  | cons s r ih =>
    intro x hx
    simp only [textB, List.append_assoc, List.mem_append] at hx
    rcases hx with h | h | h
    · exact bytesOf_ok s x h
    · have : x = 0 := by simpa using h
      omega
    · exact ih x h
theorem tableB_ok (l : List ByteArray) : BytesOk (tableB l) := by
  intro x hx
  unfold tableB at hx
  rcases List.mem_cons.1 hx with rfl | hx
  · omega
  · exact textB_ok l x hx
/-- Parse of a table of right texts. -/
theorem parse_table (l : List ByteArray) (hb : ∀ s ∈ l, badS s = false) : parseR (tableB l) = (l, offs 1 l, 0) := by
  have h := items_table l ((tableB l).length + 1) (tableB l) 1 rfl (by omega) hb
  have hg : ¬ ((tableB l).length = 0 ∨ rd (tableB l) 0 ≠ 0 ∨ (its (tableB l)).any (fun x => x.2.toList.isEmpty) = true) := by
    rintro (h0 | h0 | h0)
    · simp [tableB] at h0
    · exact h0 rfl
    · obtain ⟨x, hx, he⟩ := List.any_eq_true.1 h0
      have hm : x.2 ∈ l := by rw [← h.1]; exact List.mem_map.2 ⟨x, hx, rfl⟩
      exact bad_ne _ (hb _ hm) (List.isEmpty_iff.1 he)
  unfold parseR
  rw [if_neg hg]
  unfold its
  rw [h.1, h.2]
end Go.Proofs.Ytbepheikefkaiaa.PAll
