/- Plain facts: what tokens are; the program's and the reference's Words and Shape at tokens. -/
import Derived.Test.YtdjljggdbflohaaDoorLexRef
import Derived.Test.YtdjljggdbflohaaDoorPAllx7
import Derived.Test.YtdjljggdbflohaaDoorPAllx9
import Derived.Test.YtdjljggdbflohaaDoorPAllx5
import Derived.Test.YtdjljggdbflohaaDoorPAllx8
import Derived.Test.YtdjljggdbflohaaDoorPAllx15
import Derived.Test.YtdjljggdbflohaaDoorPAllx15
import Derived.Test.YtdjljggdbflohaaDoorPAllx15
set_option linter.unusedVariables false
set_option linter.unusedSimpArgs false
namespace Go.Proofs.YtdjljggdbflohaaDoor.PAll
open Go.RowKit Go.Proofs.YtdjljggdbflohaaDoorW.PrintWords Go.Proofs.YtdjljggdbflohaaDoorW.PrintLast Go.Proofs.YtdjljggdbflohaaDoorW.PrintMore
def tokOk (t : S31) : Prop := (0 < t.f0.size ∧ wordN t.f0.data.toList = t.f0.size ∧ inW (bt t.f0 0) = true) ∨ (∃ b : UInt8, t.f0 = ⟨#[b]⟩ ∧ litI litM b.toNat = true)
theorem wordN_take (l : List UInt8) : wordN (l.take (wordN l)) = wordN l := by
  induction l with
  | nil => rfl
  | cons b r ih =>
    simp only [wordN]
    by_cases h : inW b.toNat = true
    · rw [if_pos h, List.take_succ_cons]; simp only [wordN]; rw [if_pos h, ih]
    · rw [if_neg h, List.take_zero]; rfl
theorem bt_head (b : UInt8) (r : List UInt8) : bt ⟨(b :: r).toArray⟩ 0 = (b.toNat : Int) := ibt_cons ⟨(b :: r).toArray⟩ 0 b r rfl
theorem tk_ok : ∀ (k : Nat) (l : List UInt8) (i : Nat), ∀ t ∈ (tk k l i).1, tokOk t := by
  intro k
  induction k with
  | zero => intro l i t h; simp [tk] at h
  | succ k ih =>
    intro l i t h
    cases l with
    | nil => simp [tk] at h
    | cons b r =>
      simp only [tk] at h
      by_cases hw : wordN (b :: r) ≠ 0
      · rw [if_pos hw] at h
        rcases List.mem_cons.1 h with rfl | h
        · left
          obtain ⟨m, hm⟩ : ∃ m, wordN (b :: r) = m + 1 := ⟨wordN (b :: r) - 1, by omega⟩
          have h2 := wordN_take (b :: r)
          have h3 := wordN_le (b :: r)
          have hsz : (⟨((b :: r).take (wordN (b :: r))).toArray⟩ : ByteArray).size = wordN (b :: r) := by
            rw [← data_length]
            show (((b :: r).take (wordN (b :: r))).toArray.toList).length = _
            rw [List.toList_toArray, List.length_take]
            omega
          refine ⟨by dsimp only; omega, by dsimp only; rw [hsz]; exact h2, ?_⟩
          dsimp only
          rw [hm, List.take_succ_cons, bt_head]
          exact (wordN_ne b r).1 hw
        · exact ih _ _ t h
      · rw [if_neg hw] at h
        by_cases hM : litI litM b.toNat = true
        · rw [if_pos hM] at h
          rcases List.mem_cons.1 h with rfl | h
          · exact .inr ⟨b, rfl, hM⟩
          · exact ih _ _ t h
        · rw [if_neg hM] at h
          split at h
          · simp at h
          · split at h
            · exact ih _ _ t h
            · simp at h
def isW (t : S31) : Bool := decide (wordN t.f0.data.toList ≠ 0)
theorem punct_of (b : UInt8) : slotcoderef08_punct.f (b.toNat : Int) = some (litI litM b.toNat) := (byte_at b).2.2.1
theorem punct_in : ∀ n : Fin 256, inW (n.1 : Int) = true → slotcoderef08_punct.f (n.1 : Int) = some false := by decide +kernel
theorem wordN_one (b : UInt8) (h : litI litM b.toNat = true) : wordN [b] = 0 := by
  simp only [wordN]
  rw [if_neg (by rw [((byte_at b).2.2.2.2.2 h).1]; decide)]
theorem rword_tok (t : S31) (h : tokOk t) : slotcoderef08_Word.f t.f0 t.f1 = some (isW t) := by
  unfold slotcoderef08_Word.f isW
  rcases h with ⟨h0, h1, h2⟩ | ⟨b, hb, hM⟩
  · rw [decide_eq_true (by omega : wordN t.f0.data.toList ≠ 0)]
    by_cases hs : (t.f0.size : Int) = 1
    · rw [if_pos hs, if_pos (by omega)]
      have hr := bt_range t.f0 0
      obtain ⟨n, hn⟩ : ∃ n : Nat, bt t.f0 0 = n := ⟨(bt t.f0 0).toNat, by omega⟩
      rw [hn] at h2 ⊢
      have := punct_in ⟨n, by omega⟩ h2
      dsimp only at this
      rw [this]; rfl
    · rw [if_neg hs]
  · rw [hb]
    have e : wordN (⟨#[b]⟩ : ByteArray).data.toList = 0 := wordN_one b hM
    rw [decide_eq_false (by rw [e]; decide)]
    rw [if_pos (by rfl), if_pos (show (0 : Int) < (((⟨#[b]⟩ : ByteArray).size : Nat) : Int) from (by decide : (0 : Int) < ((1 : Nat) : Int))), show bt (⟨#[b]⟩ : ByteArray) 0 = (b.toNat : Int) from bt_head b [], punct_of, hM]
    rfl
theorem word_f (s : ByteArray) (hs : s.size ≤ 140737488355328) : ident_Word.f s = some (wordN s.data.toList : Int) := by unfold ident_Word.f; rw [if_pos hs]
theorem isWord_f (t : S31) (hs : t.f0.size ≤ 140737488355328) : lex_Tok_isWord.f t.f0 t.f1 = some (isW t) := by
  unfold lex_Tok_isWord.f isW
  rw [word_f _ hs, Option.bind_some]
  congr 1
  by_cases h : wordN t.f0.data.toList = 0
  · rw [decide_eq_false (by omega), decide_eq_false (by simp [h])]
  · rw [decide_eq_true (by omega), decide_eq_true h]
def wordsL (l : List S31) : List ByteArray := (l.filter isW).map (·.f0)
theorem rd31 (l : List S31) (i : Nat) (t : S31) (r : List S31) (h : l.drop i = t :: r) : rd_T31 l (i : Int) = t := by
  unfold rd_T31
  rw [Int.toNat_natCast, List.getD_eq_getElem?_getD, ← List.head?_drop, h]; rfl
theorem rd32 (l : List S31) (i : Nat) (t : S31) (r : List S31) (h : l.drop i = t :: r) : rd_T32 (l.map to32) (i : Int) = to32 t := by
  unfold rd_T32
  rw [Int.toNat_natCast, List.getD_eq_getElem?_getD, ← List.head?_drop, ← List.map_drop, h]; rfl
theorem words_l0 (l : List S31) (hl : l.length ≤ 1000000) (hs : ∀ t ∈ l, t.f0.size ≤ 140737488355328) (t : List S31) : ∀ (i K : Nat) (acc : List ByteArray), l.drop i = t → t.length < K → i ≤ l.length → acc.length ≤ i → lex_Words.l0 K acc l (l.length : Int) (i : Int) = some (acc ++ wordsL t) := by
  induction t with
  | nil =>
    intro i K acc ht hk hi ha
    obtain ⟨K, rfl⟩ : ∃ m, K = m + 1 := ⟨K - 1, by omega⟩
    have : l.length ≤ i := List.drop_eq_nil_iff.mp ht
    simp only [lex_Words.l0]
    rw [if_neg (by omega)]
    simp [wordsL]
  | cons x r ih =>
    intro i K acc ht hk hi ha
    obtain ⟨K, rfl⟩ : ∃ m, K = m + 1 := ⟨K - 1, by omega⟩
    obtain ⟨hd, hlt, hl2⟩ := idrop_next ht
    simp only [List.length_cons] at hk
    have hx : x ∈ l := List.mem_of_mem_drop (i := i) (by rw [ht]; exact List.mem_cons_self)
    have e1 := Aside0.mk (show wrap64 ((i : Int) + 1) = ((i + 1 : Nat) : Int) by rw [iw64 _ (by omega) (by omega)]; omega)
    simp only [lex_Words.l0]
    rw [if_pos (by omega), if_pos (by omega), if_pos (by omega), rd31 l i x r ht, isWord_f x (hs x hx), Option.bind_some, e1.out]
    cases hw : isW x with
    | true =>
      rw [if_pos rfl, if_pos (by omega), ih (i + 1) K _ hd (by omega) (by omega) (by simp; omega)]
      simp [wordsL, hw]
    | false =>
      rw [if_neg (by decide), ih (i + 1) K acc hd (by omega) (by omega) (by omega)]
      simp [wordsL, hw]
theorem words_f (l : List S31) (hl : l.length ≤ 1000000) (hs : ∀ t ∈ l, t.f0.size ≤ 140737488355328) (K : Nat) (hK : l.length < K) : lex_Words.f K l = some (wordsL l) := by
  have h := words_l0 l hl hs l 0 K [] rfl hK (Nat.zero_le _) (Nat.zero_le _)
  exact h
theorem rwords_l0 (l : List S31) (hl : l.length ≤ 1000000) (ho : ∀ t ∈ l, tokOk t) (t : List S31) : ∀ (i K : Nat) (acc : List ByteArray), l.drop i = t → t.length < K → i ≤ l.length → acc.length ≤ i → slotcoderef08_Words.l0 K (l.map to32) acc (i : Int) = some (acc ++ wordsL t) := by
  induction t with
  | nil =>
    intro i K acc ht hk hi ha
    obtain ⟨K, rfl⟩ : ∃ m, K = m + 1 := ⟨K - 1, by omega⟩
    have : l.length ≤ i := List.drop_eq_nil_iff.mp ht
    simp only [slotcoderef08_Words.l0]
    rw [if_neg (by rw [List.length_map]; omega)]
    simp [wordsL]
  | cons x r ih =>
    intro i K acc ht hk hi ha
    obtain ⟨K, rfl⟩ : ∃ m, K = m + 1 := ⟨K - 1, by omega⟩
    obtain ⟨hd, hlt, hl2⟩ := idrop_next ht
    simp only [List.length_cons] at hk
    have hx : x ∈ l := List.mem_of_mem_drop (i := i) (by rw [ht]; exact List.mem_cons_self)
    have e1 := Aside0.mk (show wrap64 ((i : Int) + 1) = ((i + 1 : Nat) : Int) by rw [iw64 _ (by omega) (by omega)]; omega)
    simp only [slotcoderef08_Words.l0]
    rw [if_pos (by rw [List.length_map]; omega), if_pos (by omega), rd32 l i x r ht, show slotcoderef08_Word.f (to32 x).f0 (to32 x).f1 = some (isW x) from rword_tok x (ho x hx), Option.bind_some, e1.out]
    cases hw : isW x with
    | true =>
      rw [if_pos rfl, if_pos (by omega), ih (i + 1) K _ hd (by omega) (by omega) (by simp; omega)]
      simp [wordsL, hw, to32]
    | false =>
      rw [if_neg (by decide), ih (i + 1) K acc hd (by omega) (by omega) (by omega)]
      simp [wordsL, hw]
theorem rwords_f (l : List S31) (hl : l.length ≤ 1000000) (ho : ∀ t ∈ l, tokOk t) (K : Nat) (hK : l.length < K) : slotcoderef08_Words.f K (l.map to32) = some (wordsL l) := by
  have h := rwords_l0 l hl ho l 0 K [] rfl hK (Nat.zero_le _) (Nat.zero_le _)
  exact h
theorem shapeL_cons (x : S31) (r : List S31) : shapeL (x :: r) = (if isW x = true then [119] else x.f0.data.toList) ++ shapeL r := by
  unfold shapeL isW
  rw [List.flatMap_cons]
  by_cases h : wordN x.f0.data.toList = 0
  · rw [if_pos h, if_neg (by simp [h])]
  · rw [if_neg h, if_pos (by simp [h])]
theorem tok_size (x : S31) (h : tokOk x) (hw : isW x = false) : ∃ b : UInt8, x.f0 = ⟨#[b]⟩ ∧ litI litM b.toNat = true := by
  rcases h with ⟨h0, h1, h2⟩ | h
  · unfold isW at hw
    have := of_decide_eq_false hw
    omega
  · exact h
theorem rshape_l0 (l : List S31) (hl : l.length ≤ 1000000) (ho : ∀ t ∈ l, tokOk t) (t : List S31) : ∀ (i K : Nat) (acc : ByteArray), l.drop i = t → t.length < K → i ≤ l.length → acc.size ≤ i → slotcoderef08_Shape.l0 K (l.map to32) acc (i : Int) = some ⟨(acc.data.toList ++ shapeL t).toArray⟩ := by
  induction t with
  | nil =>
    intro i K acc ht hk hi ha
    obtain ⟨K, rfl⟩ : ∃ m, K = m + 1 := ⟨K - 1, by omega⟩
    have : l.length ≤ i := List.drop_eq_nil_iff.mp ht
    simp only [slotcoderef08_Shape.l0]
    rw [if_neg (by rw [List.length_map]; omega)]
    congr 1
    refine ba_eq _ _ ?_
    simp [shapeL]
  | cons x r ih =>
    intro i K acc ht hk hi ha
    obtain ⟨K, rfl⟩ : ∃ m, K = m + 1 := ⟨K - 1, by omega⟩
    obtain ⟨hd, hlt, hl2⟩ := idrop_next ht
    simp only [List.length_cons] at hk
    have hx : x ∈ l := List.mem_of_mem_drop (i := i) (by rw [ht]; exact List.mem_cons_self)
    have e1 := Aside0.mk (show wrap64 ((i : Int) + 1) = ((i + 1 : Nat) : Int) by rw [iw64 _ (by omega) (by omega)]; omega)
    have hsz : ∀ a b : ByteArray, (a ++ b).size = a.size + b.size := fun a b => ByteArray.size_append
    have hap : ∀ a b : ByteArray, (a ++ b).data.toList = a.data.toList ++ b.data.toList := fun a b => by simp [ByteArray.data_append]
    simp only [slotcoderef08_Shape.l0]
    rw [if_pos (by rw [List.length_map]; omega), if_pos (by omega), rd32 l i x r ht, show slotcoderef08_Word.f (to32 x).f0 (to32 x).f1 = some (isW x) from rword_tok x (ho x hx), Option.bind_some, e1.out, shapeL_cons]
    cases hw : isW x with
    | true =>
      rw [if_pos rfl, if_pos (by omega), ih (i + 1) K _ hd (by omega) (by omega) (by rw [hsz]; show acc.size + 1 ≤ _; omega), hap]
      simp
    | false =>
      obtain ⟨b, hb, _⟩ := tok_size x (ho x hx) hw
      have h1 : (to32 x).f0 = ⟨#[b]⟩ := hb
      have h2 : (⟨#[b]⟩ : ByteArray).size = 1 := rfl
      rw [if_neg (by decide), h1, h2, if_pos (by omega), ih (i + 1) K _ hd (by omega) (by omega) (by rw [hsz, h2]; omega), hap, hb]
      simp
theorem rshape_f (l : List S31) (hl : l.length ≤ 1000000) (ho : ∀ t ∈ l, tokOk t) (K : Nat) (hK : l.length < K) : slotcoderef08_Shape.f K (l.map to32) = some ⟨(shapeL l).toArray⟩ := by
  have h := rshape_l0 l hl ho l 0 K ⟨#[]⟩ rfl hK (Nat.zero_le _) (Nat.zero_le _)
  exact h
theorem shapeL_len (l : List S31) (ho : ∀ t ∈ l, tokOk t) : (shapeL l).length = l.length := by
  induction l with
  | nil => rfl
  | cons x r ih =>
    rw [shapeL_cons, List.length_append, ih (fun t h => ho t (List.mem_cons_of_mem _ h)), List.length_cons]
    cases hw : isW x with
    | true => rw [if_pos rfl]; simp; omega
    | false =>
      obtain ⟨b, hb, _⟩ := tok_size x (ho x List.mem_cons_self) hw
      rw [if_neg (by decide), hb]; simp; omega
theorem shape_f (l : List S31) (hl : l.length ≤ 1000000) (ho : ∀ t ∈ l, tokOk t) (hs : ∀ t ∈ l, t.f0.size ≤ 140737488355328) : lex_Shape.f l = some ⟨(shapeL l).toArray⟩ := by
  unfold lex_Shape.f
  rw [if_pos ⟨by omega, by rw [shapeL_len l ho]; omega, hs⟩]
theorem eqself_l0 (l : List ByteArray) (hl : l.length ≤ 1000000000) : ∀ (d i K : Nat), d + i = l.length → d < K → slices_Equal_string_string.l0 K l l (l.length : Int) (i : Int) = some true := by
  intro d
  induction d with
  | zero =>
    intro i K hd hk
    obtain ⟨K, rfl⟩ : ∃ m, K = m + 1 := ⟨K - 1, by omega⟩
    simp only [slices_Equal_string_string.l0]
    rw [if_neg (by omega)]
  | succ d ih =>
    intro i K hd hk
    obtain ⟨K, rfl⟩ : ∃ m, K = m + 1 := ⟨K - 1, by omega⟩
    have e1 := Aside0.mk (show wrap64 ((i : Int) + 1) = ((i + 1 : Nat) : Int) by rw [iw64 _ (by omega) (by omega)]; omega)
    simp only [slices_Equal_string_string.l0]
    rw [if_pos (by omega), if_pos (by omega), if_pos (by omega), if_pos (by omega), if_pos trivial, e1.out]
    exact ih (i + 1) K (by omega) (by omega)
theorem eqself_f (l : List ByteArray) (hl : l.length ≤ 1000000000) (K : Nat) (hK : l.length < K) : slices_Equal_string_string.f K l l = some true := by
  unfold slices_Equal_string_string.f
  rw [if_pos rfl]
  exact eqself_l0 l hl l.length 0 K rfl hK
/-- Each token's text is part of the line. -/
theorem tk_size : ∀ (k : Nat) (l : List UInt8) (i : Nat), (∀ t ∈ (tk k l i).1, t.f0.size ≤ l.length) ∧ (tk k l i).1.length ≤ l.length := by
  intro k
  induction k with
  | zero => intro l i; simp [tk]
  | succ k ih =>
    intro l i
    cases l with
    | nil => simp [tk]
    | cons b r =>
      have hle := wordN_le (b :: r)
      simp only [tk]
      by_cases hw : wordN (b :: r) ≠ 0
      · rw [if_pos hw]
        obtain ⟨h1, h2⟩ := ih ((b :: r).drop (wordN (b :: r))) (i + wordN (b :: r))
        rw [List.length_drop] at h1 h2
        refine ⟨fun t ht => ?_, by simp only [List.length_cons] at h2 ⊢; omega⟩
        rcases List.mem_cons.1 ht with rfl | ht
        · dsimp only
          rw [← data_length]
          show (((b :: r).take (wordN (b :: r))).toArray.toList).length ≤ _
          rw [List.toList_toArray, List.length_take]; omega
        · have := h1 t ht; omega
      · rw [if_neg hw]
        obtain ⟨h1, h2⟩ := ih r (i + 1)
        split
        · refine ⟨fun t ht => ?_, by simp; omega⟩
          rcases List.mem_cons.1 ht with rfl | ht
          · show 1 ≤ _; simp
          · have := h1 t ht; simp; omega
        · split
          · simp
          · split
            · exact ⟨fun t ht => by have := h1 t ht; simp; omega, by simp; omega⟩
            · simp
end Go.Proofs.YtdjljggdbflohaaDoor.PAll
