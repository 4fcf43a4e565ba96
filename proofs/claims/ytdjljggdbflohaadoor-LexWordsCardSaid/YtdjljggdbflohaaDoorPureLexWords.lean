/- LexWords: what the printed functions answer. -/
import Derived.Test.YtdjljggdbflohaaDoorLexRef2
import Derived.Test.YtdjljggdbflohaaDoorPAllx23
import Derived.Test.YtdjljggdbflohaaDoorPAllx22
set_option linter.unusedVariables false
namespace Go.Proofs.YtdjljggdbflohaaDoor.Pure
open Go.RowKit Go.Proofs.YtdjljggdbflohaaDoor.PAll Go.Proofs.YtdjljggdbflohaaDoorW.PrintWords Go.Proofs.YtdjljggdbflohaaDoorW.PrintLast
theorem isW_rword (x : S31) (h : tokOk x) : (isW x = true → (wordN x.f0.data.toList : Int) = (x.f0.size : Int)) ∧ (isW x = false → ¬ (wordN x.f0.data.toList : Int) = (x.f0.size : Int) ∧ (x.f0.size : Int) = 1) := by
  refine ⟨fun hw => ?_, fun hw => ?_⟩
  · rcases h with ⟨h0, h1, h2⟩ | ⟨b, hb, hM⟩
    · omega
    · exfalso
      unfold isW at hw
      have e : wordN (⟨#[b]⟩ : ByteArray).data.toList = 0 := wordN_one b hM
      rw [hb, e] at hw
      exact absurd hw (by decide)
  · obtain ⟨b, hb, hM⟩ := tok_size x h hw
    have e : wordN (⟨#[b]⟩ : ByteArray).data.toList = 0 := wordN_one b hM
    rw [hb, e]
    exact ⟨by show ¬ ((0 : Nat) : Int) = ((1 : Nat) : Int); omega, rfl⟩
theorem count_shape (l : List S31) (ho : ∀ t ∈ l, tokOk t) : Lib.countByte (shapeL l) 119 = (l.filter isW).length := by
  unfold Lib.countByte
  induction l with
  | nil => rfl
  | cons x r ih =>
    rw [shapeL_cons, List.count_append, ih (fun t h => ho t (List.mem_cons_of_mem _ h))]
    cases hw : isW x with
    | true => rw [if_pos rfl, List.filter_cons_of_pos hw]; simp; omega
    | false =>
      obtain ⟨b, hb, hM⟩ := tok_size x (ho x List.mem_cons_self) hw
      rw [if_neg (by decide), List.filter_cons_of_neg (by rw [hw]; decide), hb]
      have hne : b ≠ 119 := fun h => by
        have := ((PAll.byte_at b).2.2.2.2.2 hM).2
        rw [h] at this
        exact this rfl
      have : (⟨#[b]⟩ : ByteArray).data.toList = [b] := rfl
      rw [this, List.count_cons, List.count_nil]
      simp [hne]
theorem words_law_l0 (l : List S31) (hl : l.length ≤ 1000000) (ho : ∀ t ∈ l, tokOk t) (hs : ∀ t ∈ l, t.f0.size ≤ 3000) (t : List S31) : ∀ (i n K : Nat), l.drop i = t → i ≤ l.length → t.length + l.length + 4000 < K → n + (t.filter isW).length = (l.filter isW).length → n ≤ i → slotcodelaw08_LexWords.l0 K l (n : Int) l (l.length : Int) (i : Int) = some true := by
  induction t with
  | nil =>
    intro i n K ht hi hk hn hni
    obtain ⟨K, rfl⟩ : ∃ m, K = m + 9 + 1 := ⟨K - 10, by omega⟩
    have : l.length ≤ i := List.drop_eq_nil_iff.mp ht
    simp only [slotcodelaw08_LexWords.l0]
    simp only [List.filter_nil, List.length_nil, Nat.add_zero] at hn
    have hz : ∀ t ∈ l, t.f0.size ≤ 140737488355328 := fun t ht => by have := hs t ht; omega
    have hwl : (wordsL l).length = n := by unfold wordsL; rw [List.length_map, hn]
    have hsl : (⟨(shapeL l).toArray⟩ : ByteArray).size = l.length := by rw [← data_length]; exact shapeL_len l ho
    have hcf : strings_Count.f ⟨(shapeL l).toArray⟩ ⟨#[119]⟩ = some ((n : Nat) : Int) := by
      show some (Lib.countByte (shapeL l) 119 : Int) = _
      rw [count_shape l ho, hn]
    rw [if_neg (by omega), alive_true, Option.bind_some, if_pos rfl, words_f l hl hz (K + 9) (by omega), Option.bind_some, if_pos (by omega), shape_f l hl ho hz, Option.bind_some, if_pos (by omega), Option.bind_some, hcf, Option.bind_some]
    simp
  | cons x r ih =>
    intro i n K ht hi hk hn hni
    obtain ⟨K, rfl⟩ : ∃ m, K = m + 1 := ⟨K - 1, by omega⟩
    obtain ⟨hd, hlt, hl2⟩ := idrop_next ht
    simp only [List.length_cons] at hk
    have hx : x ∈ l := List.mem_of_mem_drop (i := i) (by rw [ht]; exact List.mem_cons_self)
    have e1 := Aside0.mk (show wrap64 ((i : Int) + 1) = ((i + 1 : Nat) : Int) by rw [iw64 _ (by omega) (by omega)]; omega)
    have e2 := Aside0.mk (show wrap64 ((n : Int) + 1) = ((n + 1 : Nat) : Int) by rw [iw64 _ (by omega) (by omega)]; omega)
    have hxs := hs x hx
    obtain ⟨hy, hno⟩ := isW_rword x (ho x hx)
    simp only [slotcodelaw08_LexWords.l0]
    rw [if_pos (by omega), if_pos (by omega), if_pos (by omega), rd31 l i x r ht, rword_f x.f0 (by omega) K (by omega), Option.bind_some]
    cases hw : isW x with
    | true =>
      rw [if_pos (hy hw), e1.out, e2.out]
      exact ih (i + 1) (n + 1) K hd (by omega) (by omega) (by rw [List.filter_cons_of_pos hw] at hn; simp only [List.length_cons] at hn; omega) (by omega)
    | false =>
      rw [if_neg (hno hw).1, if_pos (hno hw).2, e1.out]
      exact ih (i + 1) n K hd (by omega) (by omega) (by rw [List.filter_cons_of_neg (by rw [hw]; decide)] at hn; exact hn) (by omega)
/-- LexWords: words are runs of word characters, all other tokens single characters. -/
theorem LexWords : slotcodelaw08_LexWords.Pure := by
  intro s hs
  obtain ⟨K, hbig⟩ : ∃ K, 5 * s.size + 10000 ≤ K := ⟨_, Nat.le_refl _⟩
  refine ⟨K + 9, ?_⟩
  unfold slotcodelaw08_LexWords.f
  by_cases hb : (s.size : Int) > 3000
  · rw [if_pos hb, alive_true]; rfl
  · rw [if_neg hb, tokens_f s (by omega) (s.size + 1) (by omega), Option.bind_some]
    have hlen := (tk_size (s.size + 1) s.data.toList 0).2
    have hsz := (tk_size (s.size + 1) s.data.toList 0).1
    have hok := tk_ok (s.size + 1) s.data.toList 0
    rw [data_length] at hlen hsz
    cases h : tk (s.size + 1) s.data.toList 0 with
    | mk ts o =>
      rw [h] at hlen hsz hok
      dsimp only at hlen hsz hok
      cases o with
      | some i => exact words_law_l0 [] (by simp) (by simp) (by simp) [] 0 0 (K + 9) rfl (Nat.le_refl _) (by simp; omega) rfl (Nat.le_refl _)
      | none => exact words_law_l0 ts (by omega) hok (fun t ht => by have := hsz t ht; omega) ts 0 0 (K + 9) rfl (Nat.zero_le _) (by omega) (by simp) (Nat.le_refl _)
end Go.Proofs.YtdjljggdbflohaaDoor.Pure
