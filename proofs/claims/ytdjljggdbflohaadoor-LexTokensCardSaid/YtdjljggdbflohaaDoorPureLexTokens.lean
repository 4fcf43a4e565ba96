/- LexTokens: what the printed functions answer. -/
import Derived.Test.YtdjljggdbflohaaDoorLexRef
import Derived.Test.YtdjljggdbflohaaDoorPAllx14
set_option linter.unusedVariables false
namespace Go.Proofs.YtdjljggdbflohaaDoor.Pure
open Go.RowKit Go.Proofs.YtdjljggdbflohaaDoor.PAll Go.Proofs.YtdjljggdbflohaaDoorW.PrintWords Go.Proofs.YtdjljggdbflohaaDoorW.PrintLast
theorem cmp_l0 (l : List S31) (hl : l.length ≤ 1000000000) : ∀ (d i K : Nat), d + i = l.length → d + 9 < K → slotcodelaw08_LexTokens.l0 K (l.map to32) l (l.length : Int) (i : Int) = some true := by
  intro d
  induction d with
  | zero =>
    intro i K hd hk
    obtain ⟨K, rfl⟩ : ∃ m, K = m + 9 + 1 := ⟨K - 10, by omega⟩
    simp only [slotcodelaw08_LexTokens.l0]
    rw [if_neg (by omega), alive_true]
    rfl
  | succ d ih =>
    intro i K hd hk
    obtain ⟨K, rfl⟩ : ∃ m, K = m + 1 := ⟨K - 1, by omega⟩
    have e1 := Aside0.mk (show wrap64 ((i : Int) + 1) = ((i + 1 : Nat) : Int) by rw [iw64 _ (by omega) (by omega)]; omega)
    have e2 : rd_T32 (l.map to32) (i : Int) = to32 (rd_T31 l (i : Int)) := by
      unfold rd_T32 rd_T31
      rw [Int.toNat_natCast, List.getD_eq_getElem?_getD, List.getD_eq_getElem?_getD, List.getElem?_map]
      have : l[i]? = some (l[i]'(by omega)) := List.getElem?_eq_getElem (by omega)
      rw [this]; rfl
    simp only [slotcodelaw08_LexTokens.l0]
    rw [if_pos (by omega), if_pos (by omega), if_pos (by omega), if_pos (by rw [List.length_map]; omega), e2, if_pos (show (rd_T31 l (i : Int)).f0.toList = (to32 (rd_T31 l (i : Int))).f0.toList from rfl), if_pos (show (rd_T31 l (i : Int)).f1 = (to32 (rd_T31 l (i : Int))).f1 from rfl), e1.out]
    exact ih (i + 1) K (by omega) (by omega)
theorem tk_len : ∀ (k : Nat) (l : List UInt8) (i : Nat), (tk k l i).1.length ≤ l.length := by
  intro k
  induction k with
  | zero => intro l i; simp [tk]
  | succ k ih =>
    intro l i
    cases l with
    | nil => simp [tk]
    | cons b r =>
      simp only [tk]
      by_cases hw : wordN (b :: r) ≠ 0
      · rw [if_pos hw]
        have h2 := ih ((b :: r).drop (wordN (b :: r))) (i + wordN (b :: r))
        rw [List.length_drop] at h2
        simp only [List.length_cons] at h2 ⊢
        omega
      · rw [if_neg hw]
        have h2 := ih r (i + 1)
        split
        · simp; omega
        · split
          · simp
          · split
            · simp; omega
            · simp
/-- LexTokens: Tokens answers the tokens of the reference, or the place of the first wrong byte. -/
theorem LexTokens : slotcodelaw08_LexTokens.Pure := by
  intro s hs
  obtain ⟨K, hbig⟩ : ∃ K, 5 * s.size + 100 ≤ K := ⟨_, Nat.le_refl _⟩
  refine ⟨K + 9, ?_⟩
  unfold slotcodelaw08_LexTokens.f
  by_cases hb : (s.size : Int) > 3000
  · rw [if_pos hb, alive_true]; rfl
  · rw [if_neg hb, tokens_f s (by omega) (s.size + 1) (by omega), Option.bind_some, rtokens_f s (by omega) (s.size + 1) (K + 9) (by omega) (by omega), Option.bind_some, alive_true]
    have hlen := tk_len (s.size + 1) s.data.toList 0
    rw [data_length] at hlen
    cases h : tk (s.size + 1) s.data.toList 0 with
    | mk ts o =>
      rw [h] at hlen
      cases o with
      | none =>
        simp only [rkR, tkR, List.nil_append]
        rw [if_neg (by decide), if_pos trivial, if_pos trivial]
        have e : ((ts.length : Int) != ((ts.map to32).length : Int)) = false := by rw [List.length_map]; simp
        rw [e, show K + 9 = (K + 8) + 1 by omega]
        simp only [slotcodelaw08_LexTokens.j0]
        rw [if_neg (by decide)]
        exact cmp_l0 ts (by dsimp only at hlen; omega) ts.length 0 (K + 8) rfl (by dsimp only at hlen; omega)
      | some i =>
        simp only [rkR, tkR]
        rw [if_pos (by omega), Option.bind_some, if_pos rfl, if_pos (show ((([] : List S31).length : Nat) : Int) = 0 from rfl), if_pos trivial]
        rfl
end Go.Proofs.YtdjljggdbflohaaDoor.Pure
