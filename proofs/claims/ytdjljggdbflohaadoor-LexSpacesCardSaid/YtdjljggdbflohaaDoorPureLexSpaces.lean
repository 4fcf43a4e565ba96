/- LexSpaces: what the printed functions answer. -/
import Derived.Test.YtdjljggdbflohaaDoorLexRef2
import Derived.Test.YtdjljggdbflohaaDoorPAllx26
import Derived.Test.YtdjljggdbflohaaDoorPAllx25
import Derived.Lib.Join
set_option linter.unusedVariables false
namespace Go.Proofs.YtdjljggdbflohaaDoor.Pure
open Go.RowKit Go.Proofs.YtdjljggdbflohaaDoor.PAll Go.Proofs.YtdjljggdbflohaaDoorW.PrintWords Go.Proofs.YtdjljggdbflohaaDoorW.PrintLast
/-- The texts, each with a separator behind it; at last the beginning of a comment. -/
theorem wordN_sep (l t : List UInt8) (c : UInt8) (hc : inW c.toNat = false) (h : wordN l = l.length) : wordN (l ++ c :: t) = l.length := by
  induction l with
  | nil =>
    simp only [List.nil_append, wordN]
    rw [if_neg (by rw [hc]; decide)]
    rfl
  | cons b r ih =>
    simp only [List.cons_append, wordN, List.length_cons] at h ⊢
    by_cases hb : inW b.toNat = true
    · rw [if_pos hb] at h ⊢
      rw [ih (by omega)]
    · rw [if_neg hb] at h; omega
theorem sep_in : inW ((32 : UInt8).toNat : Int) = false ∧ inW ((9 : UInt8).toNat : Int) = false ∧ litI litM (32 : UInt8).toNat = false ∧ litI litM (9 : UInt8).toNat = false ∧ litI litC (32 : UInt8).toNat = false ∧ litI litC (9 : UInt8).toNat = false ∧ litI litS (32 : UInt8).toNat = true ∧ litI litS (9 : UInt8).toNat = true ∧ inW ((35 : UInt8).toNat : Int) = false ∧ litI litM (35 : UInt8).toNat = false ∧ litI litC (35 : UInt8).toNat = true := by decide +kernel
/-- A token ahead of a separator is taken, the separator passed over. -/
theorem tk_step (x : S31) (hx : tokOk x) (c : UInt8) (hc1 : inW c.toNat = false) (hc2 : litI litM c.toNat = false) (hc3 : litI litC c.toNat = false) (hc4 : litI litS c.toNat = true) (t : List UInt8) (k i : Nat) :
    ∃ y : S31, y.f0 = x.f0 ∧ tk (k + 2) (x.f0.data.toList ++ c :: t) i = (y :: (tk k t (i + x.f0.size + 1)).1, (tk k t (i + x.f0.size + 1)).2) := by
  have hsep : ∀ j, tk (k + 1) (c :: t) j = tk k t (j + 1) := by
    intro j
    simp only [tk]
    rw [if_neg (by rw [wordN_ne, hc1]; decide), if_neg (by rw [hc2]; decide), if_neg (by rw [hc3]; decide), if_pos hc4]
  rcases hx with ⟨h0, h1, h2⟩ | ⟨b, hb, hM⟩
  · obtain ⟨l, hl⟩ : ∃ l, x.f0.data.toList = l := ⟨_, rfl⟩
    have hsz : x.f0.size = l.length := by rw [← hl, data_length]
    rw [hl, hsz] at h1
    have hw := wordN_sep l t c hc1 h1
    rw [hl, hsz]
    cases l with
    | nil => rw [List.length_nil] at hsz; omega
    | cons a r =>
      rw [List.cons_append] at hw ⊢
      simp only [tk]
      rw [hw, if_pos (by simp)]
      have e1 : (a :: (r ++ c :: t)).take (a :: r).length = a :: r := by rw [← List.cons_append, List.take_left]
      have e2 : (a :: (r ++ c :: t)).drop (a :: r).length = c :: t := by rw [← List.cons_append, List.drop_left]
      rw [e1, e2, hsep]
      refine ⟨_, ?_, rfl⟩
      dsimp only
      refine ba_eq _ _ ?_
      rw [hl]
  · have hl : x.f0.data.toList = [b] := by rw [hb]
    have hsz : x.f0.size = 1 := by rw [hb]; rfl
    have hin := ((PAll.byte_at b).2.2.2.2.2 hM).1
    rw [hl, hsz]
    show ∃ y : S31, y.f0 = x.f0 ∧ tk (k + 2) (b :: c :: t) i = _
    simp only [tk]
    rw [if_neg (by rw [wordN_ne, hin]; decide), if_pos hM]
    have := hsep (i + 1)
    simp only [tk] at this
    rw [this]
    exact ⟨_, hb.symm, rfl⟩
theorem tk_end (t : List UInt8) (k i : Nat) : tk (k + 2) (9 :: 35 :: t) i = ([], none) := by
  obtain ⟨a1, a2, a3, a4, a5, a6, a7, a8, a9, a10, a11⟩ := sep_in
  simp only [tk]
  rw [if_neg (by rw [wordN_ne, a2]; decide), if_neg (by rw [a4]; decide), if_neg (by rw [a6]; decide), if_pos a8, if_neg (by rw [wordN_ne, a9]; decide), if_neg (by rw [a10]; decide), if_pos a11]
theorem tk_joined (c : List UInt8) : ∀ (ts : List S31), (∀ t ∈ ts, tokOk t) → ∀ (k i : Nat), 2 * ts.length + 2 ≤ k → ((tk k (Lib.join (ts.map fun x => x.f0.data.toList) [32] ++ 9 :: 35 :: c) i).1.map (·.f0) = ts.map (·.f0) ∧ (tk k (Lib.join (ts.map fun x => x.f0.data.toList) [32] ++ 9 :: 35 :: c) i).2 = none) := by
  obtain ⟨a1, a2, a3, a4, a5, a6, a7, a8, a9, a10, a11⟩ := sep_in
  intro ts
  induction ts with
  | nil =>
    intro _ k i hk
    obtain ⟨k, rfl⟩ : ∃ m, k = m + 2 := ⟨k - 2, by omega⟩
    rw [List.map_nil, Lib.join_nil, List.nil_append, tk_end]
    exact ⟨rfl, rfl⟩
  | cons x r ih =>
    intro ho k i hk
    simp only [List.length_cons] at hk
    obtain ⟨k, rfl⟩ : ∃ m, k = m + 2 := ⟨k - 2, by omega⟩
    have hx := ho x List.mem_cons_self
    cases r with
    | nil =>
      rw [List.map_cons, List.map_nil, Lib.join_one]
      obtain ⟨y, hy, h⟩ := tk_step x hx 9 a2 a4 a6 a8 (35 :: c) k i
      rw [h]
      obtain ⟨k, rfl⟩ : ∃ m, k = m + 1 := ⟨k - 1, by simp at hk; omega⟩
      have : tk (k + 1) (35 :: c) (i + x.f0.size + 1) = ([], none) := by
        simp only [tk]
        rw [if_neg (by rw [wordN_ne, a9]; decide), if_neg (by rw [a10]; decide), if_pos a11]
      rw [this]
      simp [hy]
    | cons z q =>
      have e : Lib.join ((x :: z :: q).map fun x => x.f0.data.toList) [32] = x.f0.data.toList ++ 32 :: Lib.join ((z :: q).map fun x => x.f0.data.toList) [32] := by
        rw [List.map_cons, List.map_cons, Lib.join_cons, Lib.join_cons]
        simp [Lib.joinTail]
      rw [e, List.append_assoc, List.cons_append]
      obtain ⟨y, hy, h⟩ := tk_step x hx 32 a1 a3 a5 a7 (Lib.join ((z :: q).map fun x => x.f0.data.toList) [32] ++ 9 :: 35 :: c) k i
      rw [h]
      obtain ⟨h1, h2⟩ := ih (fun t ht => ho t (List.mem_cons_of_mem _ ht)) k (i + x.f0.size + 1) (by simp only [List.length_cons] at hk ⊢; omega)
      refine ⟨?_, h2⟩
      rw [List.map_cons, h1, hy]
      rfl
theorem join_len (ts : List S31) (n : Nat) (h : ∀ t ∈ ts, t.f0.size ≤ n) : (Lib.join (ts.map fun x => x.f0.data.toList) [32]).length ≤ ts.length * (n + 1) := by
  induction ts with
  | nil => simp [Lib.join_nil]
  | cons x r ih =>
    have h1 := ih (fun t ht => h t (List.mem_cons_of_mem _ ht))
    have h2 := h x List.mem_cons_self
    have hd := data_length x.f0
    cases r with
    | nil => rw [List.map_cons, List.map_nil, Lib.join_one]; simp only [List.length_cons, List.length_nil]; omega
    | cons z q =>
      have e : Lib.join ((x :: z :: q).map fun x => x.f0.data.toList) [32] = x.f0.data.toList ++ 32 :: Lib.join ((z :: q).map fun x => x.f0.data.toList) [32] := by
        rw [List.map_cons, List.map_cons, Lib.join_cons, Lib.join_cons]
        simp [Lib.joinTail]
      rw [e, List.length_append, List.length_cons, List.length_cons, Nat.succ_mul]
      omega
theorem again_l1 (l l' : List S31) (hl : l.length ≤ 1000000000) (he : l'.map (·.f0) = l.map (·.f0)) : ∀ (d i K : Nat), d + i = l.length → d + 9 < K → slotcodelaw08_LexSpaces.l1 K l l' (l'.length : Int) (i : Int) = some true := by
  have hlen : l'.length = l.length := by have := congrArg List.length he; simpa using this
  intro d
  induction d with
  | zero =>
    intro i K hd hk
    obtain ⟨K, rfl⟩ : ∃ m, K = m + 9 + 1 := ⟨K - 10, by omega⟩
    simp only [slotcodelaw08_LexSpaces.l1]
    rw [if_neg (by omega), alive_true]
    rfl
  | succ d ih =>
    intro i K hd hk
    obtain ⟨K, rfl⟩ : ∃ m, K = m + 1 := ⟨K - 1, by omega⟩
    have e1 := Aside0.mk (show wrap64 ((i : Int) + 1) = ((i + 1 : Nat) : Int) by rw [iw64 _ (by omega) (by omega)]; omega)
    have e2 : (rd_T31 l' (i : Int)).f0 = (rd_T31 l (i : Int)).f0 := by
      unfold rd_T31
      rw [Int.toNat_natCast, List.getD_eq_getElem?_getD, List.getD_eq_getElem?_getD]
      have h1 : l'[i]? = some (l'[i]'(by omega)) := List.getElem?_eq_getElem (by omega)
      have h2 : l[i]? = some (l[i]'(by omega)) := List.getElem?_eq_getElem (by omega)
      have h3 := congrArg (fun z => z[i]?) he
      simp only [List.getElem?_map, h1, h2, Option.map_some, Option.some.injEq] at h3
      rw [h1, h2]
      exact h3
    simp only [slotcodelaw08_LexSpaces.l1]
    rw [if_pos (by omega), if_pos (by omega), if_pos (by omega), if_pos (by omega), e2, if_pos rfl, e1.out]
    exact ih (i + 1) K (by omega) (by omega)
theorem spaces_l0 (s c : ByteArray) (hc : c.size ≤ 3000) (l : List S31) (hl : l.length ≤ 3000) (ho : ∀ t ∈ l, tokOk t) (hz : ∀ t ∈ l, t.f0.size ≤ 3000) (t : List S31) : ∀ (i K : Nat) (acc : List ByteArray), l.drop i = t → i ≤ l.length → t.length + 100000 < K → acc = (l.take i).map (·.f0) → slotcodelaw08_LexSpaces.l0 K c l acc l (l.length : Int) (i : Int) = some true := by
  induction t with
  | nil =>
    intro i K acc ht hi hk ha
    obtain ⟨K, rfl⟩ : ∃ m, K = m + 2 := ⟨K - 2, by omega⟩
    have hil : l.length ≤ i := List.drop_eq_nil_iff.mp ht
    obtain rfl : i = l.length := by omega
    rw [List.take_length] at ha
    subst ha
    have hj := join_len l 3000 hz
    have hjl : l.length * 3001 ≤ 3000 * 3001 := Nat.mul_le_mul_right _ hl
    obtain ⟨J, hJ⟩ : ∃ J, Lib.join (l.map fun x => x.f0.data.toList) [32] = J := ⟨_, rfl⟩
    have hmm : (l.map (·.f0)).map (·.data.toList) = l.map fun x => x.f0.data.toList := by rw [List.map_map]; rfl
    rw [hJ] at hj
    have hjf : strings_Join.f (l.map (·.f0)) ⟨#[32]⟩ = some ⟨J.toArray⟩ := by
      unfold strings_Join.f
      have e : (⟨#[32]⟩ : ByteArray).data.toList = [32] := rfl
      rw [hmm, e, hJ, if_pos ⟨by rw [List.length_map]; omega, by omega⟩]
    have hJs : (⟨J.toArray⟩ : ByteArray).size = J.length := by rw [← data_length]
    have hsz : ∀ a b : ByteArray, (a ++ b).size = a.size + b.size := fun a b => ByteArray.size_append
    have hap : ∀ a b : ByteArray, (a ++ b).data.toList = a.data.toList ++ b.data.toList := fun a b => by simp [ByteArray.data_append]
    have h2 : (⟨#[9, 35]⟩ : ByteArray).size = 2 := rfl
    obtain ⟨T, hT⟩ : ∃ T : ByteArray, (⟨J.toArray⟩ : ByteArray) ++ (⟨#[9, 35]⟩ : ByteArray) ++ c = T := ⟨_, rfl⟩
    have hTd : T.data.toList = J ++ 9 :: 35 :: c.data.toList := by rw [← hT, hap, hap]; simp
    have hTs : T.size = J.length + 2 + c.size := by rw [← hT, hsz, hsz, hJs, h2]
    obtain ⟨f1, f2⟩ := tk_joined c.data.toList l ho (T.size + 20000) 0 (by omega)
    rw [hJ, ← hTd] at f1 f2
    simp only [slotcodelaw08_LexSpaces.l0]
    rw [if_neg (by omega), hjf, Option.bind_some, if_pos (by omega), if_pos (by rw [hsz, hJs, h2]; omega), hT, tokens_f T (by omega) (T.size + 20000) (by omega), Option.bind_some]
    cases h : tk (T.size + 20000) T.data.toList 0 with
    | mk ts o =>
      rw [h] at f1 f2
      dsimp only at f1 f2
      subst f2
      rw [show tkR (ts, none) = (ts, 0, 0) from rfl]
      dsimp only
      have hlen : ts.length = l.length := by have := congrArg List.length f1; simpa using this
      have e : ((ts.length : Int) != (l.length : Int)) = false := by rw [hlen]; simp
      rw [if_pos rfl, e]
      simp only [slotcodelaw08_LexSpaces.j2]
      rw [if_neg (by decide)]
      exact again_l1 l ts (by omega) f1 l.length 0 K rfl (by omega)
  | cons x r ih =>
    intro i K acc ht hi hk ha
    obtain ⟨K, rfl⟩ : ∃ m, K = m + 1 := ⟨K - 1, by omega⟩
    obtain ⟨hd, hlt, hl2⟩ := idrop_next ht
    simp only [List.length_cons] at hk
    have hal : acc.length ≤ 3000 := by rw [ha, List.length_map, List.length_take]; omega
    have e1 := Aside0.mk (show wrap64 ((i : Int) + 1) = ((i + 1 : Nat) : Int) by rw [iw64 _ (by omega) (by omega)]; omega)
    simp only [slotcodelaw08_LexSpaces.l0]
    rw [if_pos (by omega), if_pos (by omega), if_pos (by omega), if_pos (by omega), rd31 l i x r ht, e1.out]
    refine ih (i + 1) K _ hd (by omega) (by omega) ?_
    have : l.take (i + 1) = l.take i ++ [x] := by
      rw [List.take_add_one]
      congr 1
      rw [← List.head?_drop, ht]; rfl
    rw [this, ha]; simp
/-- LexSpaces: the texts of the tokens, separated by single spaces, have the same tokens again, and a comment changes nothing. -/
theorem LexSpaces : slotcodelaw08_LexSpaces.Pure := by
  intro s c hs hcs
  obtain ⟨K, hbig⟩ : ∃ K, 5 * s.size + 1000000 ≤ K := ⟨_, Nat.le_refl _⟩
  refine ⟨K + 9 + 1, ?_⟩
  unfold slotcodelaw08_LexSpaces.f
  by_cases hb : (s.size : Int) > 3000
  · rw [if_pos hb]
    simp only [slotcodelaw08_LexSpaces.j0]
    rw [if_pos trivial, alive_true]; rfl
  · rw [if_neg hb]
    simp only [slotcodelaw08_LexSpaces.j0]
    by_cases hb2 : (c.size : Int) > 3000
    · rw [if_pos (decide_eq_true hb2), alive_true]; rfl
    · rw [if_neg (by rw [decide_eq_false hb2]; decide), tokens_f s (by omega) (s.size + 1) (by omega), Option.bind_some]
      have hlen := (tk_size (s.size + 1) s.data.toList 0).2
      have hsz := (tk_size (s.size + 1) s.data.toList 0).1
      have hok := tk_ok (s.size + 1) s.data.toList 0
      rw [data_length] at hlen hsz
      cases h : tk (s.size + 1) s.data.toList 0 with
      | mk ts o =>
        rw [h] at hlen hsz hok
        dsimp only at hlen hsz hok
        cases o with
        | some i =>
          rw [show tkR (ts, some i) = ([], (i : Int), 2) from rfl]
          dsimp only
          rw [if_neg (by decide), alive_true]; rfl
        | none =>
          rw [show tkR (ts, none) = (ts, 0, 0) from rfl]
          dsimp only
          rw [if_pos rfl]
          exact spaces_l0 s c (by omega) ts (by omega) hok (fun t ht => by have := hsz t ht; omega) ts 0 (K + 9) [] rfl (Nat.zero_le _) (by omega) (by simp)
end Go.Proofs.YtdjljggdbflohaaDoor.Pure
