/- Plain facts: hexadecimal texts. -/
import Derived.Test.YthahmmmkojeddaaDoorNumRef2
import Derived.Test.YthahmmmkojeddaaDoorPAllx24
import Derived.Test.YthahmmmkojeddaaDoorPAllx26
set_option linter.unusedVariables false
set_option linter.unusedSimpArgs false
namespace Go.Proofs.YthahmmmkojeddaaDoor.PAll
open Go.RowKit Go.Proofs.YthahmmmkojeddaaDoorW.PrintWords Go.Proofs.YthahmmmkojeddaaDoorW.PrintLast Go.Proofs.YthahmmmkojeddaaDoorW.PrintMore
theorem nrd_at (l : List Int) (i : Nat) (s : Int) (r : List Int) (h : l.drop i = s :: r) : rd l (i : Int) = s := by
  have : l[i]? = some s := by rw [← List.head?_drop, h]; rfl
  simp [rd, List.getD_eq_getElem?_getD, this]
theorem nsame_l0 (a b : List Int) (hl : a.length = b.length) (hm : a.length ≤ 1099511627776) (t : List Int) : ∀ (i k : Nat), a.drop i = t → t.length < k → i ≤ a.length →
    slotcoderef01_Same.l0 k a b (i : Int) = some (decide (t = b.drop i)) := by
  induction t with
  | nil =>
    intro i k ht hk hi
    obtain ⟨k, rfl⟩ : ∃ m, k = m + 1 := ⟨k - 1, by omega⟩
    have : a.length ≤ i := List.drop_eq_nil_iff.mp ht
    simp only [slotcoderef01_Same.l0]; rw [if_neg (by omega)]
    have hbn : b.drop i = [] := List.drop_eq_nil_iff.mpr (by omega)
    rw [hbn]; simp
  | cons s r ih =>
    intro i k ht hk hi
    obtain ⟨k, rfl⟩ : ∃ m, k = m + 1 := ⟨k - 1, by omega⟩
    obtain ⟨hd, hlt, hl2⟩ := ndrop_next ht
    obtain ⟨q, r2, hq⟩ : ∃ q r2, b.drop i = q :: r2 := by
      cases h : b.drop i with
      | nil => have := List.drop_eq_nil_iff.mp h; omega
      | cons q r2 => exact ⟨q, r2, rfl⟩
    obtain ⟨hd2, _, _⟩ := ndrop_next hq
    simp only [List.length_cons] at hk
    simp only [slotcoderef01_Same.l0]; rw [if_pos (by omega), if_pos (by omega), if_pos (by omega), nrd_at a i s r ht, nrd_at b i q r2 hq]
    by_cases c : s = q
    · rw [if_pos c, nw64 _ (by omega) (by omega), show (i : Int) + 1 = ((i + 1 : Nat) : Int) by omega, ih (i + 1) k hd (by omega) (by omega), hd2, hq]
      simp [c]
    · rw [if_neg c, hq]; simp [c]
theorem nsame_f (a b : List Int) (hm : a.length ≤ 1099511627776) (k : Nat) (hk : a.length < k) : slotcoderef01_Same.f k a b = some (decide (a = b)) := by
  unfold slotcoderef01_Same.f
  by_cases c : a.length = b.length
  · rw [if_pos (by omega)]
    have := nsame_l0 a b c hm a 0 k rfl hk (Nat.zero_le _)
    simpa using this
  · rw [if_neg (by omega)]
    have : a ≠ b := fun h => c (by rw [h])
    simp [this]
def unp : List UInt8 → Option (List Int)
  | [] => some []
  | [_] => none
  | a :: b :: r => if hexV a < 0 ∨ hexV b < 0 then none else (unp r).map fun x => (hexV a * 16 + hexV b) :: x
theorem cellU_next (a b : UInt8) (r : List UInt8) (p j : Nat) : cellU (a :: b :: r) (p + 2) (j + 1) = cellU r p j := by
  unfold cellU vAt
  have e1 : (a :: b :: r).getD (2 * (j + 1)) 0 = r.getD (2 * j) 0 := by
    rw [show 2 * (j + 1) = 2 * j + 1 + 1 by omega, List.getD_cons_succ, List.getD_cons_succ]
  have e2 : (a :: b :: r).getD (2 * (j + 1) + 1) 0 = r.getD (2 * j + 1) 0 := by
    rw [show 2 * (j + 1) + 1 = 2 * j + 1 + 1 + 1 by omega, List.getD_cons_succ, List.getD_cons_succ]
  rw [e1, e2]
  by_cases h1 : 2 * j + 1 < p
  · rw [if_pos (by omega), if_pos h1]
  · by_cases h2 : 2 * j < p
    · rw [if_neg (by omega), if_pos (by omega), if_neg h1, if_pos h2]
    · rw [if_neg (by omega), if_neg (by omega), if_neg h1, if_neg h2]
theorem rowU_cons (a b : UInt8) (r : List UInt8) (m p : Nat) : rowU (a :: b :: r) (m + 1) (p + 2) = (hexV a * 16 + hexV b) :: rowU r m p := by
  unfold rowU
  rw [List.range_succ_eq_map, List.map_cons, List.map_map]
  have e0 : cellU (a :: b :: r) (p + 2) 0 = hexV a * 16 + hexV b := by
    unfold cellU vAt
    rw [if_pos (by omega)]
    rfl
  rw [e0]
  congr 1
  apply List.map_congr_left
  intro j _
  exact cellU_next a b r p j
theorem unp_all : ∀ (n : Nat) (l : List UInt8), l.length = 2 * n → unp l = if l.all (fun b => decide (0 ≤ hexV b)) = true then some (rowU l n (2 * n)) else none := by
  intro n
  induction n with
  | zero =>
    intro l hl
    obtain rfl := List.eq_nil_of_length_eq_zero (by omega : l.length = 0)
    rfl
  | succ n ih =>
    intro l hl
    match l, hl with
    | a :: b :: r, hl =>
      have hr : r.length = 2 * n := by simp at hl; omega
      have e := ih r hr
      simp only [unp]
      have hall : (a :: b :: r).all (fun b => decide (0 ≤ hexV b)) = (decide (0 ≤ hexV a) && (decide (0 ≤ hexV b) && r.all (fun b => decide (0 ≤ hexV b)))) := rfl
      by_cases h1 : hexV a < 0
      · rw [decide_eq_false (by omega : ¬ 0 ≤ hexV a), Bool.false_and] at hall
        rw [if_pos (.inl h1), hall, if_neg (by decide)]
      · by_cases h2 : hexV b < 0
        · rw [decide_eq_false (by omega : ¬ 0 ≤ hexV b), Bool.false_and, Bool.and_false] at hall
          rw [if_pos (.inr h2), hall, if_neg (by decide)]
        · rw [decide_eq_true (by omega : 0 ≤ hexV a), decide_eq_true (by omega : 0 ≤ hexV b), Bool.true_and, Bool.true_and] at hall
          rw [if_neg (by omega), e, hall]
          by_cases h3 : r.all (fun b => decide (0 ≤ hexV b)) = true
          · rw [if_pos h3, if_pos h3, show 2 * (n + 1) = 2 * n + 2 by omega, rowU_cons]; rfl
          · rw [if_neg h3, if_neg h3]; rfl
theorem unhexR_eq (l : List UInt8) : unhexR l = match unp l with | none => ([], 3) | some x => (x, 0) := by
  unfold unhexR
  by_cases h : l.length % 2 = 1
  · rw [if_pos h]
    have : unp l = none := by
      have : ∀ (n : Nat) (l : List UInt8), l.length = 2 * n + 1 → unp l = none := by
        intro n
        induction n with
        | zero =>
          intro l hl
          match l, hl with
          | [a], _ => rfl
        | succ n ih =>
          intro l hl
          match l, hl with
          | a :: b :: r, hl =>
            simp only [unp]
            rw [ih r (by simp at hl; omega)]
            split <;> rfl
      exact this (l.length / 2) l (by omega)
    rw [this]
  · rw [if_neg h, unp_all (l.length / 2) l (by omega)]
    by_cases h3 : l.all (fun b => decide (0 ≤ hexV b)) = true
    · rw [if_pos h3, if_pos h3, show 2 * (l.length / 2) = l.length by omega]
    · rw [if_neg h3, if_neg h3]
theorem hexV_D : ∀ d : Fin 16, hexV (hexD (d.1 : Int)) = d.1 := by decide +kernel
theorem hexV_hexD (d : Int) (h0 : 0 ≤ d) (h1 : d < 16) : hexV (hexD d) = d := by
  have := hexV_D ⟨d.toNat, by omega⟩
  simp only [] at this
  rw [show ((d.toNat : Nat) : Int) = d by omega] at this
  exact this
theorem unp_hexL (l : List Int) (hb : ∀ x ∈ l, 0 ≤ x ∧ x < 256) : unp (hexL l) = some l := by
  induction l with
  | nil => rfl
  | cons x r ih =>
    have hx := hb x (by simp)
    have e : hexL (x :: r) = hexD (x / 16) :: hexD (x % 16) :: hexL r := rfl
    rw [e]
    simp only [unp]
    rw [hexV_hexD _ (by omega) (by omega), hexV_hexD _ (by omega) (by omega), if_neg (by omega), ih (fun y hy => hb y (by simp [hy]))]
    simp only [Option.map_some]
    rw [show x / 16 * 16 + x % 16 = x by omega]
def dig16 : ByteArray := ⟨#[48, 49, 50, 51, 52, 53, 54, 55, 56, 57, 97, 98, 99, 100, 101, 102]⟩
theorem dig16_at (d : Nat) (h : d < 16) : (dig16.extract d (d + 1)).data.toList = [hexD (d : Int)] := by
  have h' : ∀ n : Fin 16, (dig16.extract n.1 (n.1 + 1)).data.toList = [hexD (n.1 : Int)] := by decide +kernel
  exact h' ⟨d, h⟩
theorem ndata_app (a b : ByteArray) : (a ++ b).data.toList = a.data.toList ++ b.data.toList := by simp
theorem hex_dig : ∀ n : Fin 256, (hexV (UInt8.ofNat n.1) < 0 ↔ (digR 16 n.1 < 0 ∨ (65 ≤ n.1 ∧ n.1 ≤ 70))) ∧ (0 ≤ hexV (UInt8.ofNat n.1) → hexV (UInt8.ofNat n.1) = digR 16 n.1) := by decide +kernel
theorem hexV_dig (b : UInt8) : (hexV b < 0 ↔ (digR 16 b.toNat < 0 ∨ (65 ≤ b.toNat ∧ b.toNat ≤ 70))) ∧ (0 ≤ hexV b → hexV b = digR 16 b.toNat) := by
  have := hex_dig ⟨b.toNat, b.toNat_lt⟩
  simpa using this
section
set_option maxHeartbeats 1000000
theorem nw64i (i : Nat) (h : i ≤ 1000000000) : wrap64 ((i : Int) + 1) = ((i + 1 : Nat) : Int) := by rw [nw64 _ (by omega) (by omega)]; omega
theorem nw64j (i : Nat) (h : i ≤ 1000000000) : wrap64 ((i : Int) + 2) = ((i + 2 : Nat) : Int) := by rw [nw64 _ (by omega) (by omega)]; omega
theorem dig16_sz (d : Nat) (h : d < 16) : (dig16.extract d (d + 1)).size = 1 ∧ (dig16.extract d (d + 1)).data.toList = [hexD (d : Int)] := by
  have e := dig16_at d h
  refine ⟨?_, e⟩
  have := congrArg List.length e
  rw [data_length] at this
  exact this
theorem hex_vals (x : Int) (h0 : 0 ≤ x) (h1 : x < 256) : ∃ p q : Nat, p < 16 ∧ q < 16 ∧ (p : Int) = x / 16 ∧ (q : Int) = x % 16 ∧ Aside0 (wrap64 x = x ∧ wrap64 (Int.tdiv x 16) = (p : Int) ∧ Int.tmod x 16 = (q : Int) ∧ wrap64 ((p : Int) + 1) = ((p + 1 : Nat) : Int) ∧ wrap64 ((q : Int) + 1) = ((q + 1 : Nat) : Int)) := by
  have hp : ((x / 16).toNat : Int) = x / 16 := by omega
  have hq : ((x % 16).toNat : Int) = x % 16 := by omega
  refine ⟨(x / 16).toNat, (x % 16).toNat, by omega, by omega, hp, hq, ⟨nw64 _ (by omega) (by omega), ?_, ?_, nw64i _ (by omega), nw64i _ (by omega)⟩⟩
  · rw [Int.tdiv_eq_ediv_of_nonneg h0, nw64 _ (by omega) (by omega), hp]
  · rw [Int.tmod_eq_emod_of_nonneg h0, hq]
theorem dig16_size : (dig16.size : Int) = 16 := rfl
theorem rhex_l0 (l : List Int) (hl : l.length ≤ 1000000) (hb : ∀ x ∈ l, 0 ≤ x ∧ x < 256) (t : List Int) : ∀ (i k : Nat) (acc : ByteArray), l.drop i = t → t.length < k → i ≤ l.length → acc.size ≤ 2 * i →
    ∃ r, slotcoderef01_Hex.l0 k l dig16 acc (i : Int) = some r ∧ r.data.toList = acc.data.toList ++ hexL t := by
  induction t with
  | nil =>
    intro i k acc ht hk hi _
    obtain ⟨k, rfl⟩ : ∃ m, k = m + 1 := ⟨k - 1, by omega⟩
    have : l.length ≤ i := List.drop_eq_nil_iff.mp ht
    simp only [slotcoderef01_Hex.l0]
    rw [if_neg (by omega)]
    exact ⟨acc, rfl, by simp [hexL]⟩
  | cons x r ih =>
    intro i k acc ht hk hi ha
    obtain ⟨k, rfl⟩ : ∃ m, k = m + 1 := ⟨k - 1, by omega⟩
    obtain ⟨hd, hlt, hl2⟩ := ndrop_next ht
    have hx := hb x (List.mem_of_mem_drop (i := i) (by rw [ht]; simp))
    simp only [List.length_cons] at hk
    obtain ⟨p, q, hp16, hq16, hpx, hqx, V⟩ := hex_vals x hx.1 hx.2
    have hi1 : wrap64 ((i : Int) + 1) = ((i + 1 : Nat) : Int) := nw64i i (by omega)
    have HI1 := Aside0.mk hi1
    clear hi1
    obtain ⟨s1, d1⟩ := dig16_sz p hp16
    obtain ⟨s2, d2⟩ := dig16_sz q hq16
    simp only [slotcoderef01_Hex.l0]
    rw [nrd_at l i x r ht, V.out.1, V.out.2.1, V.out.2.2.1, V.out.2.2.2.1, V.out.2.2.2.2, dig16_size, if_pos (by omega), if_pos (by omega), if_pos (by omega), if_pos (by omega), if_pos (by omega), if_pos (by omega), if_pos (by omega), if_pos (by omega)]
    simp only [Int.toNat_natCast]
    rw [if_pos (by rw [s1, s2]; omega), if_pos (by rw [ByteArray.size_append, s1, s2]; omega), HI1.out]
    obtain ⟨res, h1, h2⟩ := ih (i + 1) k (acc ++ (dig16.extract p (p + 1) ++ dig16.extract q (q + 1))) hd (by omega) (by omega) (by rw [ByteArray.size_append, ByteArray.size_append, s1, s2]; omega)
    refine ⟨res, h1, ?_⟩
    rw [h2, ndata_app, ndata_app, d1, d2, hpx, hqx]
    simp [hexL]
theorem runhex_l0 (s : ByteArray) (hs : s.size ≤ 1000000) : ∀ (n i k : Nat) (acc : List Int) (t : List UInt8), t.length = 2 * n → s.data.toList.drop i = t → n + 20 < k → acc.length ≤ i → i ≤ s.size →
    slotcoderef01_Unhex.l0 k s acc (i : Int) = some (match unp t with | none => ([], false) | some x => (acc ++ x, true)) := by
  have hlen : s.data.toList.length = s.size := data_length s
  intro n
  induction n with
  | zero =>
    intro i k acc t htl ht hk _ _
    obtain ⟨k, rfl⟩ : ∃ m, k = m + 1 := ⟨k - 1, by omega⟩
    obtain rfl := List.eq_nil_of_length_eq_zero (by omega : t.length = 0)
    have : s.data.toList.length ≤ i := List.drop_eq_nil_iff.mp ht
    simp only [slotcoderef01_Unhex.l0]
    rw [if_neg (by omega)]
    simp [unp]
  | succ n ih =>
    intro i k acc t htl ht hk ha hi
    obtain ⟨k, rfl⟩ : ∃ m, k = m + 1 := ⟨k - 1, by omega⟩
    match t, htl, ht with
    | a :: b :: r, htl, ht =>
      obtain ⟨hd, hlt, hl2⟩ := ndrop_next ht
      obtain ⟨hd2, hlt2, hl3⟩ := ndrop_next hd
      have hr : r.length = 2 * n := by simp at htl; omega
      have ba := bt_cons s i a _ ht
      have bb := bt_cons s (i + 1) b _ hd
      have E1 := Aside0.mk (nw64i i (by omega))
      have E2 := Aside0.mk (nw64j i (by omega))
      have A := Aside0.mk (hexV_dig a)
      have B := Aside0.mk (hexV_dig b)
      obtain ⟨va, hva_⟩ : ∃ v, hexV a = v := ⟨_, rfl⟩
      obtain ⟨vb, hvb_⟩ : ∃ v, hexV b = v := ⟨_, rfl⟩
      obtain ⟨da, hda_⟩ : ∃ v, digR 16 a.toNat = v := ⟨_, rfl⟩
      obtain ⟨db, hdb_⟩ : ∃ v, digR 16 b.toNat = v := ⟨_, rfl⟩
      have hal := hexV_lt a
      have hbl := hexV_lt b
      rw [hva_] at hal A
      rw [hvb_] at hbl B
      rw [hda_] at A
      rw [hdb_] at B
      have SUB := Aside0.mk (And.intro hva_ (And.intro hvb_ (And.intro hda_ hdb_)))
      have DA := Aside0.mk (digit_f a 16 (.inr rfl) k (by omega))
      have DB := Aside0.mk (digit_f b 16 (.inr rfl) k (by omega))
      rw [hda_] at DA
      rw [hdb_] at DB
      clear hva_ hvb_ hda_ hdb_
      obtain ⟨na, hna⟩ : ∃ n : Nat, a.toNat = n := ⟨_, rfl⟩
      obtain ⟨nb, hnb⟩ : ∃ n : Nat, b.toNat = n := ⟨_, rfl⟩
      rw [hna] at A DA ba
      rw [hnb] at B DB bb
      have ha1 := A.out.1
      have ha2 := A.out.2
      have hb1 := B.out.1
      have hb2 := B.out.2
      simp only [slotcoderef01_Unhex.l0, unp]
      rw [SUB.out.1, SUB.out.2.1, if_pos (by omega), if_pos (by omega), ba, DA.out, Option.bind_some, E1.out, if_pos (by omega), if_pos (by omega), bb, DB.out, Option.bind_some, E2.out]
      by_cases c1 : da < 0
      · rw [if_pos c1, if_pos (.inl (ha1.2 (.inl c1)))]
      · rw [if_neg c1]
        by_cases c2 : db < 0
        · rw [if_pos c2, if_pos (.inr (hb1.2 (.inl c2)))]
        · rw [if_neg c2]
          by_cases c3 : 65 ≤ na ∧ na ≤ 70
          · rw [if_pos (by omega), if_pos (by omega), if_pos (.inl (ha1.2 (.inr c3)))]
          · by_cases c4 : 65 ≤ nb ∧ nb ≤ 70
            · have hbad : va < 0 ∨ vb < 0 := .inr (hb1.2 (.inr c4))
              rw [if_pos hbad]
              by_cases c6 : (na : Int) ≥ 65
              · rw [if_pos c6, if_neg (by omega), if_pos (by omega), if_pos (by omega)]
              · rw [if_neg c6, if_pos (by omega), if_pos (by omega)]
            · have hva : ¬ va < 0 := fun h => by rcases ha1.1 h with h | h; exact c1 h; exact c3 h
              have hvb : ¬ vb < 0 := fun h => by rcases hb1.1 h with h | h; exact c2 h; exact c4 h
              have ea := ha2 (by omega)
              have eb := hb2 (by omega)
              subst ea
              subst eb
              have EV := Aside0.mk (show wrap64 (wrap64 (16 * va) + vb) % 256 = va * 16 + vb by
                rw [nw64 (16 * va) (by omega) (by omega), nw64 _ (by omega) (by omega)]; omega)
              have hgo : slotcoderef01_Unhex.l0 k s (acc ++ [va * 16 + vb]) ((i + 2 : Nat) : Int) =
                  some (match (unp r).map fun x => (va * 16 + vb) :: x with | none => (([] : List Int), false) | some x => (acc ++ x, true)) := by
                rw [ih (i + 2) k _ r hr hd2 (by omega) (by simp; omega) (by omega)]
                cases unp r with
                | none => rfl
                | some x => simp
              rw [EV.out, hgo, if_neg (show ¬ (va < 0 ∨ vb < 0) by omega)]
              by_cases c6 : (na : Int) ≥ 65
              · rw [if_pos c6, if_neg (by omega)]
                by_cases c5 : (nb : Int) ≥ 65
                · rw [if_pos c5, if_neg (by omega), if_pos (by omega)]
                · rw [if_neg c5, if_pos (by omega)]
              · rw [if_neg c6]
                by_cases c5 : (nb : Int) ≥ 65
                · rw [if_pos c5, if_neg (by omega), if_pos (by omega)]
                · rw [if_neg c5, if_pos (by omega)]
end
theorem runhex_f (s : ByteArray) (hs : s.size ≤ 1000000) (k : Nat) (hk : s.size + 30 < k) : slotcoderef01_Unhex.f k s = some (match unp s.data.toList with | none => ([], false) | some x => (x, true)) := by
  have hlen : s.data.toList.length = s.size := data_length s
  unfold slotcoderef01_Unhex.f
  by_cases h : s.size % 2 = 1
  · rw [if_pos (by omega)]
    have := unhexR_eq s.data.toList
    unfold unhexR at this
    rw [if_pos (by omega)] at this
    cases hu : unp s.data.toList with
    | none => rfl
    | some x => rw [hu] at this; simp at this
  · rw [if_neg (by omega)]
    have := runhex_l0 s hs (s.size / 2) 0 k [] s.data.toList (by omega) rfl (by omega) (by simp) (by omega)
    have h0 : slotcoderef01_Unhex.l0 k s [] 0 = _ := this
    rw [h0]
    cases unp s.data.toList <;> rfl
theorem nbyte_wf {x : Int} (h : (Lit.int .u8 x).wf = true) : 0 ≤ x ∧ x < 256 := by
  have h' : (decide ((IntKind.u8).min ≤ x) && decide (x ≤ (IntKind.u8).max)) = true := h
  rw [show (IntKind.u8).min = 0 by decide, show (IntKind.u8).max = 255 by decide, Bool.and_eq_true, decide_eq_true_eq, decide_eq_true_eq] at h'
  omega
end Go.Proofs.YthahmmmkojeddaaDoor.PAll
