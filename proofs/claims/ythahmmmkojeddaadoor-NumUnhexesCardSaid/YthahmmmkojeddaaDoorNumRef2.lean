/- Plain facts: the reference's Read and Parse. -/
import Derived.Test.YthahmmmkojeddaaDoorNumRef
import Derived.Test.YthahmmmkojeddaaDoorPAllx14
set_option linter.unusedVariables false
set_option linter.unusedSimpArgs false
namespace Go.Proofs.YthahmmmkojeddaaDoor.PAll
open Go.RowKit Go.Proofs.YthahmmmkojeddaaDoorW.PrintWords Go.Proofs.YthahmmmkojeddaaDoorW.PrintLast Go.Proofs.YthahmmmkojeddaaDoorW.PrintMore
theorem leo_up {α : Type} {f : Nat → Option α} (hm : ∀ k, LeO (f k) (f (k + 1))) {k0 : Nat} {r : α} (h : f k0 = some r) : ∀ k, k0 ≤ k → f k = some r := by
  intro k hk
  obtain ⟨n, rfl⟩ : ∃ n, k = k0 + n := ⟨k - k0, by omega⟩
  clear hk
  induction n with
  | zero => exact h
  | succ n ih => exact hm _ _ ih
theorem digit_at : ∀ n : Fin 256, slotcoderef01_Digit.f 6 (n.1 : Int) 10 = some (digR 10 n.1) ∧ slotcoderef01_Digit.f 6 (n.1 : Int) 16 = some (digR 16 n.1) := by decide +kernel
theorem digit_f (b : UInt8) (base : Int) (hb : base = 10 ∨ base = 16) (k : Nat) (hk : 6 ≤ k) : slotcoderef01_Digit.f k (b.toNat : Int) base = some (digR base b.toNat) := by
  have h := digit_at ⟨b.toNat, b.toNat_lt⟩
  refine leo_up (f := fun k => slotcoderef01_Digit.f k (b.toNat : Int) base) (fun k => slotcoderef01_Digit.mono _ _ k) ?_ k hk
  rcases hb with rfl | rfl
  · exact h.1
  · exact h.2
theorem ndrop_next {α : Type} {l : List α} {i : Nat} {s : α} {r : List α} (h : l.drop i = s :: r) : l.drop (i + 1) = r ∧ i < l.length ∧ l.length = i + 1 + r.length := by
  have h1 : l.drop (i + 1) = (l.drop i).drop 1 := by rw [List.drop_drop]
  have h2 := congrArg List.length h
  rw [List.length_drop, List.length_cons] at h2
  refine ⟨by rw [h1, h]; rfl, by omega, by omega⟩
theorem bt_cons (s : ByteArray) (i : Nat) (b : UInt8) (r : List UInt8) (h : s.data.toList.drop i = b :: r) : bt s (i : Int) = (b.toNat : Int) := by
  obtain ⟨_, hlt, _⟩ := ndrop_next h
  rw [← rd_bytesOf]
  have : (bytesOf s)[i]? = some (b.toNat : Int) := by
    unfold bytesOf
    rw [List.getElem?_map, ← List.head?_drop, h]; rfl
  simp [rd, List.getD_eq_getElem?_getD, this]
theorem read_l0 (s : ByteArray) (hs : s.size ≤ 1099511627776) (m : Bool) (base : Int) (hb : base = 10 ∨ base = 16) (t : List UInt8) : ∀ (i k : Nat) (v : Int) (o : Bool), s.data.toList.drop i = t → t.length + 10 < k → i ≤ s.size → 0 ≤ v → v < 18446744073709551616 →
    slotcoderef01_Read.l0 k s m base v o (i : Int) = some (match readL base t v o with | none => (false, 0, false, false) | some (v', o') => (m, v', o', true)) := by
  have hlen : s.data.toList.length = s.size := data_length s
  induction t with
  | nil =>
    intro i k v o ht hk hi h0 h1
    obtain ⟨k, rfl⟩ : ∃ m, k = m + 1 := ⟨k - 1, by omega⟩
    have : s.data.toList.length ≤ i := List.drop_eq_nil_iff.mp ht
    simp only [slotcoderef01_Read.l0]
    rw [if_neg (by omega)]
    rfl
  | cons b r ih =>
    intro i k v o ht hk hi h0 h1
    obtain ⟨k, rfl⟩ : ∃ m, k = m + 1 := ⟨k - 1, by omega⟩
    obtain ⟨hd, hlt, hl2⟩ := ndrop_next ht
    simp only [List.length_cons] at hk
    simp only [slotcoderef01_Read.l0]
    rw [if_pos (by omega), if_pos (by omega), bt_cons s i b r ht, digit_f b base hb k (by omega)]
    simp only [Option.bind_some]
    by_cases hd0 : digR base b.toNat < 0
    · rw [if_pos hd0, readL_none _ _ _ _ _ hd0]
    · have hdb := digR_bounds base b.toNat (by omega)
      rw [if_neg hd0, readL_some _ _ _ _ _ hd0]
      obtain ⟨d, hde⟩ : ∃ d, digR base b.toNat = d := ⟨_, rfl⟩
      rw [hde] at hd0 hdb ⊢
      have hbase : IntKind.u64.wrap base = base := by rw [u64_mod]; rcases hb with rfl | rfl <;> rfl
      have hd : IntKind.u64.wrap d = d := by rw [u64_mod]; omega
      have hq : IntKind.u64.wrap (Int.tdiv (IntKind.u64.wrap (18446744073709551615 - d)) base) = (18446744073709551615 - d) / base := by
        rw [u64_mod, u64_mod]
        rcases hb with rfl | rfl
        · rw [Int.tdiv_eq_ediv_of_nonneg (by omega)]; omega
        · rw [Int.tdiv_eq_ediv_of_nonneg (by omega)]; omega
      have hv : IntKind.u64.wrap (IntKind.u64.wrap (v * base) + d) = (v * base + d) % 18446744073709551616 := by rw [u64_mod, u64_mod]; omega
      rw [hbase, hd, hq, hv, if_neg (by rcases hb with rfl | rfl <;> decide), nw64 _ (by omega) (by omega), show (i : Int) + 1 = ((i + 1 : Nat) : Int) by omega]
      have hi' := fun o' => ih (i + 1) k ((v * base + d) % 18446744073709551616) o' (by assumption) (by omega) (by omega) (by omega) (by omega)
      rw [hi', hi']
      by_cases c : v > (18446744073709551615 - d) / base
      · rw [if_pos c, decide_eq_true c, Bool.or_true]
      · rw [if_neg c, decide_eq_false c, Bool.or_false]
theorem extract_list (s : ByteArray) (a : Nat) : (s.extract a s.size).data.toList = s.data.toList.drop a := by
  rw [Lib.extract_data, List.take_of_length_le (by rw [List.length_drop, data_length]; omega)]
def readR (m : Bool) (base : Int) (l : List UInt8) : Bool × Int × Bool × Bool :=
  if l = [] then (false, 0, false, false) else match readL base l 0 false with | none => (false, 0, false, false) | some (v', o') => (m, v', o', true)
theorem read_j3 (s : ByteArray) (hs : s.size ≤ 1099511627776) (m : Bool) (base : Int) (hb : base = 10 ∨ base = 16) (k : Nat) (hk : s.size + 20 < k) : slotcoderef01_Read.j3 k s m base = some (readR m base s.data.toList) := by
  obtain ⟨k, rfl⟩ : ∃ m, k = m + 1 := ⟨k - 1, by omega⟩
  have hlen : s.data.toList.length = s.size := data_length s
  simp only [slotcoderef01_Read.j3, readR]
  by_cases h : s.size = 0
  · rw [if_pos (by omega), if_pos (List.eq_nil_of_length_eq_zero (by omega))]
  · rw [if_neg (by omega), if_neg (fun e => h (by rw [← hlen, e]; rfl))]
    exact read_l0 s hs m base hb s.data.toList 0 k 0 false rfl (by omega) (by omega) (by omega) (by omega)
theorem read_j1 (s : ByteArray) (hs : s.size ≤ 1099511627776) (m : Bool) (k : Nat) (hk : s.size + 30 < k) :
    slotcoderef01_Read.j1 k s m = some (if Lib.hasPrefix s.data.toList [48, 120] = true then readR m 16 (Lib.trimPrefix s.data.toList [48, 120]) else readR m 10 s.data.toList) := by
  have hlen : s.data.toList.length = s.size := data_length s
  obtain ⟨k, rfl⟩ : ∃ m, k = m + 1 + 1 := ⟨k - 2, by omega⟩
  have hj2 : ∀ x35, slotcoderef01_Read.j2 (k + 1) s m 10 x35 = if x35 = true then (if 2 ≤ (s.size : Int) then some (readR m 16 (s.data.toList.drop 2)) else none) else some (readR m 10 s.data.toList) := by
    intro x
    simp only [slotcoderef01_Read.j2]
    rw [read_j3 s hs m 10 (.inl rfl) k (by omega)]
    by_cases h2 : 2 ≤ (s.size : Int)
    · have hsz : (s.extract 2 s.size).size = s.size - 2 := by simp [ByteArray.size_extract]
      rw [read_j3 (s.extract 2 s.size) (by omega) m 16 (.inr rfl) k (by omega), extract_list]
    · rw [if_neg h2, if_neg h2]
  simp only [slotcoderef01_Read.j1]
  rw [hj2, hj2]
  match hl : s.data.toList with
  | [] =>
    rw [hl] at hlen
    simp only [List.length_nil] at hlen
    rw [if_neg (by omega), if_neg (by decide), if_neg (by decide)]
  | [a] =>
    rw [hl] at hlen
    simp only [List.length_cons, List.length_nil] at hlen
    rw [if_neg (by omega), if_neg (by decide), if_neg (by simp [Lib.hasPrefix])]
  | a :: b :: r =>
    rw [hl] at hlen
    simp only [List.length_cons] at hlen
    have b0 := bt_cons s 0 a (b :: r) (by rw [hl]; rfl)
    have b1 := bt_cons s 1 b r (by rw [hl]; rfl)
    have b0' : bt s 0 = (a.toNat : Int) := b0
    have b1' : bt s 1 = (b.toNat : Int) := b1
    rw [if_pos (by omega), if_pos (by omega), b0', b1']
    have ha : ((a.toNat : Int) = 48) ↔ a = 48 := by
      constructor
      · intro h; apply UInt8.toNat_inj.1; have : (48 : UInt8).toNat = 48 := rfl; omega
      · rintro rfl; rfl
    have hb : (((b.toNat : Int) == 120) = true) ↔ b = 120 := by
      rw [beq_iff_eq]
      constructor
      · intro h; apply UInt8.toNat_inj.1; have : (120 : UInt8).toNat = 120 := rfl; omega
      · rintro rfl; rfl
    have hp : Lib.hasPrefix (a :: b :: r) [48, 120] = (a == 48 && b == 120) := by simp [Lib.hasPrefix, List.isPrefixOf, Bool.and_comm, eq_comm, BEq.comm]
    have ht : Lib.hasPrefix (a :: b :: r) [48, 120] = true → Lib.trimPrefix (a :: b :: r) [48, 120] = r := fun h => by rw [Lib.trimPrefix, if_pos h]; rfl
    by_cases h1 : a = 48
    · rw [if_pos (ha.2 h1), if_pos (by omega)]
      by_cases h2 : b = 120
      · have hpt : Lib.hasPrefix (a :: b :: r) [48, 120] = true := by rw [hp, h1, h2]; rfl
        rw [if_pos (hb.2 h2), if_pos (by omega), if_pos hpt, ht hpt]; rfl
      · have hpf : ¬ Lib.hasPrefix (a :: b :: r) [48, 120] = true := by rw [hp]; simp [h1, h2]
        rw [if_neg (fun h => h2 (hb.1 h)), if_neg hpf]
    · have hpf : ¬ Lib.hasPrefix (a :: b :: r) [48, 120] = true := by rw [hp]; simp [h1]
      rw [if_neg (fun h => h1 (ha.1 h)), if_neg (by decide), if_neg hpf]
theorem read_f (s : ByteArray) (hs : s.size ≤ 1099511627776) (k : Nat) (hk : s.size + 40 < k) :
    slotcoderef01_Read.f k s = some (if Lib.hasPrefix (Lib.trimPrefix s.data.toList [45]) [48, 120] = true then readR (Lib.hasPrefix s.data.toList [45]) 16 (Lib.trimPrefix (Lib.trimPrefix s.data.toList [45]) [48, 120]) else readR (Lib.hasPrefix s.data.toList [45]) 10 (Lib.trimPrefix s.data.toList [45])) := by
  have hlen : s.data.toList.length = s.size := data_length s
  obtain ⟨k, rfl⟩ : ∃ m, k = m + 1 := ⟨k - 1, by omega⟩
  unfold slotcoderef01_Read.f
  simp only [slotcoderef01_Read.j0]
  match hl : s.data.toList with
  | [] =>
    rw [hl] at hlen
    simp only [List.length_nil] at hlen
    rw [if_neg (by omega), if_neg (by decide), read_j1 s hs _ k (by omega), hl]
    rfl
  | a :: r =>
    rw [hl] at hlen
    simp only [List.length_cons] at hlen
    have b0 : bt s 0 = (a.toNat : Int) := bt_cons s 0 a r (by rw [hl]; rfl)
    rw [if_pos (by omega), if_pos (by omega), b0]
    by_cases h1 : a = 45
    · subst h1
      have hp : Lib.hasPrefix (45 :: r) [45] = true := by simp [Lib.hasPrefix, List.isPrefixOf]
      have ht : Lib.trimPrefix (45 :: r) [45] = r := by rw [Lib.trimPrefix, if_pos hp]; rfl
      have hsz : (s.extract 1 s.size).size = s.size - 1 := by simp [ByteArray.size_extract]
      rw [hp, ht, if_pos (by rfl), if_pos (by omega), read_j1 (s.extract 1 s.size) (by omega) _ k (by omega), extract_list, hl]
      rfl
    · have hp : Lib.hasPrefix (a :: r) [45] = false := by
        simp only [Lib.hasPrefix, List.isPrefixOf]
        rw [beq_eq_false_iff_ne.2 (fun h => h1 h.symm)]; rfl
      have ht : Lib.trimPrefix (a :: r) [45] = a :: r := by rw [Lib.trimPrefix, if_neg (by rw [hp]; decide)]
      have hn : ((a.toNat : Int) == 45) = false := by
        rw [beq_eq_false_iff_ne]
        intro h
        apply h1
        apply UInt8.toNat_inj.1
        have : (45 : UInt8).toNat = 45 := rfl
        omega
      rw [hp, ht, hn, if_neg (by decide), read_j1 s hs _ k (by omega), hl]
theorem readL_range (base : Int) (hb : base = 10 ∨ base = 16) (l : List UInt8) : ∀ (v : Int) (o : Bool) (r : Int × Bool), 0 ≤ v → v < 18446744073709551616 → readL base l v o = some r → 0 ≤ r.1 ∧ r.1 < 18446744073709551616 := by
  induction l with
  | nil => intro v o r h0 h1 h; cases h; exact ⟨h0, h1⟩
  | cons b l ih =>
    intro v o r h0 h1 h
    by_cases hd : digR base b.toNat < 0
    · rw [readL_none _ _ _ _ _ hd] at h; cases h
    · rw [readL_some _ _ _ _ _ hd] at h
      exact ih _ _ r (by omega) (by omega) h
theorem parseT_eq (m : Bool) (bits v : Int) (o : Bool) (h0 : 0 ≤ v) (h1 : v < 18446744073709551616) : parseT m bits (some (v, o)) = if o = true ∨ knownB bits = false then (0, 4) else
      if (m = true ∧ v > 2 ^ (bits - 1).toNat) ∨ (m = false ∧ bits < 64 ∧ v ≥ 2 * 2 ^ (bits - 1).toNat) then (0, 4) else (extI (if m = true then (0 - v) % 18446744073709551616 else v) bits, 0) := by
  simp only [parseT]
  rw [extend_n _ _ (by split <;> omega) (by split <;> omega)]
  rfl
/-- The reference's Parse from what was read. -/
theorem rparse_of (k : Nat) (s : ByteArray) (bits : Int) (m : Bool) (base : Int) (hb : base = 10 ∨ base = 16) (l : List UInt8) (hk : 200 < k) (h : slotcoderef01_Read.f k s = some (readR m base l)) : slotcoderef01_Parse.f k s bits = some (parseB m base l bits) := by
  obtain ⟨k, rfl⟩ : ∃ m, k = m + 1 := ⟨k - 1, by omega⟩
  unfold slotcoderef01_Parse.f parseB
  rw [h]
  simp only [Option.bind_some]
  unfold readR
  by_cases hl : l = []
  · rw [if_pos hl, if_pos hl]; rfl
  · rw [if_neg hl, if_neg hl]
    cases hr : readL base l 0 false with
    | none => rfl
    | some r =>
      obtain ⟨v, o⟩ := r
      obtain ⟨v0, v1⟩ := readL_range base hb l 0 false _ (by omega) (by omega) hr
      simp only [] at v0 v1
      rw [parseT_eq m bits v o v0 v1]
      simp only []
      rw [if_pos (by trivial), width_f]
      simp only [Option.bind_some]
      have hj : ∀ x48, slotcoderef01_Parse.j0 (k + 1) bits m v x48 = if x48 = true then some (0, 4) else some (extI (if m = true then (0 - v) % 18446744073709551616 else v) bits, 0) := by
        intro x
        simp only [slotcoderef01_Parse.j0]
        rw [u64_mod, show -v = 0 - v by omega, extend_r _ _ (by omega) (by omega) k (by omega), extend_r v _ v0 v1 k (by omega)]
        cases m <;> rfl
      simp only [hj]
      by_cases hkn : knownB bits = true
      · rw [if_pos hkn]
        rcases known_cases hkn with rfl | rfl | rfl | rfl
        · have p1 := power_f 8 (by omega) (k + 1) (by omega)
          rw [show ((8 : Nat) : Int) = 8 by rfl, show (((2 ^ 8 : Nat)) : Int) = 256 by decide] at p1
          have p2 := power_f 7 (by omega) (k + 1) (by omega)
          rw [show ((7 : Nat) : Int) = 7 by rfl, show (((2 ^ 7 : Nat)) : Int) = 128 by decide] at p2
          have e : wrap64 (8 - 1) = 7 := by unfold wrap64; omega
          have p8 : (2 : Int) ^ ((8 : Int) - 1).toNat = 128 := by decide
          rw [p8]
          cases m <;> cases o <;> simp only [e, p2, p1, Option.bind_some, if_true, if_false, Bool.false_eq_true, decide_eq_true_eq, or_self, true_and, false_and, false_or, or_false, reduceCtorEq, hkn, Bool.true_eq_false]
          all_goals (first | rfl | (split <;> first | rfl | (rw [if_pos (by omega)]; done) | (rw [if_neg (by omega)]; done)) | (rw [if_pos (by omega)]; split <;> first | rfl | (rw [if_pos (by omega)]; done) | (rw [if_neg (by omega)]; done)) | (rw [if_neg (by omega)]; split <;> first | rfl | (rw [if_pos (by omega)]; done) | (rw [if_neg (by omega)]; done)))
        · have p1 := power_f 16 (by omega) (k + 1) (by omega)
          rw [show ((16 : Nat) : Int) = 16 by rfl, show (((2 ^ 16 : Nat)) : Int) = 65536 by decide] at p1
          have p2 := power_f 15 (by omega) (k + 1) (by omega)
          rw [show ((15 : Nat) : Int) = 15 by rfl, show (((2 ^ 15 : Nat)) : Int) = 32768 by decide] at p2
          have e : wrap64 (16 - 1) = 15 := by unfold wrap64; omega
          have p8 : (2 : Int) ^ ((16 : Int) - 1).toNat = 32768 := by decide
          rw [p8]
          cases m <;> cases o <;> simp only [e, p2, p1, Option.bind_some, if_true, if_false, Bool.false_eq_true, decide_eq_true_eq, or_self, true_and, false_and, false_or, or_false, reduceCtorEq, hkn, Bool.true_eq_false]
          all_goals (first | rfl | (split <;> first | rfl | (rw [if_pos (by omega)]; done) | (rw [if_neg (by omega)]; done)) | (rw [if_pos (by omega)]; split <;> first | rfl | (rw [if_pos (by omega)]; done) | (rw [if_neg (by omega)]; done)) | (rw [if_neg (by omega)]; split <;> first | rfl | (rw [if_pos (by omega)]; done) | (rw [if_neg (by omega)]; done)))
        · have p1 := power_f 32 (by omega) (k + 1) (by omega)
          rw [show ((32 : Nat) : Int) = 32 by rfl, show (((2 ^ 32 : Nat)) : Int) = 4294967296 by decide] at p1
          have p2 := power_f 31 (by omega) (k + 1) (by omega)
          rw [show ((31 : Nat) : Int) = 31 by rfl, show (((2 ^ 31 : Nat)) : Int) = 2147483648 by decide] at p2
          have e : wrap64 (32 - 1) = 31 := by unfold wrap64; omega
          have p8 : (2 : Int) ^ ((32 : Int) - 1).toNat = 2147483648 := by decide
          rw [p8]
          cases m <;> cases o <;> simp only [e, p2, p1, Option.bind_some, if_true, if_false, Bool.false_eq_true, decide_eq_true_eq, or_self, true_and, false_and, false_or, or_false, reduceCtorEq, hkn, Bool.true_eq_false]
          all_goals (first | rfl | (split <;> first | rfl | (rw [if_pos (by omega)]; done) | (rw [if_neg (by omega)]; done)) | (rw [if_pos (by omega)]; split <;> first | rfl | (rw [if_pos (by omega)]; done) | (rw [if_neg (by omega)]; done)) | (rw [if_neg (by omega)]; split <;> first | rfl | (rw [if_pos (by omega)]; done) | (rw [if_neg (by omega)]; done)))
        · have p2 := power_f 63 (by omega) (k + 1) (by omega)
          rw [show ((63 : Nat) : Int) = 63 by rfl, show (((2 ^ 63 : Nat)) : Int) = 9223372036854775808 by decide] at p2
          have e : wrap64 (64 - 1) = 63 := by unfold wrap64; omega
          have p8 : (2 : Int) ^ ((64 : Int) - 1).toNat = 9223372036854775808 := by decide
          rw [p8]
          cases m <;> cases o <;> simp only [e, p2, Option.bind_some, if_true, if_false, Bool.false_eq_true, decide_eq_true_eq, or_self, true_and, false_and, false_or, or_false, reduceCtorEq, hkn, Bool.true_eq_false]
          all_goals (first | rfl | (split <;> first | rfl | (rw [if_pos (by omega)]; done) | (rw [if_neg (by omega)]; done)) | (rw [if_pos (by omega)]; split <;> first | rfl | (rw [if_pos (by omega)]; done) | (rw [if_neg (by omega)]; done)) | (rw [if_neg (by omega)]; split <;> first | rfl | (rw [if_pos (by omega)]; done) | (rw [if_neg (by omega)]; done)))
      · have hk2 : knownB bits = false := by simpa using hkn
        rw [if_neg hkn, if_pos True.intro, if_pos (Or.inr hk2)]
theorem rparse_f (s : ByteArray) (hs : s.size ≤ 1099511627776) (bits : Int) (k : Nat) (hk : s.size + 300 < k) : slotcoderef01_Parse.f k s bits = some (parseP s.data.toList bits) := by
  have h := read_f s hs k (by omega)
  unfold parseP
  by_cases hx : Lib.hasPrefix (Lib.trimPrefix s.data.toList [45]) [48, 120] = true
  · rw [if_pos hx] at h ⊢
    exact rparse_of k s bits _ 16 (.inr rfl) _ (by omega) h
  · rw [if_neg hx] at h ⊢
    exact rparse_of k s bits _ 10 (.inl rfl) _ (by omega) h
end Go.Proofs.YthahmmmkojeddaaDoor.PAll
