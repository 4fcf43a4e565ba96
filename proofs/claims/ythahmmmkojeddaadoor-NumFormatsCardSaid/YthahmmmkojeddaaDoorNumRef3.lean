/- Plain facts: the reference's Format; a numeral that is formatted is read again. -/
import Derived.Test.YthahmmmkojeddaaDoorNumRef2
import Derived.Test.YthahmmmkojeddaaDoorPAllx16
import Derived.Lib.ItoaNum
import Derived.Lib.ItoaLen
set_option linter.unusedVariables false
set_option linter.unusedSimpArgs false
namespace Go.Proofs.YthahmmmkojeddaaDoor.PAll
open Go.RowKit Go.Proofs.YthahmmmkojeddaaDoorW.PrintWords Go.Proofs.YthahmmmkojeddaaDoorW.PrintLast Go.Proofs.YthahmmmkojeddaaDoorW.PrintMore
def dec10 : ByteArray := ⟨#[48, 49, 50, 51, 52, 53, 54, 55, 56, 57]⟩
theorem dec10_at (d : Nat) (h : d < 10) : (dec10.extract d (d + 1)).data.toList = [UInt8.ofNat (48 + d)] := by
  have h' : ∀ n : Fin 10, (dec10.extract n.1 (n.1 + 1)).data.toList = [UInt8.ofNat (48 + n.1)] := by decide +kernel
  exact h' ⟨d, h⟩
def resD (u : Nat) (acc : List UInt8) : List UInt8 := if u = 0 ∧ acc ≠ [] then acc else Lib.decDigits u ++ acc
theorem data_app (a b : ByteArray) : (a ++ b).data.toList = a.data.toList ++ b.data.toList := by simp
theorem resD_zero (acc : List UInt8) (h : acc ≠ []) : resD 0 acc = acc := by unfold resD; rw [if_pos ⟨rfl, h⟩]
theorem resD_nil (u : Nat) : resD u [] = Lib.decDigits u := by unfold resD; rw [if_neg (by simp)]; simp
theorem resD_next (u : Nat) (acc : List UInt8) (h : u ≠ 0 ∨ acc = []) : resD (u / 10) (UInt8.ofNat (48 + u % 10) :: acc) = resD u acc := by
  have e : resD u acc = Lib.decDigits u ++ acc := by
    unfold resD
    rw [if_neg]
    rintro ⟨h1, h2⟩
    rcases h with h | h
    · exact h h1
    · exact h2 h
  rw [e]
  unfold resD
  by_cases hu : u < 10
  · rw [if_pos ⟨by omega, by simp⟩, Lib.decDigits_one hu, show u % 10 = u by omega]
    rfl
  · rw [if_neg (by omega)]
    conv => rhs; rw [Lib.decDigits, dif_neg hu]
    simp
theorem fmt_l0 (x0 : Int) : ∀ (n u k : Nat) (acc : ByteArray), u < 10 ^ n → n + 3 < k → acc.size + n ≤ 1000 → u < 18446744073709551616 →
    ∃ r, slotcoderef01_Format.l0 k x0 dec10 (u : Int) acc = some r ∧ r.data.toList = (if x0 < 0 then [45] else []) ++ resD u acc.data.toList := by
  have hstep : ∀ (u k : Nat) (acc : ByteArray), u < 18446744073709551616 → acc.size ≤ 2000 → (u ≠ 0 ∨ acc.data.toList = []) → slotcoderef01_Format.l0 (k + 1) x0 dec10 (u : Int) acc = slotcoderef01_Format.l0 k x0 dec10 ((u / 10 : Nat) : Int) (dec10.extract (u % 10) (u % 10 + 1) ++ acc) := by
    intro u k acc hu ha h
    have e1 : Int.tmod (u : Int) 10 = ((u % 10 : Nat) : Int) := by rw [Int.tmod_eq_emod_of_nonneg (by omega)]; omega
    have e2 : IntKind.u64.wrap (((u % 10 : Nat) : Int) + 1) = ((u % 10 + 1 : Nat) : Int) := by rw [u64_mod]; omega
    have e3 : IntKind.u64.wrap (Int.tdiv (u : Int) 10) = ((u / 10 : Nat) : Int) := by rw [Int.tdiv_eq_ediv_of_nonneg (by omega), u64_mod]; omega
    have hsz : (dec10.size : Int) = 10 := rfl
    have hpiece : (dec10.extract (u % 10) (u % 10 + 1)).size = 1 := by
      have := congrArg List.length (dec10_at (u % 10) (by omega))
      rw [data_length] at this
      exact this
    simp only [slotcoderef01_Format.l0]
    rw [e1, e2, e3, hsz]
    by_cases h0 : u = 0
    · have hacc : acc.toList = ([] : List UInt8) := by
        rcases h with h | h
        · exact absurd h0 h
        · rw [Lib.toList_data]; exact h
      rw [if_neg (by omega), if_pos hacc, if_pos (by omega), if_pos (by omega), if_pos (by omega), Int.toNat_natCast, Int.toNat_natCast, if_pos (by rw [hpiece]; omega)]
    · rw [if_pos (by omega), if_pos (by omega), if_pos (by omega), if_pos (by omega), Int.toNat_natCast, Int.toNat_natCast, if_pos (by rw [hpiece]; omega)]
  have hend : ∀ (k : Nat) (acc : ByteArray), acc.size ≤ 2000 → acc.data.toList ≠ [] → ∃ r, slotcoderef01_Format.l0 (k + 1) x0 dec10 ((0 : Nat) : Int) acc = some r ∧ r.data.toList = (if x0 < 0 then [45] else []) ++ acc.data.toList := by
    intro k acc ha h
    simp only [slotcoderef01_Format.l0]
    rw [if_neg (by omega), if_neg (by rw [Lib.toList_data]; exact h)]
    by_cases hx : x0 < 0
    · rw [if_pos hx, if_pos (by omega)]
      refine ⟨_, rfl, ?_⟩
      rw [data_app, if_pos hx]
    · rw [if_neg hx]
      refine ⟨_, rfl, ?_⟩
      rw [if_neg hx]; rfl
  intro n
  induction n with
  | zero =>
    intro u k acc hu hk ha hb
    obtain rfl : u = 0 := by simpa using hu
    obtain ⟨k, rfl⟩ : ∃ m, k = m + 1 + 1 := ⟨k - 2, by omega⟩
    by_cases hacc : acc.data.toList = []
    · rw [hstep 0 (k + 1) acc (by omega) (by omega) (.inr hacc)]
      have hp := dec10_at 0 (by omega)
      have hd : (dec10.extract (0 % 10) (0 % 10 + 1) ++ acc).data.toList = [48] := by rw [data_app, hacc, List.append_nil]; exact hp
      obtain ⟨r, h1, h2⟩ := hend k (dec10.extract (0 % 10) (0 % 10 + 1) ++ acc) (by rw [← data_length, hd]; simp) (by rw [hd]; simp)
      refine ⟨r, h1, ?_⟩
      rw [h2, hd, hacc, resD_nil, Lib.decDigits_one (by omega)]
      rfl
    · obtain ⟨r, h1, h2⟩ := hend (k + 1) acc (by omega) hacc
      refine ⟨r, h1, ?_⟩
      rw [h2, resD_zero _ hacc]
  | succ n ih =>
    intro u k acc hu hk ha hb
    obtain ⟨k, rfl⟩ : ∃ m, k = m + 1 := ⟨k - 1, by omega⟩
    by_cases h : u ≠ 0 ∨ acc.data.toList = []
    · rw [hstep u k acc hb (by omega) h]
      have hd : (dec10.extract (u % 10) (u % 10 + 1) ++ acc).data.toList = UInt8.ofNat (48 + u % 10) :: acc.data.toList := by rw [data_app, dec10_at (u % 10) (by omega)]; rfl
      have hs : (dec10.extract (u % 10) (u % 10 + 1) ++ acc).size = acc.size + 1 := by rw [← data_length, hd, List.length_cons, data_length]
      obtain ⟨r, h1, h2⟩ := ih (u / 10) k _ (by rw [Nat.pow_succ] at hu; omega) (by omega) (by rw [hs]; omega) (by omega)
      refine ⟨r, h1, ?_⟩
      rw [h2, hd, resD_next u _ h]
    · have h0 : u = 0 := Decidable.byContradiction fun hh => h (.inl hh)
      have hne : acc.data.toList ≠ [] := fun hh => h (.inr hh)
      subst h0
      obtain ⟨r, h1, h2⟩ := hend k acc (by omega) hne
      refine ⟨r, h1, ?_⟩
      rw [h2, resD_zero _ hne]
theorem fmt_f (x : Int) (h0 : -9223372036854775808 ≤ x) (h1 : x < 9223372036854775808) (k : Nat) (hk : 100 < k) : ∃ r, slotcoderef01_Format.f k x = some r ∧ r.data.toList = Lib.itoa x := by
  obtain ⟨k, rfl⟩ : ∃ m, k = m + 1 := ⟨k - 1, by omega⟩
  unfold slotcoderef01_Format.f
  have hemp : ((⟨#[]⟩ : ByteArray)).data.toList = [] := rfl
  have p20 : (10 : Nat) ^ 20 = 100000000000000000000 := by decide
  by_cases hx : x < 0
  · have e : IntKind.u64.wrap (-(IntKind.u64.wrap x)) = ((x.natAbs : Nat) : Int) := by rw [u64_mod, u64_mod]; omega
    rw [if_pos hx, e]
    simp only [slotcoderef01_Format.j0]
    obtain ⟨r, h2, h3⟩ := fmt_l0 x 20 x.natAbs k ⟨#[]⟩ (by rw [p20]; omega) (by omega) (by decide) (by omega)
    refine ⟨r, h2, ?_⟩
    rw [h3, if_pos hx, hemp, Lib.itoa, if_pos hx, resD_nil]
    rfl
  · have e : IntKind.u64.wrap x = ((x.toNat : Nat) : Int) := by rw [u64_mod]; omega
    rw [if_neg hx, e]
    simp only [slotcoderef01_Format.j0]
    obtain ⟨r, h2, h3⟩ := fmt_l0 x 20 x.toNat k ⟨#[]⟩ (by rw [p20]; omega) (by omega) (by decide) (by omega)
    refine ⟨r, h2, ?_⟩
    rw [h3, if_neg hx, hemp, Lib.itoa, if_neg hx, resD_nil]
    rfl
theorem readL_append (base : Int) (l m : List UInt8) : ∀ (v : Int) (o : Bool), readL base (l ++ m) v o = (readL base l v o).bind fun r => readL base m r.1 r.2 := by
  induction l with
  | nil => intro v o; rfl
  | cons b l ih =>
    intro v o
    by_cases hd : digR base b.toNat < 0
    · rw [List.cons_append, readL_none _ _ _ _ _ hd, readL_none _ _ _ _ _ hd]; rfl
    · rw [List.cons_append, readL_some _ _ _ _ _ hd, readL_some _ _ _ _ _ hd, ih]
theorem dig_nat (d : Nat) (h : d < 10) : (UInt8.ofNat (48 + d)).toNat = 48 + d := by
  rw [UInt8.toNat_ofNat', Nat.mod_eq_of_lt (by omega)]
theorem readL_dec : ∀ (n u : Nat), u < 10 ^ n → u < 18446744073709551616 → readL 10 (Lib.decDigits u) 0 false = some ((u : Int), false) := by
  have hone : ∀ (d : Nat) (v : Int), d < 10 → 0 ≤ v → v * 10 + d < 18446744073709551616 → readL 10 [UInt8.ofNat (48 + d)] v false = some (v * 10 + d, false) := by
    intro d v hd h0 h1
    have e : digR 10 ((UInt8.ofNat (48 + d)).toNat : Int) = d := by rw [dig_nat d hd]; unfold digR; rw [if_pos (by omega)]; omega
    rw [readL_some _ _ _ _ _ (by rw [e]; omega), e]
    simp only [readL, Bool.false_or]
    rw [decide_eq_false (by omega)]
    congr 2
    omega
  intro n
  induction n with
  | zero =>
    intro u hu hb
    obtain rfl : u = 0 := by simpa using hu
    rw [Lib.decDigits_one (by omega)]
    exact hone 0 0 (by omega) (by omega) (by omega)
  | succ n ih =>
    intro u hu hb
    by_cases h : u < 10
    · rw [Lib.decDigits_one h]
      have := hone u 0 h (by omega) (by omega)
      rw [this]; simp
    · rw [Lib.decDigits, dif_neg h, readL_append, ih (u / 10) (by rw [Nat.pow_succ] at hu; omega) (by omega)]
      simp only [Option.bind_some]
      rw [hone (u % 10) _ (by omega) (by omega) (by omega)]
      congr 2
      omega
theorem dec_chars : ∀ (n u : Nat), u < 10 ^ n → (∀ b ∈ Lib.decDigits u, 48 ≤ b.toNat ∧ b.toNat ≤ 57) ∧ Lib.decDigits u ≠ [] := by
  intro n
  induction n with
  | zero =>
    intro u hu
    obtain rfl : u = 0 := by simpa using hu
    rw [Lib.decDigits_one (by omega)]
    exact ⟨fun b hb => by rw [List.mem_singleton.1 hb]; decide, by simp⟩
  | succ n ih =>
    intro u hu
    by_cases h : u < 10
    · rw [Lib.decDigits_one h]
      exact ⟨fun b hb => by rw [List.mem_singleton.1 hb, dig_nat u h]; omega, by simp⟩
    · rw [Lib.decDigits, dif_neg h]
      obtain ⟨h1, h2⟩ := ih (u / 10) (by rw [Nat.pow_succ] at hu; omega)
      refine ⟨fun b hb => ?_, by simp⟩
      rcases List.mem_append.1 hb with hb | hb
      · exact h1 b hb
      · rw [List.mem_singleton.1 hb, dig_nat _ (by omega)]; omega
theorem pre_no (l p : List UInt8) (b : UInt8) (hb : b ∈ p) (h : ∀ x ∈ l, x ≠ b) : Lib.hasPrefix l p = false := by
  rw [← Bool.not_eq_true]
  intro hh
  unfold Lib.hasPrefix at hh
  exact h b ((List.isPrefixOf_iff_prefix.1 hh).subset hb) rfl
/-- A numeral that was formatted is read again. -/
theorem parse_itoa (x : Int) (h0 : -9223372036854775808 ≤ x) (h1 : x < 9223372036854775808) : parseP (Lib.itoa x) 64 = (x, 0) := by
  obtain ⟨n, hn⟩ : ∃ n : Nat, n = x.natAbs := ⟨_, rfl⟩
  have hp : (10 : Nat) ^ 20 = 100000000000000000000 := by decide
  obtain ⟨c1, c2⟩ := dec_chars 20 n (by omega)
  have hr := readL_dec 20 n (by omega) (by omega)
  have n45 : ∀ y ∈ Lib.decDigits n, y ≠ 45 := fun y hy e => by have := c1 y hy; rw [e] at this; exact absurd this.1 (by decide)
  have n120 : ∀ y ∈ Lib.decDigits n, y ≠ 120 := fun y hy e => by have := c1 y hy; rw [e] at this; exact absurd this.2 (by decide)
  have hx2 := pre_no (Lib.decDigits n) [48, 120] 120 (by simp) n120
  have hk : knownB 64 = true := rfl
  have p64 : (2 : Int) ^ ((64 : Int) - 1).toNat = 9223372036854775808 := by decide
  by_cases hx : x < 0
  · have e : Lib.itoa x = 45 :: Lib.decDigits n := by rw [Lib.itoa, if_pos hx, hn]
    have hp1 : Lib.hasPrefix (45 :: Lib.decDigits n) [45] = true := by simp [Lib.hasPrefix, List.isPrefixOf]
    have ht1 : Lib.trimPrefix (45 :: Lib.decDigits n) [45] = Lib.decDigits n := by rw [Lib.trimPrefix, if_pos hp1]; rfl
    unfold parseP
    rw [e, ht1, hp1, if_neg (by rw [hx2]; decide)]
    unfold parseB
    rw [if_neg c2, hr, parseT_eq _ _ _ _ (by omega) (by omega), if_neg (by simp [hk]), p64, if_neg (by simp; omega), if_pos rfl, extI64]
    congr 1
    split <;> omega
  · have e : Lib.itoa x = Lib.decDigits n := by rw [Lib.itoa, if_neg hx]; congr 1; omega
    have hp1 : Lib.hasPrefix (Lib.decDigits n) [45] = false := pre_no _ _ 45 (by simp) n45
    have ht1 : Lib.trimPrefix (Lib.decDigits n) [45] = Lib.decDigits n := by rw [Lib.trimPrefix, if_neg (by rw [hp1]; decide)]
    unfold parseP
    rw [e, ht1, hp1, if_neg (by rw [hx2]; decide)]
    unfold parseB
    rw [if_neg c2, hr, parseT_eq _ _ _ _ (by omega) (by omega), if_neg (by simp [hk]), p64, if_neg (by simp), if_neg (by decide), extI64]
    congr 1
    split <;> omega
end Go.Proofs.YthahmmmkojeddaaDoor.PAll
