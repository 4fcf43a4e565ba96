/- Plain facts: numerals, names, registers, identifiers. -/
import Derived.Test.YtomngapjfkmjkaaDoorIdRef
import Derived.Test.YtomngapjfkmjkaaDoorPAllx17
import Derived.Test.YtomngapjfkmjkaaDoorPAllx17
import Derived.Test.YtomngapjfkmjkaaDoorPAllx12
import Derived.Test.YtomngapjfkmjkaaDoorPAllx13
import Derived.Test.YtomngapjfkmjkaaDoorPAllx16
import Derived.Lib.ItoaNum
import Derived.Lib.ItoaLen
set_option linter.unusedVariables false
set_option linter.unusedSimpArgs false
namespace Go.Proofs.YtomngapjfkmjkaaDoor.PAll
open Go.RowKit Go.Proofs.YtomngapjfkmjkaaDoorW.PrintWords Go.Proofs.YtomngapjfkmjkaaDoorW.PrintLast Go.Proofs.YtomngapjfkmjkaaDoorW.PrintMore
theorem iu64_mod (n : Int) : IntKind.u64.wrap n = n % 18446744073709551616 := by simp [IntKind.wrap, IntKind.bits, IntKind.signed]
def dec10 : ByteArray := ⟨#[48, 49, 50, 51, 52, 53, 54, 55, 56, 57]⟩
theorem dec10_at (d : Nat) (h : d < 10) : (dec10.extract d (d + 1)).data.toList = [UInt8.ofNat (48 + d)] := by
  have h' : ∀ n : Fin 10, (dec10.extract n.1 (n.1 + 1)).data.toList = [UInt8.ofNat (48 + n.1)] := by decide +kernel
  exact h' ⟨d, h⟩
def resD (u : Nat) (acc : List UInt8) : List UInt8 := if u = 0 ∧ acc ≠ [] then acc else Lib.decDigits u ++ acc
theorem idata_app (a b : ByteArray) : (a ++ b).data.toList = a.data.toList ++ b.data.toList := by simp
theorem resD_zero (acc : List UInt8) (h : acc ≠ []) : resD 0 acc = acc := by unfold resD; rw [if_pos ⟨rfl, h⟩]
theorem resD_nil (u : Nat) : resD u [] = Lib.decDigits u := by unfold resD; rw [if_neg (by simp)]; simp
theorem resD_next (u : Nat) (acc : List UInt8) (h : u ≠ 0 ∨ acc = []) : resD (u / 10) (UInt8.ofNat (48 + u % 10) :: acc) = resD u acc := by
  have e : resD u acc = Lib.decDigits u ++ acc := by
    unfold resD
    rw [if_neg]
    rintro ⟨h1, h2⟩
    rcases h with h | h
    · exact h h1
    · exact h2 h
  rw [e]
  unfold resD
  by_cases hu : u < 10
  · rw [if_pos ⟨by omega, by simp⟩, Lib.decDigits_one hu, show u % 10 = u by omega]
    rfl
  · rw [if_neg (by omega)]
    conv => rhs; rw [Lib.decDigits, dif_neg hu]
    simp
theorem fmt_l0 (x0 : Int) : ∀ (n u k : Nat) (acc : ByteArray), u < 10 ^ n → n + 3 < k → acc.size + n ≤ 1000 → u < 18446744073709551616 →
    ∃ r, slotcoderef01_Format.l0 k x0 dec10 (u : Int) acc = some r ∧ r.data.toList = (if x0 < 0 then [45] else []) ++ resD u acc.data.toList := by
  have hstep : ∀ (u k : Nat) (acc : ByteArray), u < 18446744073709551616 → acc.size ≤ 2000 → (u ≠ 0 ∨ acc.data.toList = []) → slotcoderef01_Format.l0 (k + 1) x0 dec10 (u : Int) acc = slotcoderef01_Format.l0 k x0 dec10 ((u / 10 : Nat) : Int) (dec10.extract (u % 10) (u % 10 + 1) ++ acc) := by
    intro u k acc hu ha h
    have e1 : Int.tmod (u : Int) 10 = ((u % 10 : Nat) : Int) := by rw [Int.tmod_eq_emod_of_nonneg (by omega)]; omega
    have e2 : IntKind.u64.wrap (((u % 10 : Nat) : Int) + 1) = ((u % 10 + 1 : Nat) : Int) := by rw [iu64_mod]; omega
    have e3 : IntKind.u64.wrap (Int.tdiv (u : Int) 10) = ((u / 10 : Nat) : Int) := by rw [Int.tdiv_eq_ediv_of_nonneg (by omega), iu64_mod]; omega
    have hsz : (dec10.size : Int) = 10 := rfl
    have hpiece : (dec10.extract (u % 10) (u % 10 + 1)).size = 1 := by
      have := congrArg List.length (dec10_at (u % 10) (by omega))
      rw [data_length] at this
      exact this
    simp only [slotcoderef01_Format.l0]
    rw [e1, e2, e3, hsz]
    by_cases h0 : u = 0
    · have hacc : acc.toList = ([] : List UInt8) := by
        rcases h with h | h
        · exact absurd h0 h
        · rw [Lib.toList_data]; exact h
      rw [if_neg (by omega), if_pos hacc, if_pos (by omega), if_pos (by omega), if_pos (by omega), Int.toNat_natCast, Int.toNat_natCast, if_pos (by rw [hpiece]; omega)]
    · rw [if_pos (by omega), if_pos (by omega), if_pos (by omega), if_pos (by omega), Int.toNat_natCast, Int.toNat_natCast, if_pos (by rw [hpiece]; omega)]
  have hend : ∀ (k : Nat) (acc : ByteArray), acc.size ≤ 2000 → acc.data.toList ≠ [] → ∃ r, slotcoderef01_Format.l0 (k + 1) x0 dec10 ((0 : Nat) : Int) acc = some r ∧ r.data.toList = (if x0 < 0 then [45] else []) ++ acc.data.toList := by
    intro k acc ha h
    simp only [slotcoderef01_Format.l0]
    rw [if_neg (by omega), if_neg (by rw [Lib.toList_data]; exact h)]
    by_cases hx : x0 < 0
    · rw [if_pos hx, if_pos (by omega)]
      refine ⟨_, rfl, ?_⟩
      rw [idata_app, if_pos hx]
    · rw [if_neg hx]
      refine ⟨_, rfl, ?_⟩
      rw [if_neg hx]; rfl
  intro n
  induction n with
  | zero =>
    intro u k acc hu hk ha hb
    obtain rfl : u = 0 := by simpa using hu
    obtain ⟨k, rfl⟩ : ∃ m, k = m + 1 + 1 := ⟨k - 2, by omega⟩
    by_cases hacc : acc.data.toList = []
    · rw [hstep 0 (k + 1) acc (by omega) (by omega) (.inr hacc)]
      have hp := dec10_at 0 (by omega)
      have hd : (dec10.extract (0 % 10) (0 % 10 + 1) ++ acc).data.toList = [48] := by rw [idata_app, hacc, List.append_nil]; exact hp
      obtain ⟨r, h1, h2⟩ := hend k (dec10.extract (0 % 10) (0 % 10 + 1) ++ acc) (by rw [← data_length, hd]; simp) (by rw [hd]; simp)
      refine ⟨r, h1, ?_⟩
      rw [h2, hd, hacc, resD_nil, Lib.decDigits_one (by omega)]
      rfl
    · obtain ⟨r, h1, h2⟩ := hend (k + 1) acc (by omega) hacc
      refine ⟨r, h1, ?_⟩
      rw [h2, resD_zero _ hacc]
  | succ n ih =>
    intro u k acc hu hk ha hb
    obtain ⟨k, rfl⟩ : ∃ m, k = m + 1 := ⟨k - 1, by omega⟩
    by_cases h : u ≠ 0 ∨ acc.data.toList = []
    · rw [hstep u k acc hb (by omega) h]
      have hd : (dec10.extract (u % 10) (u % 10 + 1) ++ acc).data.toList = UInt8.ofNat (48 + u % 10) :: acc.data.toList := by rw [idata_app, dec10_at (u % 10) (by omega)]; rfl
      have hs : (dec10.extract (u % 10) (u % 10 + 1) ++ acc).size = acc.size + 1 := by rw [← data_length, hd, List.length_cons, data_length]
      obtain ⟨r, h1, h2⟩ := ih (u / 10) k _ (by rw [Nat.pow_succ] at hu; omega) (by omega) (by rw [hs]; omega) (by omega)
      refine ⟨r, h1, ?_⟩
      rw [h2, hd, resD_next u _ h]
    · have h0 : u = 0 := Decidable.byContradiction fun hh => h (.inl hh)
      have hne : acc.data.toList ≠ [] := fun hh => h (.inr hh)
      subst h0
      obtain ⟨r, h1, h2⟩ := hend k acc (by omega) hne
      refine ⟨r, h1, ?_⟩
      rw [h2, resD_zero _ hne]
theorem fmt_f (x : Int) (h0 : -9223372036854775808 ≤ x) (h1 : x < 9223372036854775808) (k : Nat) (hk : 100 < k) : ∃ r, slotcoderef01_Format.f k x = some r ∧ r.data.toList = Lib.itoa x := by
  obtain ⟨k, rfl⟩ : ∃ m, k = m + 1 := ⟨k - 1, by omega⟩
  unfold slotcoderef01_Format.f
  have hemp : ((⟨#[]⟩ : ByteArray)).data.toList = [] := rfl
  have p20 : (10 : Nat) ^ 20 = 100000000000000000000 := by decide
  by_cases hx : x < 0
  · have e : IntKind.u64.wrap (-(IntKind.u64.wrap x)) = ((x.natAbs : Nat) : Int) := by rw [iu64_mod, iu64_mod]; omega
    rw [if_pos hx, e]
    simp only [slotcoderef01_Format.j0]
    obtain ⟨r, h2, h3⟩ := fmt_l0 x 20 x.natAbs k ⟨#[]⟩ (by rw [p20]; omega) (by omega) (by decide) (by omega)
    refine ⟨r, h2, ?_⟩
    rw [h3, if_pos hx, hemp, Lib.itoa, if_pos hx, resD_nil]
    rfl
  · have e : IntKind.u64.wrap x = ((x.toNat : Nat) : Int) := by rw [iu64_mod]; omega
    rw [if_neg hx, e]
    simp only [slotcoderef01_Format.j0]
    obtain ⟨r, h2, h3⟩ := fmt_l0 x 20 x.toNat k ⟨#[]⟩ (by rw [p20]; omega) (by omega) (by decide) (by omega)
    refine ⟨r, h2, ?_⟩
    rw [h3, if_neg hx, hemp, Lib.itoa, if_neg hx, resD_nil]
    rfl
theorem dig_nat (d : Nat) (h : d < 10) : (UInt8.ofNat (48 + d)).toNat = 48 + d := by
  rw [UInt8.toNat_ofNat', Nat.mod_eq_of_lt (by omega)]
theorem dec_chars : ∀ (n u : Nat), u < 10 ^ n → (∀ b ∈ Lib.decDigits u, 48 ≤ b.toNat ∧ b.toNat ≤ 57) ∧ Lib.decDigits u ≠ [] := by
  intro n
  induction n with
  | zero =>
    intro u hu
    obtain rfl : u = 0 := by simpa using hu
    rw [Lib.decDigits_one (by omega)]
    exact ⟨fun b hb => by rw [List.mem_singleton.1 hb]; decide, by simp⟩
  | succ n ih =>
    intro u hu
    by_cases h : u < 10
    · rw [Lib.decDigits_one h]
      exact ⟨fun b hb => by rw [List.mem_singleton.1 hb, dig_nat u h]; omega, by simp⟩
    · rw [Lib.decDigits, dif_neg h]
      obtain ⟨h1, h2⟩ := ih (u / 10) (by rw [Nat.pow_succ] at hu; omega)
      refine ⟨fun b hb => ?_, by simp⟩
      rcases List.mem_append.1 hb with hb | hb
      · exact h1 b hb
      · rw [List.mem_singleton.1 hb, dig_nat _ (by omega)]; omega
theorem ii64_wf {x : Int} (h : (Lit.int .i64 x).wf = true) : -9223372036854775808 ≤ x ∧ x < 9223372036854775808 := by
  have h' : (decide ((IntKind.i64).min ≤ x) && decide (x ≤ (IntKind.i64).max)) = true := h
  rw [show (IntKind.i64).min = -9223372036854775808 by decide, show (IntKind.i64).max = 9223372036854775807 by decide, Bool.and_eq_true, decide_eq_true_eq, decide_eq_true_eq] at h'
  omega
theorem same_text {a b : ByteArray} (h : a.data.toList = b.data.toList) : a = b := ByteArray.ext (Array.ext' h)
/-! ### names -/
theorem rname_f (v : Int) (h0 : -9223372036854775808 ≤ v) (h1 : v < 9223372036854775808) (k : Nat) (hk : 100 < k) : ∃ n : ByteArray, slotcoderef02_Name.f k v = some n ∧ n.data.toList = nameL v := by
  unfold slotcoderef02_Name.f nameL
  by_cases c1 : v < 0
  · rw [if_pos c1, if_pos (.inl c1)]; exact ⟨_, rfl, rfl⟩
  · rw [if_neg c1]
    by_cases c2 : v > 10
    · rw [if_pos c2, if_pos (.inr (by omega))]; exact ⟨_, rfl, rfl⟩
    · rw [if_neg c2, if_neg (by omega)]
      obtain ⟨r, hr1, hr2⟩ := fmt_f v h0 h1 k hk
      have hl := Lib.itoa_length_le v h0 (by omega)
      have hsz : r.size = (Lib.itoa v).length := by rw [← data_length, hr2]
      rw [hr1, Option.bind_some, if_pos (by rw [hsz]; omega)]
      exact ⟨_, rfl, by simp [hr2]⟩
theorem reg_name : ∀ n : Fin 11, regR (nameL (n.1 : Int)) = ((n.1 : Int), true) := by decide +kernel
/-- What the reference's Register finds from i on. -/
theorem rreg_l0 (s : ByteArray) (K : Nat) (hK : 200 < K) : ∀ (n i k : Nat), i + n = 11 → n + 120 < k → slotcoderef02_Register.l0 k s (i : Int) = some (match (List.range' i n).find? (fun j : Nat => decide (nameL (j : Int) = s.data.toList)) with | some j => ((j : Int), true) | none => (0, false)) := by
  intro n
  induction n with
  | zero =>
    intro i k hi hk
    obtain ⟨k, rfl⟩ : ∃ m, k = m + 1 := ⟨k - 1, by omega⟩
    simp only [slotcoderef02_Register.l0]
    rw [if_neg (by omega)]
    rfl
  | succ n ih =>
    intro i k hi hk
    obtain ⟨k, rfl⟩ : ∃ m, k = m + 1 := ⟨k - 1, by omega⟩
    obtain ⟨nm, h1, h2⟩ := rname_f (i : Int) (by omega) (by omega) k (by omega)
    simp only [slotcoderef02_Register.l0]
    rw [if_pos (by omega), h1, Option.bind_some, List.range'_succ]
    by_cases he : nameL (i : Int) = s.data.toList
    · rw [if_pos (by rw [Lib.toList_data, Lib.toList_data, h2, he]), List.find?_cons_of_pos (by rw [decide_eq_true he])]
    · rw [if_neg (by rw [Lib.toList_data, Lib.toList_data, h2]; exact fun h => he h.symm), List.find?_cons_of_neg (by rw [decide_eq_false he]; decide), iw64 _ (by omega) (by omega), show (i : Int) + 1 = ((i + 1 : Nat) : Int) by omega]
      exact ih (i + 1) k (by omega) (by omega)
theorem regR_none (l : List UInt8) (h : ∀ j : Nat, j < 11 → nameL (j : Int) ≠ l) : regR l = (0, false) := by
  unfold regR
  by_cases h1 : l.length < 2 ∨ l.headD 0 ≠ 114
  · rw [if_pos h1]
  · rw [if_neg h1]
    cases hat : Lib.atoiAll (l.drop 1) with
    | range => rfl
    | ok v =>
      simp only [regA]
      rw [if_neg]
      intro he
      by_cases hv : v < 0 ∨ v ≥ 11
      · have : l = [] := by rw [← he, nameL, if_pos hv]
        rw [this] at h1
        exact h1 (.inl (by decide))
      · refine h v.toNat (by omega) ?_
        rw [show ((v.toNat : Nat) : Int) = v by omega]
        exact he
    | _ => rfl
theorem rreg_f (s : ByteArray) (k : Nat) (hk : 400 < k) : slotcoderef02_Register.f k s = some (regR s.data.toList) := by
  have h := rreg_l0 s 300 (by omega) 11 0 k rfl (by omega)
  have h' : slotcoderef02_Register.f k s = _ := h
  rw [h']
  congr 1
  cases hf : (List.range' 0 11).find? (fun j : Nat => decide (nameL (j : Int) = s.data.toList)) with
  | none =>
    rw [List.find?_eq_none] at hf
    rw [regR_none]
    intro j hj he
    exact hf j (by rw [List.mem_range'_1]; omega) (by rw [decide_eq_true he])
  | some j =>
    have hm := List.mem_of_find?_eq_some hf
    have hp := List.find?_some hf
    rw [decide_eq_true_eq] at hp
    rw [List.mem_range'_1] at hm
    rw [← hp]
    exact (reg_name ⟨j, by omega⟩).symm
theorem reg_f (s : ByteArray) (hs : s.size ≤ 140737488355328) : ident_Register.f s = some (regR s.data.toList) := by unfold ident_Register.f; rw [if_pos hs]
/-! ### identifiers -/
def validB (l : List UInt8) : Bool := decide (l ≠ []) && decide (l.length ≤ 32) && decide (wordN l = l.length) && !(regR l).2 && !(decide (48 ≤ (l.headD 0).toNat) && decide ((l.headD 0).toNat ≤ 57))
theorem bt_head (s : ByteArray) (h : s.data.toList ≠ []) : bt s 0 = ((s.data.toList.headD 0).toNat : Int) := by
  cases hl : s.data.toList with
  | nil => exact absurd hl h
  | cons b r => exact ibt_cons s 0 b r (by rw [hl]; rfl)
theorem dig_at : ∀ n : Fin 256, Lib.isDigitL (n.1 : Int) = (decide (48 ≤ n.1) && decide (n.1 ≤ 57)) := by decide +kernel
theorem valid_f (k : Nat) (s : ByteArray) (hs : s.size ≤ 140737488355328) : ident_Valid.f (k + 1) s = some (validB s.data.toList) := by
  have hlen : s.data.toList.length = s.size := data_length s
  have hj : ident_Valid.j0 (k + 1) s true = some false := by simp only [ident_Valid.j0]; rw [if_pos (by trivial)]
  unfold ident_Valid.f validB
  by_cases h1 : s.data.toList = []
  · rw [if_pos (by rw [Lib.toList_data]; exact h1), hj, decide_eq_false (by simp [h1])]
    simp
  · rw [if_neg (by rw [Lib.toList_data]; exact h1), decide_eq_true h1]
    by_cases h2 : (s.size : Int) > 32
    · rw [if_pos h2, hj, decide_eq_false (by omega : ¬ s.data.toList.length ≤ 32)]
      simp
    · rw [if_neg h2, word_f s hs, Option.bind_some, decide_eq_true (by omega : s.data.toList.length ≤ 32)]
      by_cases h3 : wordN s.data.toList = s.data.toList.length
      · have hb : (((wordN s.data.toList : Nat) : Int) != (s.size : Int)) = false := bne_eq_false_iff_eq.mpr (by rw [h3, hlen])
        have hsz : 0 < (s.size : Int) := by
          refine Decidable.byContradiction fun h => h1 ?_
          exact List.eq_nil_of_length_eq_zero (by omega)
        rw [hb, decide_eq_true h3]
        simp only [ident_Valid.j0]
        rw [if_neg (by decide), reg_f s hs, Option.bind_some]
        by_cases h4 : (regR s.data.toList).2 = true
        · rw [if_pos h4, h4]; simp
        · rw [if_neg h4, if_pos hsz, bt_head s h1]
          have hb8 := (s.data.toList.headD 0).toNat_lt
          have hw : wrap32 ((s.data.toList.headD 0).toNat : Int) = ((s.data.toList.headD 0).toNat : Int) := by unfold wrap32; omega
          have hd := dig_at ⟨(s.data.toList.headD 0).toNat, by omega⟩
          simp only [] at hd
          unfold unicode_IsDigit.f
          rw [hw, if_pos (by omega), Option.bind_some, hd, show (regR s.data.toList).2 = false by simpa using h4]
          simp
      · have hb : (((wordN s.data.toList : Nat) : Int) != (s.size : Int)) = true := bne_iff_ne.mpr (by omega)
        rw [hb, hj, decide_eq_false h3]
        simp
theorem rvalid_f (k : Nat) (s : ByteArray) (hs : s.size ≤ 140737488355328) (hk : s.size + 500 < k) : slotcoderef02_Valid.f k s = some (validB s.data.toList) := by
  have hlen : s.data.toList.length = s.size := data_length s
  unfold slotcoderef02_Valid.f validB
  rw [rreg_f s k (by omega), Option.bind_some]
  by_cases h1 : s.data.toList = []
  · have : s.size = 0 := by rw [← hlen, h1]; rfl
    rw [if_neg (by omega), decide_eq_false (by simp [h1])]
    simp
  · have hpos : 0 < s.size := by
      refine Nat.pos_of_ne_zero fun h => h1 (List.eq_nil_of_length_eq_zero (by omega))
    rw [if_pos (by omega), decide_eq_true h1]
    by_cases h2 : (s.size : Int) ≤ 32
    · rw [if_pos h2, rword_f s hs k (by omega), Option.bind_some, decide_eq_true (by omega : s.data.toList.length ≤ 32)]
      by_cases h3 : wordN s.data.toList = s.data.toList.length
      · rw [if_pos (by omega), if_pos (by omega), bt_head s h1, decide_eq_true h3]
        by_cases h4 : (((s.data.toList.headD 0).toNat : Nat) : Int) ≥ 48
        · rw [if_pos h4, decide_eq_true (by omega : 48 ≤ (s.data.toList.headD 0).toNat)]
          by_cases h5 : (((s.data.toList.headD 0).toNat : Nat) : Int) ≤ 57
          · rw [if_pos h5, decide_eq_true (by omega : (s.data.toList.headD 0).toNat ≤ 57)]; simp
          · rw [if_neg h5, decide_eq_false (by omega : ¬ (s.data.toList.headD 0).toNat ≤ 57)]; simp
        · rw [if_neg h4, decide_eq_false (by omega : ¬ 48 ≤ (s.data.toList.headD 0).toNat)]; simp
      · rw [if_neg (by omega), decide_eq_false h3]; simp
    · rw [if_neg h2, decide_eq_false (by omega : ¬ s.data.toList.length ≤ 32)]; simp
end Go.Proofs.YtomngapjfkmjkaaDoor.PAll
