-- By a program of this session (xp.py) over the kit's print, with texts of this session.
import Derived.Test.YtomngapjfkmjkaaDoorPAllx0
import Derived.Test.YtomngapjfkmjkaaDoorPAllx2
import Derived.Test.YtomngapjfkmjkaaDoorPAllx3
import Derived.Test.YtomngapjfkmjkaaDoorIdBase
import Derived.WalkSpells
import Derived.Lib.ItoaLen
import Derived.Lib.SmallJoins
namespace Go.Proofs.YtomngapjfkmjkaaDoor.PAll
open Go.RowKit Go.Proofs.YtomngapjfkmjkaaDoorW.PrintWords Go.Proofs.YtomngapjfkmjkaaDoorW.PrintLast Go.Proofs.YtomngapjfkmjkaaDoorW.PrintMore
attribute [local go_sem] max2_int min2_int max_two min_two max_three min_three max_four min_four   -- for this text's walks alone
set_option linter.unusedVariables false
set_option linter.unusedSimpArgs false

-- EXTERN
-- XIMPORT Derived.Test.YtomngapjfkmjkaaDoorIdBase Derived.WalkSpells Derived.Lib.ItoaLen Derived.Lib.SmallJoins
/-! ### ident.Register -/
def nameL (v : Int) : List UInt8 := if v < 0 ∨ v ≥ 11 then [] else 114 :: Lib.itoa v
theorem name_some (v : Int) : ∃ n : ByteArray, ident_Name.f v = some n ∧ n.data.toList = nameL v := by
  unfold ident_Name.f nameL
  by_cases h1 : v < 0
  · rw [if_pos h1, if_pos (.inl h1)]; exact ⟨_, rfl, rfl⟩
  · rw [if_neg h1]
    by_cases h2 : v ≥ 11
    · rw [if_pos h2, if_pos (.inr h2)]; exact ⟨_, rfl, rfl⟩
    · rw [if_neg h2, if_neg (by omega)]
      have hl := Lib.itoa_length_le v (by omega) (by omega)
      have hsz : (⟨(Lib.itoa v).toArray⟩ : ByteArray).size = (Lib.itoa v).length := by rw [← data_length]
      unfold strconv_Itoa_24.f
      rw [if_pos ⟨by omega, by omega⟩]
      simp only [Option.bind_some]
      rw [if_pos (by rw [hsz]; omega)]
      exact ⟨_, rfl, by simp⟩
def regA (l : List UInt8) (v : Int) : Int × Bool := if nameL v = l then (v, true) else (0, false)
def regR (l : List UInt8) : Int × Bool :=
  if l.length < 2 ∨ l.headD 0 ≠ 114 then (0, false) else match Lib.atoiAll (l.drop 1) with
    | .ok v => regA l v
    | _ => (0, false)
def ident_Register.f (a0 : ByteArray) : Option (Int × Bool) := if a0.size ≤ 140737488355328 then some (regR a0.data.toList) else none
theorem reg_extract (s : ByteArray) : (s.extract 1 s.size).data.toList = s.data.toList.drop 1 := by
  rw [Lib.extract_data, List.take_of_length_le (by rw [List.length_drop, data_length]; omega)]
set_option maxHeartbeats 8000000 in
set_option maxRecDepth 100000 in
theorem ident_Register.calls (a0 : ByteArray) (r1 : Int) (r2 : Bool) (w : World) (h : ident_Register.f a0 = some (r1, r2)) (hL : LaidI w) :
    Calls Tryd.prog 12 #[.string a0] w fun e w' => e = .returned (.tuple #[.int .i64 r1, .bool r2]) ∧ Below w.heap.size w w' := by
  unfold ident_Register.f at h
  split at h
  rotate_left
  · cases h
  rename_i hs
  have hR : regR a0.data.toList = (r1, r2) := Option.some.inj h
  have HL := Aside0.mk hL
  clear h hL
  have hlen : a0.data.toList.length = a0.size := data_length a0
  unfold regR at hR
  by_cases hsh : a0.size < 2
  · rw [if_pos (.inl (by omega))] at hR
    cases hR
    go_enter Tryd.func12, Tryd.ntmps12
    go_wp2
    go_ret2
    exact ⟨rfl, Below.refl _ _⟩
  · have h0 : 0 < a0.size := by omega
    obtain ⟨b, hb⟩ : ∃ b, b = a0[0]'h0 := ⟨_, rfl⟩
    have hhd : a0.data.toList.headD 0 = b := by
      rw [hb]
      match hl : a0.data.toList with
      | [] => rw [hl] at hlen; simp at hlen; omega
      | x :: r =>
        have : a0[0]'h0 = a0.data.toList[0]'(by omega) := rfl
        rw [this]
        simp [hl]
    have hbc : ((a0[0]'h0).toNat : Int) = (b.toNat : Int) := by rw [hb]
    by_cases hr : b = 114
    · have hrn : (b.toNat : Int) = 114 := by rw [hr]; rfl
      rw [if_neg (by rw [hhd]; intro h; rcases h with h | h; omega; exact h hr)] at hR
      have hbt : ((a0[0]'h0).toNat : Int) = 114 := by rw [hbc, hrn]
      obtain ⟨rest, hrest⟩ : ∃ rest, rest = a0.extract 1 a0.size := ⟨_, rfl⟩
      have hrl : rest.data.toList = a0.data.toList.drop 1 := by rw [hrest]; exact reg_extract a0
      have hrs : rest.size ≤ 140737488355328 := by rw [← data_length, hrl, List.length_drop]; omega
      obtain ⟨v, n, hcall⟩ : ∃ (ok : Option Int) (dummy : Unit), ∀ w0 : World, LaidI w0 → Calls Tryd.prog 23 #[.string rest] w0 fun e w' => (∃ (v : Int) (er : Value), e = .returned (.tuple #[.int .i64 v, er]) ∧ ((ok = some v ∧ er = .nilIface) ∨ (ok = none ∧ ∃ N, er = .iface 62 (.pointer (some ⟨N, 0, none⟩))))) ∧ Below w0.heap.size w0 w' ∧ (match ok with | some v => regA a0.data.toList v | none => (0, false)) = (r1, r2) := by
        rw [← hrl] at hR
        cases hat : Lib.atoiAll rest.data.toList with
        | ok v =>
          rw [hat] at hR
          refine ⟨some v, (), fun w0 hL0 => (Tryd.strconv_Atoi_ok rest (by omega) v hat w0).mono ?_⟩
          rintro e w' ⟨rfl, hw⟩
          refine ⟨⟨v, _, rfl, .inl ⟨rfl, rfl⟩⟩, ?_, hR⟩
          rcases hw with rfl | ⟨t, rfl⟩
          · exact Below.refl _ _
          · exact Lib.bytesWorld_below _ _ _
        | range =>
          rw [hat] at hR
          refine ⟨none, (), fun w0 hL0 => ?_⟩
          obtain ⟨tp, p, hv⟩ := hL0.er
          refine (Tryd.strconv_Atoi_range_var rest (by omega) hat tp p w0 hv).mono ?_
          rintro e w' ⟨N, rfl, _, _, hb⟩
          exact ⟨⟨_, _, rfl, .inr ⟨rfl, N, rfl⟩⟩, hb, hR⟩
        | _ =>
          rw [hat] at hR
          refine ⟨none, (), fun w0 hL0 => ?_⟩
          obtain ⟨tp, p, hv⟩ := hL0.es
          refine (Tryd.strconv_Atoi_syntax_var rest (by omega) hat tp p w0 hv).mono ?_
          rintro e w' ⟨N, rfl, _, _, hb⟩
          exact ⟨⟨_, _, rfl, .inr ⟨rfl, N, rfl⟩⟩, hb, hR⟩
      have hbb : (((a0[0]'h0).toNat : Int) != 114) = false := by rw [hbt]; rfl
      subst hrest
      have hle1 : (1 : Int) ≤ (a0.size : Int) := by omega
      cases v with
      | none =>
        have hcn : ∀ w0 : World, LaidI w0 → Calls Tryd.prog 23 #[.string (a0.extract 1 a0.size)] w0 fun e w' => (∃ (v : Int) (N : Nat), e = .returned (.tuple #[.int .i64 v, .iface 62 (.pointer (some ⟨N, 0, none⟩))])) ∧ Below w0.heap.size w0 w' ∧ (0, false) = (r1, r2) := by
          intro w0 hL0
          refine (hcall w0 hL0).mono ?_
          rintro e w' ⟨⟨v, er, rfl, h⟩, hb, hR⟩
          rcases h with ⟨h, _⟩ | ⟨_, N, rfl⟩
          · cases h
          · exact ⟨⟨v, N, rfl⟩, hb, hR⟩
        have HC := Aside0.mk hcn
        clear hcn
        clear hcall hR hhd hb hbc hr hrn hbt hrl
        go_enter Tryd.func12, Tryd.ntmps12
        go_wp2_with (go_at_call 23; refine (HC.out _ HL.out).mono ?_; rintro e w1 ⟨⟨vv, N, rfl⟩, hb1, hRR⟩; have HB1 := Aside0.mk hb1; have HRR := Aside0.mk hRR; clear hb1 hRR)
        go_ret2
        exact ⟨by have := HRR.out; cases this; rfl, HB1.out⟩
      | some v =>
        have hcn : ∀ w0 : World, LaidI w0 → Calls Tryd.prog 23 #[.string (a0.extract 1 a0.size)] w0 fun e w' => e = .returned (.tuple #[.int .i64 v, .nilIface]) ∧ Below w0.heap.size w0 w' ∧ regA a0.data.toList v = (r1, r2) := by
          intro w0 hL0
          refine (hcall w0 hL0).mono ?_
          rintro e w' ⟨⟨v', er, rfl, h⟩, hb, hR⟩
          rcases h with ⟨h, rfl⟩ | ⟨h, _⟩
          · cases h; exact ⟨rfl, hb, hR⟩
          · cases h
        have HC := Aside0.mk hcn
        clear hcn
        obtain ⟨nm, hn1, hn2⟩ := name_some v
        have HN := Aside0.mk hn1
        clear hcall hR hhd hb hbc hr hrn hbt hrl hn1
        by_cases heq : nameL v = a0.data.toList
        · have hrg : regA a0.data.toList v = (v, true) := by unfold regA; rw [if_pos heq]
          rw [hrg] at HC
          have hnm : nm = a0 := ByteArray.ext (Array.ext' (by rw [hn2, heq]))
          subst hnm
          clear hrg heq hn2
          go_enter Tryd.func12, Tryd.ntmps12
          go_wp2_with (first
            | (go_at_call 23; refine (HC.out _ HL.out).mono ?_; rintro e w1 ⟨rfl, hb1, hRR⟩; have HB1 := Aside0.mk hb1; have HRR := Aside0.mk hRR; clear hb1 hRR)
            | (go_at_call 14; refine (ident_Name.calls v _ _ HN.out (HL.out.below HB1.out)).mono ?_; rintro e w2 ⟨rfl, hb2⟩; have HB2 := Aside0.mk hb2; clear hb2))
          go_ret2
          exact ⟨by have := HRR.out; cases this; rfl, below_then HB1.out HB1.out.size HB2.out⟩
        · have hrg : regA a0.data.toList v = (0, false) := by unfold regA; rw [if_neg heq]
          rw [hrg] at HC
          have hl1 : ¬ nm.toList = a0.toList := by rw [Lib.toList_data, Lib.toList_data, hn2]; exact heq
          have hl2 : (nm.toList == a0.toList) = false := beq_eq_false_iff_ne.2 hl1
          have hl3 : (nm.toList != a0.toList) = true := bne_iff_ne.2 hl1
          clear hrg heq hn2
          go_enter Tryd.func12, Tryd.ntmps12
          go_wp2_with (first
            | (go_at_call 23; refine (HC.out _ HL.out).mono ?_; rintro e w1 ⟨rfl, hb1, hRR⟩; have HB1 := Aside0.mk hb1; have HRR := Aside0.mk hRR; clear hb1 hRR)
            | (go_at_call 14; refine (ident_Name.calls v _ _ HN.out (HL.out.below HB1.out)).mono ?_; rintro e w2 ⟨rfl, hb2⟩; have HB2 := Aside0.mk hb2; clear hb2))
          go_ret2
          exact ⟨by have := HRR.out; cases this; rfl, below_then HB1.out HB1.out.size HB2.out⟩
    · rw [if_pos (.inr (by rw [hhd]; exact hr))] at hR
      cases hR
      have hne : ((a0[0]'h0).toNat : Int) ≠ 114 := by
        rw [hbc]
        intro h
        apply hr
        apply UInt8.toNat_inj.1
        have : (114 : UInt8).toNat = 114 := rfl
        omega
      have hneb : (((a0[0]'h0).toNat : Int) != 114) = true := bne_iff_ne.2 hne
      clear hhd hb hbc hr
      go_enter Tryd.func12, Tryd.ntmps12
      go_wp2
      go_ret2
      exact ⟨rfl, Below.refl _ _⟩

end Go.Proofs.YtomngapjfkmjkaaDoor.PAll
