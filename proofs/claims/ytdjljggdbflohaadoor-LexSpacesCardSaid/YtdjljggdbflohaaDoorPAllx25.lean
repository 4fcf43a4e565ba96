-- By a program of this session (xp.py) over the kit's print, with texts of this session.
import Derived.Test.YtdjljggdbflohaaDoorPAllx0
import Derived.Test.YtdjljggdbflohaaDoorLexBase
namespace Go.Proofs.YtdjljggdbflohaaDoor.PAll
open Go.RowKit Go.Proofs.YtdjljggdbflohaaDoorW.PrintWords Go.Proofs.YtdjljggdbflohaaDoorW.PrintLast Go.Proofs.YtdjljggdbflohaaDoorW.PrintMore
attribute [local go_sem] max2_int min2_int max_two min_two max_three min_three max_four min_four   -- for this text's walks alone
set_option linter.unusedVariables false
set_option linter.unusedSimpArgs false

-- EXTERN
-- XIMPORT Derived.Test.YtdjljggdbflohaaDoorLexBase
/-! ### strings.Join -/
def strings_Join.f (l0 : List ByteArray) (a1 : ByteArray) : Option ByteArray := if l0.length ≤ 140737488355328 ∧ (Lib.join (l0.map (·.data.toList)) a1.data.toList).length ≤ 140737488355328 then some ⟨(Lib.join (l0.map (·.data.toList)) a1.data.toList).toArray⟩ else none
theorem strings_Join.calls (A0 : Option Addr) (c0 : Nat) (l0 : List ByteArray) (a1 : ByteArray) (r : ByteArray) (w : World) (hr0 : Kd.C Kd.string w A0 l0.length l0) (hc0 : l0.length ≤ c0) (h : strings_Join.f l0 a1 = some r) :
    Calls Tryd.prog 22 #[.slice A0 l0.length c0, .string a1] w fun e w' => e = .returned (.string r) ∧ Below w.heap.size w w' := by
  unfold strings_Join.f at h
  split at h
  · rename_i hb
    obtain rfl := Option.some.inj h
    rcases Nat.eq_zero_or_pos l0.length with h0 | h0
    · obtain rfl : l0 = [] := List.eq_nil_of_length_eq_zero h0
      refine (Tryd.strings_Join_none A0 c0 a1 w).mono ?_
      rintro e w' ⟨rfl, rfl⟩
      exact ⟨rfl, Below.refl _ _⟩
    · obtain ⟨ad, _, e0, _, _, _⟩ := Kd.C_get hr0 ⟨#[]⟩ 0 (by omega) (by omega)
      subst e0
      have hcell : ∀ (j : Nat) x, l0[j]? = some x → w.cell? (ad.add j) = some (.string x) := by
        intro j x hx
        have hj := (List.getElem?_eq_some_iff.1 hx).1
        obtain ⟨ad', c, e, hl, hk, hc⟩ := Kd.C_get hr0 ⟨#[]⟩ (j : Int) (by omega) (by omega)
        cases e
        obtain rfl := hk
        have := hc 0 _ rfl
        rw [Int.toNat_natCast] at this
        simpa [Kd.string, Kd.scalar, List.getD_eq_getElem?_getD, hx] using this
      have h00 := hcell 0 l0[0] (List.getElem?_eq_getElem h0)
      obtain ⟨b, o, sp⟩ := ad
      obtain rfl : sp = none := by
        cases sp with
        | none => rfl
        | some k =>
          exfalso
          unfold Addr.add World.cell? at h00
          simp only [if_true] at h00
          split at h00 <;> simp at h00
      refine Tryd.strings_Join b o c0 l0 a1 w (fun j x hx => ?_) ?_ hb.1 hc0 hb.2
      · have := hcell j x hx
        unfold Addr.add at this
        by_cases hj : j = 0
        · subst hj; simpa using this
        · simpa [hj] using this
      · exact World.block_lt_of_cell? w _ h00
  · cases h

end Go.Proofs.YtdjljggdbflohaaDoor.PAll
