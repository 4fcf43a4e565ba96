/- Plain facts about tables of texts (chapter 14): no memory. -/
import Derived.Test.YtbepheikefkaiaaWWords
import Derived.Test.YtbepheikefkaiaaWLast
import Derived.Test.YtbepheikefkaiaaWMore
import Derived.Lib.Bytealg
namespace Go.Proofs.Ytbepheikefkaiaa.PAll
open Go.RowKit Go.Proofs.YtbepheikefkaiaaW.PrintWords Go.Proofs.YtbepheikefkaiaaW.PrintLast Go.Proofs.YtbepheikefkaiaaW.PrintMore

theorem w64 (x : Int) (h0 : -9223372036854775808 ≤ x) (h1 : x < 9223372036854775808) : wrap64 x = x := by unfold wrap64; omega
theorem drop_next {α : Type} {l : List α} {i : Nat} {s : α} {r : List α} (h : l.drop i = s :: r) : l.drop (i + 1) = r ∧ i < l.length ∧ l.length = i + 1 + r.length := by
  have hl : (l.drop i).length = r.length + 1 := by rw [h]; rfl
  rw [List.length_drop] at hl
  refine ⟨?_, by omega, by omega⟩
  rw [← List.drop_drop, h]; rfl
theorem rdS_at (l : List ByteArray) (i : Nat) (s : ByteArray) (r : List ByteArray) (h : l.drop i = s :: r) : rdOf ByteArray.empty l (i : Int) = s := by
  have : l[i]? = some s := by rw [← List.head?_drop, h]; rfl
  simp [rdOf, List.getD_eq_getElem?_getD, this]
/-- A text that a table can't hold. -/
def badS (s : ByteArray) : Bool := decide (s.toList = []) || decide (0 ≤ Lib.indexByte s.data.toList 0)
/-- The bytes that texts take in a table. -/
def tot : List ByteArray → Nat
  | [] => 0
  | s :: r => s.size + 1 + tot r
theorem tot_append (l m : List ByteArray) : tot (l ++ m) = tot l + tot m := by
  induction l with
  | nil => simp [tot]
  | cons s r ih => simp [tot, ih]; omega
def Few (l : List ByteArray) : Prop := tot l ≤ 1073741824
instance (l : List ByteArray) : Decidable (Few l) := by unfold Few; infer_instance
theorem tot_len (l : List ByteArray) : l.length ≤ tot l := by
  induction l with
  | nil => simp
  | cons s r ih => simp only [tot, List.length_cons]; omega
/-- The bytes of the texts, each with a zero byte behind it. -/
def textB : List ByteArray → List Int
  | [] => []
  | s :: r => bytesOf s ++ [0] ++ textB r
theorem textB_append (l m : List ByteArray) : textB (l ++ m) = textB l ++ textB m := by
  induction l with
  | nil => simp [textB]
  | cons s r ih => simp [textB, ih]
theorem textB_length (l : List ByteArray) : (textB l).length = tot l := by
  induction l with
  | nil => rfl
  | cons s r ih => simp [textB, tot, ih, bytesOf_length]; omega
def tableB (l : List ByteArray) : List Int := 0 :: textB l
/-- Their offsets, the first at a. -/
def offs : Nat → List ByteArray → List Int
  | _, [] => []
  | a, s :: r => (a : Int) :: offs (a + s.size + 1) r
theorem offs_append (l m : List ByteArray) : ∀ a, offs a (l ++ m) = offs a l ++ offs (a + tot l) m := by
  induction l with
  | nil => intro a; simp [offs, tot]
  | cons s r ih => intro a; simp [offs, tot, ih]; congr 1; omega
theorem offs_length (l : List ByteArray) : ∀ a, (offs a l).length = l.length := by
  induction l with
  | nil => intro a; rfl
  | cons s r ih => intro a; simp [offs, ih]
theorem tot_take (l : List ByteArray) (i : Nat) (hi : i < l.length) : tot (l.take (i + 1)) = tot (l.take i) + (rdOf ByteArray.empty l (i : Int)).size + 1 ∧ tot (l.take (i + 1)) ≤ tot l := by
  obtain ⟨s, r, hd⟩ : ∃ s r, l.drop i = s :: r := by
    cases h : l.drop i with
    | nil => have := List.drop_eq_nil_iff.mp h; omega
    | cons s r => exact ⟨s, r, rfl⟩
  rw [rdS_at l i s r hd]
  have htk : l.take (i + 1) = l.take i ++ [s] := by
    rw [List.take_add_one]
    have : l[i]? = some s := by rw [← List.head?_drop, hd]; rfl
    rw [this]; rfl
  have e := List.take_append_drop (i + 1) l
  have h2 : tot l = tot (l.take (i + 1)) + tot (l.drop (i + 1)) := by conv => lhs; rw [← e, tot_append]
  refine ⟨?_, by omega⟩
  rw [htk, tot_append]; simp [tot]; omega
end Go.Proofs.Ytbepheikefkaiaa.PAll
