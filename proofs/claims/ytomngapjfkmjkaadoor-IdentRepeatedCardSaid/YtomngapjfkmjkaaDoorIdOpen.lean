/- The list of texts that comes in: what its reading says of memory. -/
import Derived.Test.YtomngapjfkmjkaaDoorRows
import Derived.Test.YtomngapjfkmjkaaDoorIdBase
import Derived.SliceStrings
import Derived.SizedLaws
namespace Go.Proofs.YtomngapjfkmjkaaDoor.PAll
open Go.RowKit Go.Proofs.YtomngapjfkmjkaaDoorW.PrintWords Go.Proofs.YtomngapjfkmjkaaDoorW.PrintLast Go.Proofs.YtomngapjfkmjkaaDoorW.PrintMore Go.ChangeShapes Go.WideShapes

theorem weight_str {H : Type} {P : Program} {e : TypeId} (ss : List ByteArray) : ∀ s ∈ ss, s.data.toList.length ∈ DataW.weightsAll P e (strs (H := H) ss) := by
  induction ss with
  | nil => intro s hs; cases hs
  | cons a r ih =>
    intro s hs
    show _ ∈ (DataW.lit (.string a.data.toList) : DataW H).weights P e ++ DataW.weightsAll P e (strs r)
    rcases List.mem_cons.1 hs with rfl | hs
    · exact List.mem_append.2 (.inl (by simp [DataW.weights]))
    · exact List.mem_append.2 (.inr (ih s hs))
/-- A list of texts that came in, opened. -/
theorem open_texts {H : Type} {enc : TypeId × Value → H} {W : World} {a : Option Addr} {len cap : Nat} {d : DataW H} {p : List MemPlace} {ts : List TypeId} {ds : List (DataW H)} {j : Nat}
    (hsz : (DataW.weightsEach Tryd.prog ts ds).all (· ≤ reachBytes) = true) (ht : ts[j]? = some 29) (hd : ds[j]? = some d)
    (h : DataW.Trod enc Tryd.prog W 0 (fun _ => true) true 29 (.slice a len cap) d p) :
    ∃ l : List ByteArray, len = l.length ∧ Kd.C Kd.string W a l.length l ∧ l.length ≤ cap ∧ l.length ≤ 8796093022207 ∧ ∀ s ∈ l, s.size ≤ 140737488351232 := by
  obtain ⟨fuel, hf⟩ := h
  rcases open_strings Tryd.underlying29 Tryd.underlying9 (by kernel_rfl) hf with ⟨hcs, _⟩ | ⟨a', len', cap', ss, hcs, _, hl, hm, hz, hx, hcell, _⟩
  · have hv : Value.slice a len cap = .slice none 0 0 := by simpa [Value.cells] using hcs
    injection hv with e1 e2 e3
    subst e1; subst e2; subst e3
    exact ⟨[], rfl, Kd.C_nil _ _, Nat.le_refl _, by simp, fun s hs => by cases hs⟩
  · have hv : Value.slice a len cap = .slice (some a') len' cap' := by simpa [Value.cells] using hcs
    injection hv with e1 e2 e3
    subst e1; subst e2; subst e3
    have hzl : len ≤ ss.length := by rw [hz]; split <;> omega
    have e : (ss.take len).length = len := by rw [List.length_take]; omega
    have hd' : ds[j]? = some (.slice (strs (ss.take len)) (strs (ss.drop len))) := by rw [hd, show d = _ from congrArg Prod.fst hx]
    have hsl := sized_slice hsz ht hd' Tryd.underlying29
    rw [show Tryd.prog.bytesOf 9 = 16 by kernel_rfl] at hsl
    have hlen : (strs (H := H) (ss.take len)).length = len := by simp [strs]; omega
    rw [hlen] at hsl
    have hrb : reachBytes = 140737488351232 := by decide
    rw [hrb] at hsl
    refine ⟨ss.take len, e.symm, ?_, by rw [e]; exact hl, by rw [e]; omega, fun s hs => ?_⟩
    · rw [e]
      refine Kd.C_of_reads (d := ByteArray.empty) (h1 := fun _ => rfl) ⟨e, by unfold maxLen at hm; omega, fun _ => ⟨a', rfl, fun i hi => ?_⟩⟩
      rw [hcell i (by omega)]
      simp [List.getD_eq_getElem?_getD, hi]
    · have hw : s.data.toList.length ∈ (DataW.slice (strs (H := H) (ss.take len)) (strs (ss.drop len))).weights Tryd.prog 29 := by
        simp only [DataW.weights, Tryd.underlying29]
        exact List.mem_cons_of_mem _ (List.mem_append.2 (.inl (weight_str _ s hs)))
      have h1 := DataW.weights_mem_each ht hd' _ hw
      have h2 := List.all_eq_true.1 hsz _ h1
      rw [hrb] at h2
      have h3 : s.data.toList.length = s.size := data_length s
      have h4 := of_decide_eq_true h2
      omega
end Go.Proofs.YtomngapjfkmjkaaDoor.PAll
