-- By a program of this session (xp.py) over the kit's print, with texts of this session.
import Derived.Test.YtomngapjfkmjkaaDoorPAllx0
import Derived.Test.YtomngapjfkmjkaaDoorIdBase
import Derived.WalkSpells
import Derived.Maps.Own
import Derived.Maps.Views
import Derived.StringKeys
namespace Go.Proofs.YtomngapjfkmjkaaDoor.PAll
open Go.RowKit Go.Proofs.YtomngapjfkmjkaaDoorW.PrintWords Go.Proofs.YtomngapjfkmjkaaDoorW.PrintLast Go.Proofs.YtomngapjfkmjkaaDoorW.PrintMore
attribute [local go_sem] max2_int min2_int max_two min_two max_three min_three max_four min_four   -- for this text's walks alone
set_option linter.unusedVariables false
set_option linter.unusedSimpArgs false

-- EXTERN
-- XIMPORT Derived.Test.YtomngapjfkmjkaaDoorIdBase Derived.WalkSpells Derived.Maps.Own Derived.Maps.Views Derived.StringKeys
/-! ### ident.Repeated -/
def keyL (s : ByteArray) : Lit := .string s.data.toList
def mapC (pre : List ByteArray) : DataW Unit := pre.foldl (fun D s => D.put (keyL s) (.lit (.bool true))) (.map [])
theorem mapC_snoc (pre : List ByteArray) (s : ByteArray) : mapC (pre ++ [s]) = (mapC pre).put (keyL s) (.lit (.bool true)) := by unfold mapC; rw [List.foldl_append]; rfl
theorem mapC_isMap (n : Nat) : ∀ pre : List ByteArray, pre.length = n → Go.Maps.IsMap (mapC pre) := by
  induction n with
  | zero => intro pre h; rw [List.eq_nil_of_length_eq_zero h]; exact Go.Maps.isMap_empty
  | succ n ih =>
    intro pre h
    obtain ⟨p, s, rfl⟩ : ∃ p s, pre = p ++ [s] := by
      have hne : pre ≠ [] := by intro e; rw [e] at h; simp at h
      exact ⟨pre.dropLast, pre.getLast hne, (List.dropLast_concat_getLast hne).symm⟩
    rw [mapC_snoc]
    exact (ih p (by simp at h; exact h)).put _ _
theorem keyL_ne {s t : ByteArray} (h : s.data.toList ≠ t.data.toList) : keyL s ≠ keyL t := by
  intro e
  unfold keyL at e
  injection e with e
  exact h e
/-- Whether a text stands in a list. -/
def memB (s : ByteArray) (pre : List ByteArray) : Bool := pre.any fun t => decide (t.data.toList = s.data.toList)
theorem mapC_at (n : Nat) (s : ByteArray) : ∀ pre : List ByteArray, pre.length = n → (mapC pre).atKey (keyL s) (.lit (.bool false)) = .lit (.bool (memB s pre)) := by
  induction n with
  | zero => intro pre h; rw [List.eq_nil_of_length_eq_zero h]; rfl
  | succ n ih =>
    intro pre h
    obtain ⟨p, t, rfl⟩ : ∃ p s, pre = p ++ [s] := by
      have hne : pre ≠ [] := by intro e; rw [e] at h; simp at h
      exact ⟨pre.dropLast, pre.getLast hne, (List.dropLast_concat_getLast hne).symm⟩
    have hp : p.length = n := by simp at h; exact h
    rw [mapC_snoc]
    by_cases e : t.data.toList = s.data.toList
    · have hk : keyL t = keyL s := by unfold keyL; rw [e]
      rw [hk, Go.Maps.atKey_put_same (mapC_isMap n p hp) (show WideAt.IsKeyLit (keyL s) from True.intro)]
      rw [memB, List.any_append, List.any_cons, decide_eq_true e, Bool.true_or, Bool.or_true]
    · rw [Go.Maps.atKey_put_other (keyL_ne (fun h => e h.symm)), ih p hp]
      unfold memB
      rw [List.any_append, List.any_cons, decide_eq_false e, Bool.false_or, List.any_nil, Bool.or_false]
theorem plainElem_bool_inv {P : Program} {e : TypeId} (he : P.underlying e = some .bool) {v : Value} {z : DataW Unit × List MemPlace} (h : plainElem P e v = some z) : ∃ x, v = .bool x ∧ z = (.lit (.bool x), []) := by
  unfold plainElem at h
  rw [he] at h
  cases v <;> simp at h
  exact ⟨_, rfl, h.symm⟩
theorem lookup_bool {P : Program} {w : World} {b n : Nat} {pre : List ByteArray} {s : ByteArray} {t k e : TypeId} (h : w.ownsMap P k (plainElem P e) b n (mapC pre)) (hk : P.underlying k = some .string) (ht : P.underlying t = some (.map k e)) (he : P.underlying e = some .bool)
    (hz : (zeroValue e).run P w = .ok (.bool false) w) (hs : s.size ≤ maxLen) : (Instr.lookup t (.map (some b)) (.string s) false).run P w = .ok (.bool (memB s pre)) w := by
  obtain ⟨v, ps, hrun, hv⟩ := h.lookup (Go.Maps.string_keyed hk) ht hz (plainElem_bool he false) (Go.WideMaps.keyOf_string_mk hk hs)
  obtain ⟨x, rfl, hx⟩ := plainElem_bool_inv he hv
  have := mapC_at pre.length s pre rfl
  unfold keyL at this
  rw [this] at hx
  simp at hx
  rw [hrun, hx.1]
def repL : List ByteArray → List ByteArray → Int
  | _, [] => -1
  | pre, s :: r => if memB s pre = true then (pre.length : Int) else repL (pre ++ [s]) r
def ident_Repeated.f (l0 : List ByteArray) : Option Int := if l0.length ≤ 1073741824 ∧ (∀ s ∈ l0, s.size ≤ 140737488355328) then some (repL [] l0) else none
set_option maxHeartbeats 8000000 in
set_option maxRecDepth 100000 in
theorem ident_Repeated.calls (A0 : Option Addr) (c0 : Nat) (l0 : List ByteArray) (r : Int) (w : World) (hr0 : Kd.C Kd.string w A0 l0.length l0) (hc0 : l0.length ≤ c0) (h : ident_Repeated.f l0 = some r) :
    Calls Tryd.prog 18 #[.slice A0 l0.length c0] w fun e w' => e = .returned (.int .i64 r) ∧ Below w.heap.size w w' := by
  unfold ident_Repeated.f at h
  split at h
  rotate_left
  · cases h
  rename_i hb
  have hR := Option.some.inj h
  have HR0 := Aside0.mk hr0
  have HSZ := Aside0.mk hb.2
  have hm := hb.1
  clear hr0 h hb
  have hmm := @run_makeMap Tryd.prog
  have HR := Aside0.mk hR
  clear hR
  go_enter Tryd.func18, Tryd.ntmps18
  go_wp2
  go_loopw [9] (fun v9 wr => ∃ i : Nat, i ≤ l0.length ∧ v9 = .int .i64 i ∧ Aside0 (repL (l0.take i) (l0.drop i) = r) ∧ Aside0 (wr.ownsMap Tryd.prog 9 (plainElem Tryd.prog 4) w.heap.size i (mapC (l0.take i))) ∧ Aside0 (Below w.heap.size w wr)) (fun v9 _ => l0.length - (intOf v9).toNat)
  case atStart => exact ⟨0, Nat.zero_le _, rfl, HR, ⟨World.ownsMap_made _ _ _ _⟩, ⟨below_alloc (Below.refl _ _) _⟩⟩
  case round =>
    obtain ⟨i, hi, rfl, HREP, HOWN, HB⟩ := hrel
    by_cases hlt : i < l0.length
    · obtain ⟨ad, e, hx⟩ := Kd.at_string HR0.out (i : Int) (by omega) (by omega)
      cases e
      rw [Int.toNat_natCast] at hx
      replace hx := (HB.out.cell (World.block_lt_of_cell? w _ hx)).trans hx
      obtain ⟨s, hs⟩ : ∃ s, s = rdOf ByteArray.empty l0 (i : Int) := ⟨_, rfl⟩
      rw [← hs] at hx
      have hse : s = l0[i] := by rw [hs]; simp [rdOf, List.getD_eq_getElem?_getD, List.getElem?_eq_getElem hlt]
      have hdr : l0.drop i = s :: l0.drop (i + 1) := by rw [hse]; exact List.drop_eq_getElem_cons hlt
      have hrep := HREP.out
      rw [hdr] at hrep
      simp only [repL] at hrep
      have hsl := HSZ.out s (by rw [hse]; exact List.getElem_mem hlt)
      have hlk := lookup_bool (s := s) HOWN.out Tryd.underlying9 Tryd.underlying40 Tryd.underlying4 (by kernel_rfl) (by unfold maxLen; omega)
      have hkey : keyOf Tryd.prog 9 (.string s) = some (keyL s) := Go.WideMaps.keyOf_string_mk Tryd.underlying9 (by unfold maxLen; omega)
      have HKEY := Aside0.mk hkey
      have htk : l0.take (i + 1) = l0.take i ++ [s] := by rw [List.take_add_one, List.getElem?_eq_getElem hlt, hse]; rfl
      have HTK := Aside0.mk htk
      have hlt2 : (l0.take i).length = i := by rw [List.length_take]; omega
      by_cases hin : memB s (l0.take i) = true
      · rw [if_pos hin, hlt2] at hrep
        rw [hin] at hlk
        have HREPF := Aside0.mk hrep
        clear hrep hdr hse hs hin htk hkey hlt2
        go_wp2
        go_ret
        exact ⟨by rw [← HREPF.out]; rfl, HB.out⟩
      · rw [if_neg hin] at hrep
        rw [show memB s (l0.take i) = false by simpa using hin] at hlk
        have HREPF := Aside0.mk hrep
        clear hrep hdr hse hs hin htk hkey hlt2
        go_wp2_with (at_mapUpdate; refine wpList_mapUpdate_own _ rfl _ _ _ 40 rfl 9 4 (Go.Maps.string_keyed Tryd.underlying9) Tryd.underlying40 (plainElem Tryd.prog 4) w.heap.size i (mapC (l0.take i)) rfl HOWN.out (by unfold maxLen; omega) _ _ (keyL s) rfl rfl HKEY.out (.lit (.bool true)) [] (plainElem_bool Tryd.underlying4 true) ?_; intro w1 hown1 hgrow1; have HO1 := Aside0.mk hown1; have HG1 := Aside0.mk hgrow1; clear hown1 hgrow1)
        refine ⟨⟨i + 1, by omega, by congr 1, ⟨?_⟩, ⟨?_⟩, ⟨HB.out.grown HG1.out HB.out.size (fun j hj => by cases hj; exact Nat.le_refl _)⟩⟩, ?_⟩
        · rw [HTK.out]; exact HREPF.out
        · rw [HTK.out, mapC_snoc]; exact HO1.out
        · first | (simp [intOf]; done) | (simp [intOf]; omega)
    · obtain rfl : i = l0.length := by omega
      have hrep := HREP.out
      rw [List.drop_length] at hrep
      have HREPF := Aside0.mk (show -1 = r from hrep)
      clear hrep
      go_wp2
      go_ret
      exact ⟨by rw [← HREPF.out]; rfl, HB.out⟩

end Go.Proofs.YtomngapjfkmjkaaDoor.PAll
