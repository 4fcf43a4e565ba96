-- By a program of this session (xp.py) over the kit's print, with texts of this session.
import Derived.Test.YtbepheikefkaiaaPAllx0
import Derived.WalkSpells
import Derived.Lib.ConvBytes
import Derived.ArgAppend
import Derived.Lib.IndexLaws
import Derived.RangeFuncBox
import Derived.Test.YtbepheikefkaiaaShelf
import Derived.Test.YtbepheikefkaiaaStrPure
namespace Go.Proofs.Ytbepheikefkaiaa.PAll
open Go.RowKit Go.Proofs.YtbepheikefkaiaaW.PrintWords Go.Proofs.YtbepheikefkaiaaW.PrintLast Go.Proofs.YtbepheikefkaiaaW.PrintMore
attribute [local go_sem] max2_int min2_int max_two min_two max_three min_three max_four min_four   -- for this text's walks alone
set_option linter.unusedVariables false
set_option linter.unusedSimpArgs false

-- EXTERN
-- XIMPORT Derived.WalkSpells Derived.Lib.ConvBytes Derived.ArgAppend Derived.Lib.IndexLaws Derived.RangeFuncBox Derived.Test.YtbepheikefkaiaaShelf Derived.Test.YtbepheikefkaiaaStrPure
/-! ### strtab.Find: function 21 -/
def BytesOk (l : List Int) : Prop := ∀ x ∈ l, 0 ≤ x ∧ x < 256
instance (l : List Int) : Decidable (BytesOk l) := by unfold BytesOk; infer_instance
def findI (l : List Int) (s : ByteArray) : Int := Lib.index (Lib.bytesOf l) (s.data.toList ++ [0])
def findR (l : List Int) (s : ByteArray) : Int × Bool := if 0 ≤ Lib.indexByte s.data.toList 0 then (0, false) else (mx (findI l s) 0, decide (0 ≤ findI l s))
def strtab_Find.f (l0 : List Int) (a1 : ByteArray) : Option (Int × Bool) := if l0.length ≤ 1073741824 ∧ a1.size ≤ 1073741824 ∧ BytesOk l0 then some (findR l0 a1) else none
/-- The world behind []byte(s) has what was there. -/
theorem bytesWorld_below (w : World) (e : TypeId) (s : ByteArray) : Below w.heap.size w (Lib.bytesWorld w e s) :=
  (Below.refl w.heap.size w).grown (row := none) ⟨rfl, rfl, rfl, by rw [Lib.bytesWorld_size]; omega, fun k hk _ => Lib.bytesWorld_at_old w e s k hk⟩ (Nat.le_refl _) (fun _ h => by cases h)
theorem below_then {w w1 w2 : World} (h1 : Below w.heap.size w w1) (h2 : Below w1.heap.size w1 w2) : Below w.heap.size w w2 := below_step h1 h2
/-- Each number of the bytes of a string with a zero byte behind it. -/
def sepL (s : ByteArray) : List Int := bytesOf s ++ [0]
theorem sepL_length (s : ByteArray) : (sepL s).length = s.size + 1 := by simp [sepL, bytesOf_length]
theorem bytesOf_range (s : ByteArray) : ∀ x ∈ bytesOf s, 0 ≤ x ∧ x < 256 := fun x hx => by
  unfold bytesOf at hx
  obtain ⟨b, _, rfl⟩ := List.mem_map.1 hx
  have := b.toNat_lt
  omega
theorem sepL_range (s : ByteArray) : ∀ x ∈ sepL s, 0 ≤ x ∧ x < 256 := fun x hx => by
  rcases List.mem_append.1 hx with h | h
  · exact bytesOf_range s x h
  · simp at h; omega
theorem sepL_bytes (s : ByteArray) : Lib.bytesOf (sepL s) = s.data.toList ++ [0] := by
  simp [sepL, Lib.bytesOf, bytesOf, List.map_append, List.map_map, Function.comp_def]
/-- bytes.Index of a slice and the bytes of a string with a zero byte behind it. -/
theorem index_sep (A0 : Option Addr) (c0 : Nat) (l0 : List Int) (s : ByteArray) (a2 : Addr) (c2 : Nat) (m : Int) (W : World) (hr0 : Kd.C (Kd.int .u8) W A0 l0.length l0) (hc0 : l0.length ≤ c0) (hnil : A0 = none → c0 = 0)
    (hl : l0.length ≤ 1073741824) (hs : s.size ≤ 1073741824) (hb : BytesOk l0) (hc2 : ∀ i, i < s.size + 1 → W.cell? (a2.add i) = some (.int .u8 ((sepL s).getD i 0))) (hm : W.cell? ⟨0, 0, none⟩ = some (.int .i64 m)) (hp : a2 = ⟨a2.block, a2.off, none⟩) :
    Calls Try.prog 25 #[.slice A0 l0.length c0, .slice (some a2) (s.size + 1) c2] W fun e w' => e = .returned (.int .i64 (findI l0 s)) ∧ ∃ q, w' = W.drewN q := by
  have hx : findI l0 s = Lib.index (Lib.bytesOf l0) (Lib.bytesOf (sepL s)) := by rw [sepL_bytes]; rfl
  rw [hx]
  by_cases h0 : l0.length = 0
  · obtain rfl : l0 = [] := List.eq_nil_of_length_eq_zero h0
    have hneg : Lib.index (Lib.bytesOf []) (Lib.bytesOf (sepL s)) = -1 := by
      rw [sepL_bytes]
      exact Lib.index_long (by simp [Lib.bytesOf]) (by simp [Lib.bytesOf])
    rw [hneg]
    cases A0 with
    | none =>
      obtain rfl : c0 = 0 := hnil rfl
      refine (Try.bytes_Index_nil (some a2) (s.size + 1) c2 W (by omega) (fun h => ⟨a2.block, a2.off, (sepL s).getD 0 0, by rw [← hp], ?_⟩)).mono (fun e w' ⟨he, hw⟩ => ⟨he.trans (by rw [if_neg (by omega)]), 0, hw⟩)
      have := hc2 0 (by omega)
      rw [hp, Go.WideShapes.add_plain] at this
      simpa using this
    | some a1 =>
      refine (Try.bytes_Index_at a1 a2 0 c0 (s.size + 1) c2 [] (sepL s) m W rfl (sepL_length s) (fun x hx => by cases hx) (sepL_range s) (fun i hi => by omega) hc2 (by omega) (by omega) (by omega) hm).mono (fun e w' ⟨he, hw⟩ => ⟨he.trans ?_, hw⟩)
      rw [hneg]
  · have hr1 := Kd.reads_of_C (enc := Value.int .u8) (d := (0 : Int)) (h1 := fun _ => rfl) hr0
    obtain ⟨ad, rfl, hc⟩ := hr1.2.2 (by omega)
    exact Try.bytes_Index_at ad a2 l0.length c0 (s.size + 1) c2 l0 (sepL s) m W rfl (sepL_length s) hb (sepL_range s) hc hc2 hc0 (by omega) (by omega) hm
section
variable {P : Program} {ops : Array Oper} {rest : List Oper} {o : Oper} {a : Act} {Q : Exit → Act → World → Prop}
theorem sep_at (y : ByteArray) (j : Nat) (u : Value) (h : (nums .u8 (sepL y))[j]? = some u) : j < y.size + 1 ∧ u = .int .u8 ((sepL y).getD j 0) := by
  have hj : j < y.size + 1 := by
    rcases Nat.lt_or_ge j (y.size + 1) with h1 | h1
    · exact h1
    · rw [List.getElem?_eq_none (by rw [nums_length, sepL_length]; exact h1)] at h; cases h
  refine ⟨hj, ?_⟩
  unfold nums at h
  rw [List.getElem?_map, List.getElem?_eq_getElem (by rw [sepL_length]; exact hj)] at h
  have h2 := Option.some.inj h
  rw [← h2]
  simp [List.getD_eq_getElem?_getD, List.getElem?_eq_getElem (show j < (sepL y).length by rw [sepL_length]; exact hj)]
theorem sep_get (y : ByteArray) (j : Nat) (hj : j < y.size + 1) : (nums .u8 (sepL y))[j]? = some (.int .u8 ((sepL y).getD j 0)) := by
  unfold nums
  rw [List.getElem?_map, List.getElem?_eq_getElem (by rw [sepL_length]; exact hj)]
  simp [List.getD_eq_getElem?_getD, List.getElem?_eq_getElem (show j < (sepL y).length by rw [sepL_length]; exact hj)]
/-- append([]byte(s), 0): the bytes of s and a zero byte, in a row that was not there. -/
theorem wpList_append_sep (hg : o.guard = none) (s x : Operand) (t : TypeId) (hop : o.op = Op.call { callee := Callee.builtin Builtin.append, args := #[s, x], argTypes := #[t, t] }) (w0 : World) (y : ByteArray)
    (h1 : P.underlying t = some (.slice 5)) (hi : (P.info? 5).map (fun i => (i.zero, i.size, i.bytes)) = some (some (.int .u8 0), 1, 1))
    (hs : a.eval s = .slice (some ⟨w0.heap.size, 0, none⟩) y.size (grownCap w0 y.size 0 5)) (hx : a.eval x = .slice (some ⟨(Lib.bytesWorld w0 5 y).heap.size, 0, none⟩) 1 1) (hy : y.size ≤ 1073741824)
    (hK : ∀ a2 c2 w', a2 = ⟨a2.block, a2.off, none⟩ → Aside0 (∀ i, i < y.size + 1 → w'.cell? (a2.add i) = some (.int .u8 ((sepL y).getD i 0))) → Below w0.heap.size w0 w' → wpList P ops Q rest (a.put o.dst (.slice (some a2) (y.size + 1) c2)) w') :
    wpList P ops Q (o :: rest) a ((Lib.bytesWorld w0 5 y).alloc (.cells #[.int .u8 0] 5)) := by
  obtain ⟨i, hi1, hz, hsz, hby⟩ := info_parts hi
  have hsize := Lib.bytesWorld_size w0 5 y
  have hB1 : Below w0.heap.size w0 ((Lib.bytesWorld w0 5 y).alloc (.cells #[.int .u8 0] 5)) := below_alloc (bytesWorld_below w0 5 y) _
  have hold : ∀ j, j < y.size → ((Lib.bytesWorld w0 5 y).alloc (.cells #[.int .u8 0] 5)).cell? ⟨w0.heap.size, j, none⟩ = some (.int .u8 (y.data.toList.getD j 0).toNat) := fun j hj => by
    have h := Lib.bytesWorld_cell w0 5 y j hj
    exact pw_cell_below (below_alloc (Below.refl _ _) _) h
  have hnums : ∀ j u, (nums .u8 (bytesOf y))[j]? = some u → j < y.size ∧ u = .int .u8 (y.data.toList.getD j 0).toNat := fun j u h => by
    have hj : j < y.size := by
      rcases Nat.lt_or_ge j y.size with h1 | h1
      · exact h1
      · rw [List.getElem?_eq_none (by rw [nums_length, bytesOf_length]; exact h1)] at h; cases h
    refine ⟨hj, ?_⟩
    have hj2 : j < y.data.toList.length := by simpa using hj
    unfold nums bytesOf at h
    rw [List.getElem?_map, List.getElem?_map, List.getElem?_eq_getElem hj2] at h
    have h2 := Option.some.inj h
    rw [← h2]
    simp [List.getD_eq_getElem?_getD, List.getElem?_eq_getElem hj2]
  have hblk := Lib.bytesWorld_at_new w0 5 y
  have hcap := grownCap_ge w0 y.size 0 5
  have hcs : (Lib.bytesCells w0 5 y).size = grownCap w0 y.size 0 5 := by
    have : y.data.size = y.size := rfl
    simp [Lib.bytesCells]; omega
  have hseps : nums .u8 (sepL y) = nums .u8 (bytesOf y) ++ [.int .u8 0] := by simp [sepL, nums]
  have hlt : w0.heap.size < (Lib.bytesWorld w0 5 y).heap.size := by omega
  refine wpList_append_arg _ hg s x t hop 5 i (.int .u8 0) 1 1 h1 hi1 hz hsz hby (by rfl) (by decide) w0.heap.size 0 y.size (grownCap w0 y.size 0 5) (nums .u8 (bytesOf y)) hs (by rw [nums_length, bytesOf_length, Nat.mul_one]) (fun j u h => by rw [Nat.zero_add]; obtain ⟨hj, rfl⟩ := hnums j u h; exact hold j hj)
    ⟨(Lib.bytesWorld w0 5 y).heap.size, 0, none⟩ 1 1 [.int .u8 0] hx rfl (fun j u h => ?_) (fun u hu => by simp at hu; subst hu; rfl) (fun hr j hj => ?_) (by unfold maxLen; omega) (by omega) (fun hr => ?_) (fun hr v' w' hown hgr => ?_)
  · match j, h with
    | 0, h =>
      obtain rfl := Option.some.inj h
      rw [add_plain, World.cell?, heap_alloc_new]; rfl
    | _ + 1, h => simp at h
  · obtain rfl : j = 0 := by simp at hj; omega
    have hb2 : ((Lib.bytesWorld w0 5 y).alloc (.cells #[.int .u8 0] 5)).heap[w0.heap.size]? = some (.cells (Lib.bytesCells w0 5 y) 5 ((Lib.bytesCells w0 5 y).size, (Lib.bytesCells w0 5 y).size + 1)) := (Below.heap_alloc _ _ _ hlt).trans hblk
    constructor
    · rw [cell_of_row _ _ _ _ _ _ hb2, Array.getElem?_eq_getElem (by rw [hcs]; omega)]; rfl
    · simp [World.frozen?, hb2, hcs]; omega
  · refine hK ⟨w0.heap.size, 0, none⟩ _ _ rfl ⟨fun i hi => ?_⟩ ?_
    · rw [add_plain]
      have hone : ((Lib.bytesWorld w0 5 y).alloc (.cells #[.int .u8 0] 5)).setCells w0.heap.size (0 + y.size * 1) [.int .u8 0] = ((Lib.bytesWorld w0 5 y).alloc (.cells #[.int .u8 0] 5)).setCell ⟨w0.heap.size, 0 + y.size * 1, none⟩ (.int .u8 0) := rfl
      rw [hone, Nat.zero_add, Nat.mul_one]
      have hb2 : ((Lib.bytesWorld w0 5 y).alloc (.cells #[.int .u8 0] 5)).heap[w0.heap.size]? = some (.cells (Lib.bytesCells w0 5 y) 5 ((Lib.bytesCells w0 5 y).size, (Lib.bytesCells w0 5 y).size + 1)) := (Below.heap_alloc _ _ _ hlt).trans hblk
      by_cases h : i < y.size
      · rw [World.cell?_setCell_other _ _ _ _ (fun e => by cases e; omega), hold i h]
        congr 2
        simp [sepL, bytesOf, List.getD_eq_getElem?_getD, List.getElem?_append, h]
      · obtain rfl : i = y.size := by omega
        rw [World.cell?_setCell_same' _ _ _ (by rw [cell_of_row _ _ _ _ _ _ hb2, Array.getElem?_eq_getElem (by rw [hcs]; omega)]; rfl)]
        congr 2
        simp [sepL, bytesOf, List.getD_eq_getElem?_getD]
    · exact below_set hB1 (Nat.le_refl _)
  · rw [← hseps] at hown
    obtain ⟨g, cap, rfl⟩ := ownsRow_succ hown
    refine hK ⟨g, 0, none⟩ cap w' rfl ⟨fun i hi => hown.cells rfl i _ (sep_get y i hi)⟩ ?_
    exact hB1.grown hgr hB1.size (fun _ h => by cases h)
end
set_option maxHeartbeats 8000000 in
set_option maxRecDepth 100000 in
theorem strtab_Find.any (A0 : Option Addr) (c0 : Nat) (l0 : List Int) (s : ByteArray) (m : Int) (w : World) (hr0 : Kd.C (Kd.int .u8) w A0 l0.length l0) (hc0 : l0.length ≤ c0) (hnil : A0 = none → c0 = 0) (hm : w.cell? ⟨0, 0, none⟩ = some (.int .i64 m))
    (hl : l0.length ≤ 1073741824) (hs : s.size ≤ 1073741824) (hb : BytesOk l0) :
    Calls Try.prog 21 #[.slice A0 l0.length c0, .string s] w fun e w' => e = .returned (.tuple #[.int .i64 (findR l0 s).1, .bool (findR l0 s).2]) ∧ Below w.heap.size w w' := by
  have HR0 := Aside0.mk hr0
  have HC0 := Aside0.mk hc0
  have HN := Aside0.mk hnil
  have HM := Aside0.mk hm
  have HBy := Aside0.mk hb
  have hcv := Lib.run_convert_string_bytes (P := Try.prog) w 9 25 5 s Try.underlying9 Try.underlying25 Try.underlying5
  clear hr0 hc0 hnil hm hb
  by_cases h0 : 0 ≤ Lib.indexByte s.data.toList 0
  · have e : findR l0 s = (0, false) := by unfold findR; rw [if_pos h0]
    rw [e]
    go_enter Try.func21, Try.ntmps21
    go_wp2_with (go_at_call 22; (with_reducible refine (Try.strings_IndexByte _ _ _).mono ?_); rintro e w1 ⟨rfl, rfl⟩)
    go_ret2
    exact ⟨rfl, Below.refl _ _⟩
  · have e : findR l0 s = (mx (findI l0 s) 0, decide (0 ≤ findI l0 s)) := by unfold findR; rw [if_neg h0]
    rw [e]
    obtain ⟨fi, hfi⟩ : ∃ fi, fi = findI l0 s := ⟨_, rfl⟩
    rw [← hfi]
    have HFI := Aside0.mk hfi
    clear e hfi
    go_enter Try.func21, Try.ntmps21
    go_wp2_with (first | (go_at_call 22; (with_reducible refine (Try.strings_IndexByte _ _ _).mono ?_); rintro e w1 ⟨rfl, rfl⟩) | ((with_reducible refine gate_builtin (b := .append) (xs := #[.tmp 12, .tmp 13]) rfl ?_); refine wpList_append_sep rfl (.tmp 12) (.tmp 13) 25 rfl w1 s Try.underlying25 info5 rfl rfl hs ?_; intro a2 c2 w2 hp2 HC2 hb2; have HP2 := Aside0.mk hp2; have HB2 := Aside0.mk hb2; clear hp2 hb2) | (go_at_call 25; refine (index_sep A0 c0 l0 s a2 c2 m _ (Kd.C_below HR0.out HB2.out) HC0.out HN.out hl hs HBy.out HC2.out (pw_cell_below HB2.out HM.out) HP2.out).mono ?_; rintro e w3 ⟨he, q, rfl⟩; rw [← HFI.out] at he; subst he))
    all_goals go_ret2
    all_goals refine ⟨?_, pw_below_drewN HB2.out q⟩
    all_goals (unfold mx; first | (rw [if_neg (by omega)]; first | rfl | (simp; done)) | (rw [if_pos (by omega)]; first | rfl | (simp; done)) | (simp; omega))
theorem strtab_Find.calls (A0 : Option Addr) (c0 : Nat) (l0 : List Int) (a1 : ByteArray) (r1 : Int) (r2 : Bool) (w : World) (hr0 : Kd.C (Kd.int .u8) w A0 l0.length l0) (hc0 : l0.length ≤ c0) (h : strtab_Find.f l0 a1 = some (r1, r2)) (hm : ∃ m, w.cell? ⟨0, 0, none⟩ = some (.int .i64 m)) (hnil : A0 = none → c0 = 0) :
    Calls Try.prog 21 #[.slice A0 l0.length c0, .string a1] w fun e w' => e = .returned (.tuple #[.int .i64 r1, .bool r2]) ∧ Below w.heap.size w w' := by
  obtain ⟨m, hm⟩ := hm
  unfold strtab_Find.f at h
  split at h
  · rename_i hq
    have e : findR l0 a1 = (r1, r2) := Option.some.inj h
    have := strtab_Find.any A0 c0 l0 a1 m w hr0 hc0 hnil hm hq.1 hq.2.1 hq.2.2
    rw [e] at this
    exact this
  · cases h

end Go.Proofs.Ytbepheikefkaiaa.PAll
