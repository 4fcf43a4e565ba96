-- By a program of this session (xp.py) over the kit's print, with texts of this session.
import Derived.Test.YtdjljggdbflohaaDoorPAllx0
import Derived.Test.YtdjljggdbflohaaDoorPAllx2
import Derived.Test.YtdjljggdbflohaaDoorPAllx5
import Derived.Test.YtdjljggdbflohaaDoorLexStr
import Derived.WalkSpells
namespace Go.Proofs.YtdjljggdbflohaaDoor.PAll
open Go.RowKit Go.Proofs.YtdjljggdbflohaaDoorW.PrintWords Go.Proofs.YtdjljggdbflohaaDoorW.PrintLast Go.Proofs.YtdjljggdbflohaaDoorW.PrintMore
attribute [local go_sem] max2_int min2_int max_two min_two max_three min_three max_four min_four   -- for this text's walks alone
set_option linter.unusedVariables false
set_option linter.unusedSimpArgs false

-- EXTERN
-- XIMPORT Derived.Test.YtdjljggdbflohaaDoorLexStr Derived.WalkSpells
/-! ### lex.Shape -/
def shapeL (l : List S31) : List UInt8 := l.flatMap fun x => if wordN x.f0.data.toList = 0 then x.f0.data.toList else [119]
def lex_Shape.f (l0 : List S31) : Option ByteArray := if l0.length ≤ 1073741824 ∧ (shapeL l0).length ≤ 1099511627776 ∧ (∀ x ∈ l0, x.f0.size ≤ 140737488355328) then some ⟨(shapeL l0).toArray⟩ else none
theorem shapeL_take (l : List S31) (i : Nat) (hi : i < l.length) : shapeL (l.take (i + 1)) = shapeL (l.take i) ++ (if wordN (rd_T31 l i).f0.data.toList = 0 then (rd_T31 l i).f0.data.toList else [119]) := by
  have e : l.take (i + 1) = l.take i ++ [rd_T31 l i] := by
    rw [List.take_add_one]
    congr 1
    simp [rd_T31, List.getD_eq_getElem?_getD, hi]
  rw [e]
  simp [shapeL]
theorem shapeL_le (l : List S31) (i : Nat) : (shapeL (l.take i)).length ≤ (shapeL l).length := by
  have h : shapeL l = shapeL (l.take i) ++ shapeL (l.drop i) := by
    unfold shapeL
    rw [← List.flatMap_append, List.take_append_drop]
  rw [h]
  simp
theorem isBuilder_below {T e : TypeId} {B b : Nat} {bs : List Value} {w w1 : World} (h : Lib.IsBuilder T e B b bs w) (hb : Below w.heap.size w w1) : Lib.IsBuilder T e B b bs w1 := by
  have f : ∀ p, Lib.BuilderAt T e B b p bs w → Lib.BuilderAt T e B b p bs w1 := by
    rintro p ⟨hB, v, hbk, hown, hne⟩
    exact ⟨hB, v, (hb.block b (Array.getElem?_eq_some_iff.1 hbk).1).trans hbk, pw_own_below hown hb, hne⟩
  rcases h with h | h
  · exact .inl (f _ h)
  · exact .inr (f _ h)
set_option maxHeartbeats 4000000 in
set_option maxRecDepth 100000 in
theorem lex_Shape.calls (A0 : Option Addr) (c0 : Nat) (l0 : List S31) (r : ByteArray) (w : World) (hr0 : Kd.C k31 w A0 l0.length l0) (hc0 : l0.length ≤ c0) (h : lex_Shape.f l0 = some r) (hL : LaidI w) :
    Calls Tryd.prog 12 #[.slice A0 l0.length c0] w fun e w' => e = .returned (.string r) ∧ Below w.heap.size w w' := by
  unfold lex_Shape.f at h
  split at h
  rotate_left
  · cases h
  rename_i hb
  obtain rfl := Option.some.inj h
  have HR0 := Aside0.mk hr0
  have HL := Aside0.mk hL
  have HBY := Aside0.mk hb.2.2
  have HSL := Aside0.mk hb.2.1
  have hm := hb.1
  clear hr0 h hb hL
  have hnew := heap_alloc_new w (.cells #[.pointer none, .slice none 0 0] 51)
  have hB0 : Lib.IsBuilder 51 5 w.heap.size w.heap.size [] (w.alloc (.cells #[.pointer none, .slice none 0 0] 51)) := .inl ⟨Nat.le_refl _, _, hnew, World.ownsRow_nil _ _ _ _, by simp [Value.ownBlock]⟩
  have HB0 := Aside0.mk hB0
  clear hnew hB0
  go_enter Tryd.func12, Tryd.ntmps12
  go_wp2
  go_loopw [8] (fun v8 wr => ∃ i : Nat, i ≤ l0.length ∧ v8 = .int .i64 i ∧ Aside0 (Lib.IsBuilder 51 5 w.heap.size w.heap.size (Lib.byteCells (shapeL (l0.take i))) wr) ∧ Aside0 (Below w.heap.size w wr)) (fun v8 _ => l0.length - (intOf v8).toNat)
  case atStart => exact ⟨0, Nat.zero_le _, rfl, HB0, ⟨below_alloc (Below.refl _ _) _⟩⟩
  case round =>
    obtain ⟨i, hi, rfl, HIB, HB⟩ := hrel
    by_cases hlt : i < l0.length
    · obtain ⟨ad, e, hx0, hx1⟩ := at_T31 HR0.out (i : Int) (by omega) (by omega)
      cases e
      rw [Int.toNat_natCast] at hx0 hx1
      replace hx0 := (HB.out.cell (World.block_lt_of_cell? w _ hx0)).trans hx0
      replace hx1 := (HB.out.cell (World.block_lt_of_cell? w _ hx1)).trans hx1
      have hst := Aside0.mk (shapeL_take l0 i hlt)
      have hmem : rd_T31 l0 (i : Int) ∈ l0 := by
        have : rd_T31 l0 (i : Int) = l0[i] := by simp [rd_T31, List.getD_eq_getElem?_getD, hlt]
        rw [this]; exact List.getElem_mem hlt
      have hsz := HBY.out _ hmem
      have hln := Aside0.mk (shapeL_le l0 i)
      have hln1 := Aside0.mk (shapeL_le l0 (i + 1))
      obtain ⟨x, hxe⟩ : ∃ x, x = rd_T31 l0 (i : Int) := ⟨_, rfl⟩
      rw [← hxe] at hx0 hx1 hst hsz
      clear hxe hmem
      obtain ⟨s, n⟩ := x
      dsimp only at hx0 hx1 hst hsz
      have hlt' : (i : Int) < l0.length := by omega
      by_cases hw0 : wordN s.data.toList = 0
      · rw [if_pos hw0] at hst
        have HW : Aside0 (∀ w, LaidI w → Calls Tryd.prog 26 #[.agg #[.string s, .int .i64 n]] w fun e w' => e = .returned (.bool false) ∧ Below w.heap.size w w') := ⟨fun w h => lex_Tok_isWord.calls s n _ w (by unfold lex_Tok_isWord.f ident_Word.f; rw [if_pos hsz]; rw [hw0]; rfl) h⟩
        clear hw0
        go_wp2_with fail
        refine (HW.out _ (HL.out.below (below_alloc HB.out _))).mono ?_
        rintro e w2 ⟨rfl, hb2⟩
        have HIB2 := Aside0.mk (isBuilder_below (isBuilder_below HIB.out (Below.alloc (Below.refl _ _) (Nat.le_refl _) _)) hb2)
        have HB2 := Aside0.mk (below_then (below_alloc HB.out _) (below_size (below_alloc HB.out _)) hb2)
        have hbx : w2.cell? ⟨wr.heap.size, 0, none⟩ = some (.string s) := (hb2.cell (by show wr.heap.size < _; simp)).trans (by rw [Lib.cell_of_heap (heap_alloc_new wr _)]; rfl)
        clear hb2 hx0 hx1
        go_wp2_with fail
        refine (Builder_WriteString w.heap.size w.heap.size _ s _ HIB2.out (by have h1 := hln1.out; have h2 := HSL.out; rw [hst.out, List.length_append] at h1; rw [Lib.byteCells_length]; first | omega | (have h4 := data_length s; omega) | (simp only [List.length_cons, List.length_nil] at h1; omega)) HB2.out.size).mono ?_
        rintro e w3 ⟨rfl, h3, hb3⟩
        have H3 := Aside0.mk (show Lib.IsBuilder 51 5 w.heap.size w.heap.size _ w3 from .inr h3)
        have HB3 := Aside0.mk (HB2.out.trans hb3)
        clear h3 hb3 hbx
        go_wp2_with fail
        refine ⟨⟨i + 1, by omega, by congr 1, ⟨?_⟩, HB3⟩, by simp [intOf]; omega⟩
        have h3 := H3.out
        rw [hst.out]
        simpa [Lib.byteCells, Lib.strCells] using h3
      · rw [if_neg hw0] at hst
        have HW : Aside0 (∀ w, LaidI w → Calls Tryd.prog 26 #[.agg #[.string s, .int .i64 n]] w fun e w' => e = .returned (.bool true) ∧ Below w.heap.size w w') := ⟨fun w h => lex_Tok_isWord.calls s n _ w (by unfold lex_Tok_isWord.f ident_Word.f; rw [if_pos hsz]; simp; omega) h⟩
        clear hw0
        go_wp2_with fail
        refine (HW.out _ (HL.out.below (below_alloc HB.out _))).mono ?_
        rintro e w2 ⟨rfl, hb2⟩
        have HIB2 := Aside0.mk (isBuilder_below (isBuilder_below HIB.out (Below.alloc (Below.refl _ _) (Nat.le_refl _) _)) hb2)
        have HB2 := Aside0.mk (below_then (below_alloc HB.out _) (below_size (below_alloc HB.out _)) hb2)
        have hbx : w2.cell? ⟨wr.heap.size, 0, none⟩ = some (.string s) := (hb2.cell (by show wr.heap.size < _; simp)).trans (by rw [Lib.cell_of_heap (heap_alloc_new wr _)]; rfl)
        clear hb2 hx0 hx1
        go_wp2_with fail
        refine (Builder_WriteByte w.heap.size w.heap.size _ _ _ HIB2.out (by have h1 := hln1.out; have h2 := HSL.out; rw [hst.out, List.length_append] at h1; rw [Lib.byteCells_length]; first | omega | (have h4 := data_length s; omega) | (simp only [List.length_cons, List.length_nil] at h1; omega)) HB2.out.size).mono ?_
        rintro e w3 ⟨rfl, h3, hb3⟩
        have H3 := Aside0.mk (show Lib.IsBuilder 51 5 w.heap.size w.heap.size _ w3 from .inr h3)
        have HB3 := Aside0.mk (HB2.out.trans hb3)
        clear h3 hb3 hbx
        go_wp2_with fail
        refine ⟨⟨i + 1, by omega, by congr 1, ⟨?_⟩, HB3⟩, by simp [intOf]; omega⟩
        have h3 := H3.out
        rw [hst.out]
        simpa [Lib.byteCells, Lib.strCells] using h3
    · obtain rfl : i = l0.length := by omega
      go_wp2_with (go_at_call 29; refine (Tryd.Builder_String_any w.heap.size w.heap.size (shapeL (l0.take l0.length)) _ HIB.out HB.out.size).mono ?_; rintro e w1 ⟨rfl, hb1⟩)
      go_ret
      exact ⟨rfl, HB.out.trans hb1⟩

end Go.Proofs.YtdjljggdbflohaaDoor.PAll
