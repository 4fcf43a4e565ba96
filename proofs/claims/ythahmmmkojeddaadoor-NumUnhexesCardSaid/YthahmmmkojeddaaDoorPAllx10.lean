-- By a program of this session (xp.py) over the kit's print, with texts of this session.
import Derived.Test.YthahmmmkojeddaaDoorPAllx0
import Derived.Test.YthahmmmkojeddaaDoorNumBase
import Derived.Test.YthahmmmkojeddaaDoorNumLet
import Derived.WalkSpells
namespace Go.Proofs.YthahmmmkojeddaaDoor.PAll
open Go.RowKit Go.Proofs.YthahmmmkojeddaaDoorW.PrintWords Go.Proofs.YthahmmmkojeddaaDoorW.PrintLast Go.Proofs.YthahmmmkojeddaaDoorW.PrintMore
attribute [local go_sem] max2_int min2_int max_two min_two max_three min_three max_four min_four   -- for this text's walks alone
set_option linter.unusedVariables false
set_option linter.unusedSimpArgs false

-- EXTERN
-- XIMPORT Derived.Test.YthahmmmkojeddaaDoorNumBase Derived.Test.YthahmmmkojeddaaDoorNumLet Derived.WalkSpells
/-! ### num.Hex -/
def hexD (d : Int) : UInt8 := hexLetters.getD d.toNat 0
def hexL (l : List Int) : List UInt8 := l.flatMap fun x => [hexD (x / 16), hexD (x % 16)]
def num_Hex.f (l0 : List Int) : Option ByteArray := if l0.length ≤ 1073741824 ∧ (∀ x ∈ l0, 0 ≤ x ∧ x < 256) then some ⟨(hexL l0).toArray⟩ else none
theorem hexAt (d : Int) (h0 : 0 ≤ d) (h1 : d < 16) (h : d.toNat < (⟨#[48, 49, 50, 51, 52, 53, 54, 55, 56, 57, 97, 98, 99, 100, 101, 102]⟩ : ByteArray).size) : (⟨#[48, 49, 50, 51, 52, 53, 54, 55, 56, 57, 97, 98, 99, 100, 101, 102]⟩ : ByteArray)[d.toNat] = hexD d := by
  have hd : ∀ n : Fin 16, (⟨#[48, 49, 50, 51, 52, 53, 54, 55, 56, 57, 97, 98, 99, 100, 101, 102]⟩ : ByteArray)[n.1]'(n.2) = hexLetters.getD n.1 0 := by decide
  exact hd ⟨d.toNat, by omega⟩
theorem hexL_length (l : List Int) : (hexL l).length = 2 * l.length := by
  induction l with
  | nil => rfl
  | cons x r ih => simp only [hexL, List.flatMap_cons, List.length_append, List.length_cons, List.length_nil] at ih ⊢; omega
theorem hexL_next (l : List Int) (i : Nat) (hi : i < l.length) : hexL (l.take (i + 1)) = hexL (l.take i) ++ [hexD (rd l i / 16)] ++ [hexD (rd l i % 16)] := by
  have e : l.take (i + 1) = l.take i ++ [rd l i] := by
    rw [List.take_add_one]
    congr 1
    simp [rd, List.getD_eq_getElem?_getD, hi]
  rw [e]
  simp [hexL]
set_option maxHeartbeats 4000000 in
set_option maxRecDepth 100000 in
theorem num_Hex.calls (A0 : Option Addr) (c0 : Nat) (l0 : List Int) (r : ByteArray) (w : World) (hr0 : Kd.C (Kd.int .u8) w A0 l0.length l0) (hc0 : l0.length ≤ c0) (h : num_Hex.f l0 = some r) :
    Calls Tryd.prog 18 #[.slice A0 l0.length c0] w fun e w' => e = .returned (.string r) ∧ Below w.heap.size w w' := by
  unfold num_Hex.f at h
  split at h
  rotate_left
  · cases h
  rename_i hb
  obtain rfl := Option.some.inj h
  have HR0 := Aside0.mk hr0
  have HBY := Aside0.mk hb.2
  have hm := hb.1
  clear hr0 h hb
  have hnew := heap_alloc_new w (.cells #[.pointer none, .slice none 0 0] 55)
  have hB0 : Lib.IsBuilder 55 5 w.heap.size w.heap.size [] (w.alloc (.cells #[.pointer none, .slice none 0 0] 55)) := .inl ⟨Nat.le_refl _, _, hnew, World.ownsRow_nil _ _ _ _, by simp [Value.ownBlock]⟩
  have HB0 := Aside0.mk hB0
  clear hnew hB0
  go_enter Tryd.func18, Tryd.ntmps18
  go_wp2
  go_loopw [8] (fun v8 wr => ∃ i : Nat, i ≤ l0.length ∧ v8 = .int .i64 i ∧ Aside0 (Lib.IsBuilder 55 5 w.heap.size w.heap.size (Lib.byteCells (hexL (l0.take i))) wr) ∧ Aside0 (Below w.heap.size w wr)) (fun v8 _ => l0.length - (intOf v8).toNat)
  case atStart => exact ⟨0, Nat.zero_le _, rfl, HB0, ⟨below_alloc (Below.refl _ _) _⟩⟩
  case round =>
    obtain ⟨i, hi, rfl, HIB, HB⟩ := hrel
    by_cases hlt : i < l0.length
    · obtain ⟨ad, e, hx⟩ := Kd.at_int HR0.out (i : Int) (by omega) (by omega)
      cases e
      rw [Int.toNat_natCast] at hx
      replace hx := (HB.out.cell (World.block_lt_of_cell? w _ hx)).trans hx
      obtain ⟨x, hxe⟩ : ∃ x, x = rd l0 (i : Int) := ⟨_, rfl⟩
      rw [← hxe] at hx
      have hxb := HBY.out x (by rw [hxe]; simp [rd, List.getD_eq_getElem?_getD, hlt])
      have q1 : 0 ≤ x / 16 := by omega
      have q2 : x / 16 < 16 := by omega
      have q3 : 0 ≤ x % 16 := by omega
      have q4 : x % 16 < 16 := by omega
      subst hxe
      clear HBY
      go_wp2_with (first
        | (go_at_call 29; refine (Builder_WriteByte w.heap.size w.heap.size _ _ _ H1.out (by rw [List.length_append, Lib.byteCells_length, hexL_length, List.length_take]; simp only [List.length_cons, List.length_nil]; omega) HB1.out.size).mono ?_; rintro e w2 ⟨rfl, h2, hb2⟩; have H2 := Aside0.mk h2; have HB2 := Aside0.mk (HB1.out.trans hb2); clear h2 hb2)
        | (go_at_call 29; refine (Builder_WriteByte w.heap.size w.heap.size _ _ _ HIB.out (by rw [Lib.byteCells_length, hexL_length, List.length_take]; omega) HB.out.size).mono ?_; rintro e w1 ⟨rfl, h1, hb1⟩; have H1 := Aside0.mk (show Lib.IsBuilder 55 5 w.heap.size w.heap.size _ w1 from .inr h1); have HB1 := Aside0.mk (HB.out.trans hb1); clear h1 hb1))
      refine ⟨⟨i + 1, by omega, by congr 1, ?_, HB2⟩, ?_⟩
      · have h2 := H2.out
        rw [hexAt _ q1 q2, hexAt _ q3 q4] at h2
        rw [hexL_next l0 i hlt]
        refine ⟨.inr ?_⟩
        simpa [Lib.byteCells] using h2
      · first | (simp [intOf]; done) | (simp [intOf]; omega)
    · obtain rfl : i = l0.length := by omega
      go_wp2_with (go_at_call 30; refine (Tryd.Builder_String_any w.heap.size w.heap.size (hexL (l0.take l0.length)) _ HIB.out HB.out.size).mono ?_; rintro e w1 ⟨rfl, hb1⟩)
      go_ret
      exact ⟨rfl, HB.out.trans hb1⟩

end Go.Proofs.YthahmmmkojeddaaDoor.PAll
