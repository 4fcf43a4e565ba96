-- By a program of this session (xp.py) over the kit's print, with texts of this session.
import Derived.Test.YtdjljggdbflohaaDoorPAllx0
import Derived.Test.YtdjljggdbflohaaDoorLexBase
import Derived.WalkSpells
namespace Go.Proofs.YtdjljggdbflohaaDoor.PAll
open Go.RowKit Go.Proofs.YtdjljggdbflohaaDoorW.PrintWords Go.Proofs.YtdjljggdbflohaaDoorW.PrintLast Go.Proofs.YtdjljggdbflohaaDoorW.PrintMore
attribute [local go_sem] max2_int min2_int max_two min_two max_three min_three max_four min_four   -- for this text's walks alone
set_option linter.unusedVariables false
set_option linter.unusedSimpArgs false

-- EXTERN
-- XIMPORT Derived.Test.YtdjljggdbflohaaDoorLexBase Derived.WalkSpells
/-! ### ident.inWord, Word -/
def inW (c : Int) : Bool := decide (c = 95) || decide (c = 46) || (decide (c ≤ 127) && (Lib.isLetterL c || Lib.isDigitL c))
theorem inW_high (c : Int) (h : 128 ≤ c) : inW c = false := by
  unfold inW
  rw [decide_eq_false (by omega), decide_eq_false (by omega), decide_eq_false (by omega)]
  rfl
set_option maxHeartbeats 4000000 in
set_option maxRecDepth 100000 in
theorem ident_inWord (c : Int) (w : World) (h0 : 0 ≤ c) (h1 : c ≤ 2147483647) (hL : LaidI w) :
    Calls Tryd.prog 38 #[.int .i32 c] w fun e w' => e = .returned (.bool (inW c)) ∧ w' = w := by
  have HL := Aside0.mk hL
  clear hL
  obtain ⟨n, rfl⟩ : ∃ n : Nat, c = n := ⟨c.toNat, by omega⟩
  go_enter Tryd.func38, Tryd.ntmps38
  go_wp2_with (first
    | (go_at_call 45; refine (Tryd.unicode_IsLetter n _ (by omega) HL.out.pr).mono ?_; rintro e w' ⟨rfl, rfl⟩)
    | (go_at_call 46; refine (Tryd.unicode_IsDigit n _ (by omega)).mono ?_; rintro e w' ⟨rfl, rfl⟩))
  all_goals (go_ret; refine ⟨congrArg (fun b => Ending.returned (Value.bool b)) (?_ : _ = inW (n : Int)), rfl⟩)
  all_goals (first | (unfold inW; simp_all; done) | (rw [inW_high (n : Int) (by omega)]; first | rfl | (simp_all; done) | (simp; omega)) | (unfold inW; simp_all; omega))
/-- How many word bytes a text begins with. -/
def wordN : List UInt8 → Nat
  | [] => 0
  | b :: r => if inW b.toNat = true then wordN r + 1 else 0
theorem wordN_le (l : List UInt8) : wordN l ≤ l.length := by
  induction l with
  | nil => exact Nat.le_refl _
  | cons b r ih => simp only [wordN]; split <;> simp <;> omega
def ident_Word.f (a0 : ByteArray) : Option Int := if a0.size ≤ 140737488355328 then some (wordN a0.data.toList : Int) else none
set_option maxHeartbeats 8000000 in
set_option maxRecDepth 100000 in
theorem ident_Word.calls (a0 : ByteArray) (r : Int) (w : World) (h : ident_Word.f a0 = some r) (hL : LaidI w) :
    Calls Tryd.prog 23 #[.string a0] w fun e w' => e = .returned (.int .i64 r) ∧ Below w.heap.size w w' := by
  unfold ident_Word.f at h
  split at h
  rotate_left
  · cases h
  rename_i hs
  obtain rfl := Option.some.inj h
  have HL := Aside0.mk hL
  clear h hL
  obtain ⟨l, hl⟩ : ∃ l, a0.data.toList = l := ⟨_, rfl⟩
  have hlen : a0.size = l.length := by rw [← data_length, hl]
  rw [hl]
  have hget : ∀ (i : Nat) (h : i < l.length) (h' : i < a0.size), a0[i]'(h') = l[i] := by
    intro i h h'
    subst hl
    rfl
  have HGET := Aside0.mk hget
  clear hget
  go_enter Tryd.func23, Tryd.ntmps23
  go_wp2
  go_loopw [] (fun wr => ∃ pos : Nat, pos ≤ l.length ∧ Aside0 (wordN l = pos + wordN (l.drop pos)) ∧ Aside0 (wr.heap[w.heap.size]? = some (.stringIter a0 pos)) ∧ Aside0 (Below w.heap.size w wr)) (fun wr => l.length - wr.iterPos w.heap.size)
  case atStart => exact ⟨0, Nat.zero_le _, ⟨by simp⟩, ⟨World.iter_heap w a0 0⟩, ⟨below_alloc (Below.refl _ _) _⟩⟩
  case round =>
    obtain ⟨pos, hpos, HW, HIT, HB⟩ := hrel
    by_cases hlt : pos < l.length
    · obtain ⟨b, hbe⟩ : ∃ b, b = l[pos] := ⟨_, rfl⟩
      have hdr : l.drop pos = b :: l.drop (pos + 1) := by rw [hbe]; exact List.drop_eq_getElem_cons hlt
      have hsz : pos < a0.size := by omega
      have hbs : a0[pos]'hsz = b := by rw [hbe]; exact HGET.out pos hlt hsz
      have hb8 := b.toNat_lt
      have hw := HW.out
      rw [hdr] at hw
      simp only [wordN] at hw
      by_cases hi : inW b.toNat = true
      · rw [if_pos hi] at hw
        have ha : b.toNat < 128 := by
          refine Decidable.byContradiction fun h => ?_
          rw [inW_high _ (by omega)] at hi
          cases hi
        have hnx : ∀ ty, (Instr.next (.pointer (some ⟨w.heap.size, 0, none⟩)) true ty).run Tryd.prog wr = .ok (.tuple #[.bool true, .int .i64 pos, .int .i32 b.toNat]) (wr.iterAt w.heap.size a0 (pos + 1)) := fun ty => by
          have h := Lib.run_next_ascii_at (P := Tryd.prog) wr w.heap.size a0 pos ty HIT.out hsz (by rw [hbs]; exact ha)
          rw [hbs] at h
          exact h
        have HIT2 := Aside0.mk (Lib.iterAt_heap wr w.heap.size a0 pos (pos + 1) HIT.out)
        have HB2 := Aside0.mk (Lib.below_iterAt HB.out (k := w.heap.size) (by omega) a0 (pos + 1))
        have HC := Aside0.mk (ident_inWord b.toNat _ (by omega) (by omega) (HL.out.below HB2.out))
        rw [hi] at HC
        have HW2 := Aside0.mk hw
        obtain ⟨c, hce⟩ : ∃ c : Int, c = (b.toNat : Int) := ⟨_, rfl⟩
        rw [← hce] at HC hnx
        clear hw hdr hbs hi ha hb8 hce hbe
        go_wp2_with (go_at_call 38; refine HC.out.mono ?_; rintro e w2 ⟨rfl, rfl⟩)
        refine ⟨⟨pos + 1, by omega, ⟨?_⟩, HIT2, HB2⟩, ?_⟩
        · have := HW2.out; omega
        · have g1 := HIT2.out
          have g2 := HIT.out
          simp only [World.iterPos, g1, g2]
          omega
      · rw [if_neg hi] at hw
        have hif : inW b.toNat = false := by simpa using hi
        have hwN : wordN l = pos := by omega
        have HWN := Aside0.mk hwN
        clear hwN
        obtain ⟨c, hc0, hc1, hcw, p2, hnx⟩ : ∃ c : Int, 0 ≤ c ∧ c ≤ 2147483647 ∧ inW c = false ∧ ∃ p2, ∀ ty, (Instr.next (.pointer (some ⟨w.heap.size, 0, none⟩)) true ty).run Tryd.prog wr = .ok (.tuple #[.bool true, .int .i64 pos, .int .i32 c]) (wr.iterAt w.heap.size a0 p2) := by
          by_cases ha : b.toNat < 128
          · refine ⟨b.toNat, by omega, by omega, hif, pos + 1, fun ty => ?_⟩
            have h := Lib.run_next_ascii_at (P := Tryd.prog) wr w.heap.size a0 pos ty HIT.out hsz (by rw [hbs]; exact ha)
            rw [hbs] at h
            exact h
          · have hh := decode_high a0 pos hsz (by rw [hbs]; omega)
            have hle := decode_le a0 pos
            exact ⟨(Utf8.decode a0 pos).1, by omega, by omega, inW_high _ (by omega), _, fun ty => Lib.run_next_any_at (P := Tryd.prog) wr w.heap.size a0 pos ty HIT.out hsz⟩
        have HB2 := Aside0.mk (Lib.below_iterAt HB.out (k := w.heap.size) (by omega) a0 p2)
        have HC := Aside0.mk (ident_inWord c _ hc0 hc1 (HL.out.below HB2.out))
        rw [hcw] at HC
        clear hw hdr hbs hi hif hb8 hbe hcw
        go_wp2_with (go_at_call 38; refine HC.out.mono ?_; rintro e w2 ⟨rfl, rfl⟩)
        go_ret
        exact ⟨by rw [HWN.out]; rfl, HB2.out⟩
    · obtain rfl : pos = l.length := by omega
      have hsz : ¬ l.length < a0.size := by omega
      have hnx : ∀ ty, (Instr.next (.pointer (some ⟨w.heap.size, 0, none⟩)) true ty).run Tryd.prog wr = .ok (.tuple #[.bool false]) wr := fun ty => Lib.run_next_end_at wr w.heap.size a0 l.length ty HIT.out hsz
      have hw := HW.out
      rw [List.drop_length] at hw
      have hwN : wordN l = l.length := hw
      have HWN := Aside0.mk hwN
      clear hw hwN
      go_wp2
      go_ret
      exact ⟨by rw [HWN.out]; rfl, HB.out⟩

end Go.Proofs.YtdjljggdbflohaaDoor.PAll
