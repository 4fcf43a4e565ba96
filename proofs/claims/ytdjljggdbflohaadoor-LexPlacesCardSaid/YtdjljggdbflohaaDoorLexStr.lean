/- (*strings.Builder).WriteString, internal/stringslite.Cut and strings.Cut at one byte. -/
import Derived.Test.YtdjljggdbflohaaDoorLexBase
import Derived.Lib.AppendStr
import Derived.OwnWalk
import Derived.RowKit3
import Derived.WalkKit
import Derived.Deep.RegionHeld3
import Derived.Deep.QuietTactic
import Derived.BigQuiet
set_option linter.unusedVariables false
set_option linter.unusedSimpArgs false
namespace Go.Proofs.YtdjljggdbflohaaDoor.PAll
open Go.RowKit Go.Proofs.YtdjljggdbflohaaDoorW.PrintWords Go.Proofs.YtdjljggdbflohaaDoorW.PrintLast Go.Proofs.YtdjljggdbflohaaDoorW.PrintMore
set_option maxHeartbeats 2000000 in
set_option maxRecDepth 100000 in
theorem Builder_WriteString (B b : Nat) (bs : List Value) (s : ByteArray) (w : World) (h : Lib.IsBuilder 51 5 B b bs w) (hlen : bs.length + s.size ≤ 140737488355328) (hBw : B ≤ w.heap.size) :
    Calls Tryd.prog 28 #[.pointer (some ⟨b, 0, none⟩), .string s] w fun e w' => e = .returned (.tuple #[.int .i64 s.size, .nilIface]) ∧ (Lib.BuilderAt 51 5 B b (.pointer (some ⟨b, 0, none⟩)) (bs ++ Lib.strCells s) w' ∧ Below B w w') := by
  obtain ⟨i0, hi, hz0, hz1, hz2⟩ := info_parts (show (Tryd.prog.info? 5).map (fun i => (i.zero, i.size, i.bytes)) = some (some (.int .u8 0), 1, 1) by kernel_rfl)
  go_enter Tryd.func28, Tryd.ntmps28
  go_wp2_with (go_at_call 40; refine (Builder_copyCheck B b bs _ h).mono ?_)
  rintro e w1 ⟨rfl, h1, hb1⟩
  obtain ⟨hB, v, hbk, hown, hne⟩ := h1
  have c0 : w1.cell? ⟨b, 0, none⟩ = some (.pointer (some ⟨b, 0, none⟩)) := by rw [Lib.cell_of_heap hbk]; rfl
  have c1 : w1.cell? ⟨b, 1, none⟩ = some v := by rw [Lib.cell_of_heap hbk]; rfl
  go_wp2_with (at_builtin; refine Lib.wpList_append_own_string _ rfl _ _ 49 9 rfl B 5 i0 Tryd.underlying49 Tryd.underlying9 hi hz0 hz1 hz2 _ _ _ rfl hown s rfl ?c3 ?c4 ?c5 ?_)
  case c3 => unfold maxLen; omega
  case c4 => omega
  case c5 => have := hb1.size; omega
  intro v' w2 hown' hgrow _
  have hlt : b < w1.heap.size := by
    rcases Nat.lt_or_ge b w1.heap.size with h' | h'
    · exact h'
    · simp [Array.getElem?_eq_none h'] at hbk
  have hb2 : w2.heap[b]? = some (.cells #[.pointer (some ⟨b, 0, none⟩), v] 51 (0, 0)) := by
    rw [hgrow.block b hlt (fun e => hne e.symm)]
    exact hbk
  have d0 : w2.cell? ⟨b, 0, none⟩ = some (.pointer (some ⟨b, 0, none⟩)) := by rw [Lib.cell_of_heap hb2]; rfl
  have d1 : w2.cell? ⟨b, 1, none⟩ = some v := by rw [Lib.cell_of_heap hb2]; rfl
  have f1 : w2.frozen? ⟨b, 1, none⟩ = false := Lib.frozen_of_heap hb2 1
  obtain ⟨ao, n', cap, rfl⟩ : ∃ ao n' cap, v' = .slice ao n' cap := by
    rcases hown'.2 with ⟨hv, _⟩ | ⟨g, cap, cur, hv, _⟩
    · exact ⟨_, _, _, hv⟩
    · exact ⟨_, _, _, hv⟩
  go_wp2
  go_ret2
  refine ⟨rfl, ?_, ?_⟩
  · exact Lib.BuilderAt.put (T := 51) (e := 5) hB hb2 (bs' := bs ++ Lib.strCells s) (by simpa [Lib.strCells_length] using hown') (by decide)
  · exact (hb1.grown hgrow (by have := hb1.size; omega) (fun k hk => (hown.lt k hk).1)).setCell (p := ⟨b, 1, none⟩) hB _
/-! ### the text ahead of a line feed, the text behind it -/
def cutL : List UInt8 → List UInt8 × List UInt8
  | [] => ([], [])
  | b :: r => if b = 10 then ([], r) else (b :: (cutL r).1, (cutL r).2)
theorem cut_indexByte : ∀ l : List UInt8, (Lib.indexByte l 10 < 0 → cutL l = (l, [])) ∧ (0 ≤ Lib.indexByte l 10 → Lib.indexByte l 10 < l.length ∧ cutL l = (l.take (Lib.indexByte l 10).toNat, l.drop ((Lib.indexByte l 10).toNat + 1)))
  | [] => ⟨fun _ => rfl, fun h => absurd h (by decide)⟩
  | b :: r => by
    obtain ⟨ih1, ih2⟩ := cut_indexByte r
    by_cases hb : b = 10
    · subst hb
      have e : Lib.indexByte (10 :: r) 10 = 0 := rfl
      rw [e]
      exact ⟨fun h => absurd h (by decide), fun _ => ⟨by simp [Int.natCast_pos], rfl⟩⟩
    · have hb' : (b == 10) = false := by simpa using hb
      have e : Lib.indexByte (b :: r) 10 = if Lib.indexByte r 10 == -1 then -1 else Lib.indexByte r 10 + 1 := by
        simp only [Lib.indexByte, hb', Bool.false_eq_true, if_false]
      have ec : cutL (b :: r) = (b :: (cutL r).1, (cutL r).2) := by simp only [cutL, if_neg hb]
      have hge := Lib.indexByte_ge r 10
      rw [ec]
      by_cases hm : Lib.indexByte r 10 = -1
      · have e2 : Lib.indexByte (b :: r) 10 = -1 := by rw [e, hm]; rfl
        rw [e2, ih1 (by omega)]
        exact ⟨fun _ => rfl, fun h => absurd h (by decide)⟩
      · have hm' : (Lib.indexByte r 10 == -1) = false := by simpa using hm
        have e2 : Lib.indexByte (b :: r) 10 = Lib.indexByte r 10 + 1 := by rw [e, hm']; rfl
        obtain ⟨h1, h2⟩ := ih2 (by omega)
        obtain ⟨k, hk⟩ : ∃ k : Nat, Lib.indexByte r 10 = k := ⟨(Lib.indexByte r 10).toNat, by omega⟩
        rw [e2, h2, hk]
        rw [hk] at h1
        have e3 : ((k : Int) + 1).toNat = k + 1 := by omega
        rw [e3, Int.toNat_natCast]
        exact ⟨fun h => absurd h (by omega), fun _ => ⟨by simp; omega, rfl⟩⟩
theorem ba_eq (a b : ByteArray) (h : a.data.toList = b.data.toList) : a = b := by
  cases a; cases b
  simp only [ByteArray.mk.injEq]
  exact Array.toList_inj.1 h
set_option maxHeartbeats 4000000 in
set_option maxRecDepth 100000 in
theorem stringslite_CutNL (s : ByteArray) (w : World) (hs : s.size ≤ 140737488355328) :
    Calls Tryd.prog 52 #[.string s, .string ⟨#[10]⟩] w fun e w' => (∃ b, e = .returned (.tuple #[.string ⟨(cutL s.data.toList).1.toArray⟩, .string ⟨(cutL s.data.toList).2.toArray⟩, .bool b])) ∧ ∃ n, w' = w.drewN n := by
  have hlen : s.size = s.data.toList.length := (data_length s).symm
  obtain ⟨h1, h2⟩ := cut_indexByte s.data.toList
  have hge := Lib.indexByte_ge s.data.toList 10
  have hX := Aside0.mk (Tryd.stringslite_Index_one s 10)
  by_cases hi : 0 ≤ Lib.indexByte s.data.toList 10
  · obtain ⟨hlt, hc⟩ := h2 hi
    obtain ⟨k, hk⟩ : ∃ k : Nat, Lib.indexByte s.data.toList 10 = k := ⟨(Lib.indexByte s.data.toList 10).toNat, by omega⟩
    rw [hk] at hX hc hlt
    rw [hc, Int.toNat_natCast]
    have e1 : (⟨(s.data.toList.take k).toArray⟩ : ByteArray) = s.extract 0 k := ba_eq _ _ (by rw [Lib.extract_data]; rfl)
    have e2 : (⟨(s.data.toList.drop (k + 1)).toArray⟩ : ByteArray) = s.extract (k + 1) s.size := ba_eq _ _ (by rw [Lib.extract_data, List.take_of_length_le (by rw [List.length_drop, hlen]; omega)])
    rw [e1, e2]
    have hk2 : (k : Int) < s.size := by omega
    have hw : wrap64 ((k : Int) + 1) = ((k + 1 : Nat) : Int) := by unfold wrap64; omega
    clear h1 h2 hge hi hlt hc hk e1 e2 hlen
    go_enter Tryd.func52, Tryd.ntmps52
    go_wp2_with (go_at_call 43; refine (hX.out _).mono ?_; rintro e w2 ⟨rfl, rfl⟩)
    repeat (go_quiet (fail); try go_wp2)
    go_ret3
    exact ⟨⟨_, rfl⟩, ⟨_, rfl⟩⟩
  · have hc := h1 (by omega)
    rw [hc]
    have hm : Lib.indexByte s.data.toList 10 = -1 := by omega
    rw [hm] at hX
    have e1 : (⟨s.data.toList.toArray⟩ : ByteArray) = s := ba_eq _ _ (by simp)
    rw [e1]
    clear h1 h2 hge hi hc hm hlen
    go_enter Tryd.func52, Tryd.ntmps52
    go_wp2_with (go_at_call 43; refine (hX.out _).mono ?_; rintro e w2 ⟨rfl, rfl⟩)
    go_ret3
    exact ⟨⟨_, rfl⟩, ⟨0, rfl⟩⟩
set_option maxHeartbeats 4000000 in
set_option maxRecDepth 100000 in
theorem strings_CutNL (s : ByteArray) (w : World) (hs : s.size ≤ 140737488355328) :
    Calls Tryd.prog 42 #[.string s, .string ⟨#[10]⟩] w fun e w' => (∃ b, e = .returned (.tuple #[.string ⟨(cutL s.data.toList).1.toArray⟩, .string ⟨(cutL s.data.toList).2.toArray⟩, .bool b])) ∧ ∃ n, w' = w.drewN n := by
  have hX := Aside0.mk (fun w => stringslite_CutNL s w hs)
  go_enter Tryd.func42, Tryd.ntmps42
  go_wp2_with (go_at_call 52; refine (hX.out _).mono ?_; rintro e w2 ⟨⟨b, rfl⟩, ⟨n, rfl⟩⟩)
  go_ret3
  exact ⟨⟨_, rfl⟩, ⟨_, rfl⟩⟩
end Go.Proofs.YtdjljggdbflohaaDoor.PAll
