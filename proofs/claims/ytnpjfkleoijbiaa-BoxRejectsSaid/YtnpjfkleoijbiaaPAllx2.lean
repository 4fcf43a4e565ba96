-- By a program of this session (xp.py) over the kit's print, with texts of this session.
import Derived.Test.YtnpjfkleoijbiaaPAllx0
import Derived.Laws.CopyOwn
import Derived.WalkSpells
import Derived.Test.YtnpjfkleoijbiaaBoxPure
namespace Go.Proofs.Ytnpjfkleoijbiaa.PAll
open Go.RowKit Go.Proofs.YtnpjfkleoijbiaaW.PrintWords Go.Proofs.YtnpjfkleoijbiaaW.PrintLast Go.Proofs.YtnpjfkleoijbiaaW.PrintMore
attribute [local go_sem] max2_int min2_int max_two min_two max_three min_three max_four min_four   -- for this text's walks alone
set_option linter.unusedVariables false
set_option linter.unusedSimpArgs false

-- EXTERN
-- XIMPORT Derived.Laws.CopyOwn Derived.WalkSpells Derived.Test.YtnpjfkleoijbiaaBoxPure
/-! ### box.set: it writes a number into a piece of a row -/
theorem splice_snoc {α : Type} (cur A : List α) (off : Nat) (v : α) (h : off + A.length < cur.length) : splice cur off (A ++ [v]) = (splice cur off A).set (off + A.length) v := by
  have h1 : min off cur.length = off := by omega
  have e1 : splice cur off A = cur.take off ++ A ++ (cur[off + A.length]'h) :: cur.drop (off + A.length + 1) := by
    rw [splice, List.append_assoc]; congr 2; exact List.drop_eq_getElem_cons h
  have e2 : (cur.take off ++ A).length = off + A.length := by simp; omega
  rw [e1, List.set_append, if_neg (by omega), e2, Nat.sub_self, List.set_cons_zero, splice]
  simp [Nat.add_assoc]
theorem nums_le_succ (k : Nat) (x : Int) : nums .u8 (le (k + 1) x) = nums .u8 (le k x) ++ [.int .u8 (byteAt x k)] := by simp [nums, le_succ]
theorem row_cell {wr : World} {g : Nat} {L : List Value} {t : TypeId} (h : wr.heap[g]? = some (.cells L.toArray t (0, 0))) (i : Nat) (hi : i < L.length) : wr.cell? ⟨g, i, none⟩ = some (L[i]?.getD undef) := by
  rw [cell_of_row wr g i _ t (0, 0) h]; simp [hi]
theorem row_free {wr : World} {g : Nat} {L : List Value} {t : TypeId} (h : wr.heap[g]? = some (.cells L.toArray t (0, 0))) (i : Nat) : wr.frozen? ⟨g, i, none⟩ = false := by
  simp [World.frozen?, h]
theorem row_set {wr : World} {g : Nat} {L : List Value} {t : TypeId} (h : wr.heap[g]? = some (.cells L.toArray t (0, 0))) (i : Nat) (v : Value) : (wr.setCell ⟨g, i, none⟩ v).heap[g]? = some (.cells (L.set i v).toArray t (0, 0)) := by
  have := blk_set h i v
  simpa using this
theorem grown_set {w wr : World} {g : Nat} (h : w.grownBy wr (some g)) (i : Nat) (v : Value) : w.grownBy (wr.setCell ⟨g, i, none⟩ v) (some g) := by
  refine h.trans ⟨rfl, rfl, rfl, by simp [World.setCell], fun k hk hne => Below.heap_setCell _ _ _ _ (by simpa using hne)⟩
set_option maxHeartbeats 1000000 in
theorem set_sub (g off n c : Nat) (x : Int) (cur : List Value) (w : World) (hg : w.heap[g]? = some (.cells cur.toArray 5 (0, 0))) (hn : n ≤ 8) (hfit : off + n ≤ cur.length) :
    Calls Try.prog 25 #[.slice (some ⟨g, off, none⟩) n c, .int .i64 x] w fun e w' => e = .returned (.tuple #[]) ∧ Hid (w'.heap[g]? = some (.cells (splice cur off (nums .u8 (le n x))).toArray 5 (0, 0))) ∧ w.grownBy w' (some g) := by
  have HG := Aside0.mk hg
  have HF := Aside0.mk hfit
  clear hg hfit
  go_enter Try.func25, Try.ntmps25
  go_wp2
  go_loopw [7] (fun v wr => ∃ k : Nat, k ≤ n ∧ v = .int .i64 k ∧ Aside0 (wr.heap[g]? = some (.cells (splice cur off (nums .u8 (le k x))).toArray 5 (0, 0))) ∧ Aside0 (w.grownBy wr (some g))) (fun v _ => n - (intOf v).toNat)
  case atStart => exact ⟨0, Nat.zero_le _, rfl, ⟨by simpa [splice, le, nums] using HG.out⟩, ⟨World.grownBy.refl w _⟩⟩
  case round =>
    obtain ⟨k, hk, rfl, HR, HGr⟩ := hrel
    by_cases hlt : k < n
    · have hl : (nums .u8 (le k x)).length = k := by rw [nums_length, le_length]
      have hcell := row_cell HR.out (off + k) (by rw [length_splice _ _ _ (by have := HF.out; omega)]; have := HF.out; omega)
      have hfro := row_free HR.out (off + k)
      have HS := Aside0.mk (splice_snoc cur (nums .u8 (le k x)) off (.int .u8 (byteAt x k)) (by have := HF.out; omega))
      rw [← nums_le_succ, hl] at HS
      clear hl
      go_wp2
      go_roundw
      case rel => exact ⟨k + 1, by omega, by go_num, ⟨by rw [HS.out]; exact row_set HR.out _ _⟩, ⟨grown_set HGr.out _ _⟩⟩
      case measure => simp [intOf]; omega
    · have : k = n := by omega
      subst this
      go_wp2
      first | go_end0 | ((try simp only [Exit.inBlock, Exit.then]); refine bodyPost_ret (results_none rfl _ _ _) rfl ?_)
      exact ⟨rfl, HR.out, HGr.out⟩

end Go.Proofs.Ytnpjfkleoijbiaa.PAll
