/- mem: slices.Delete at []*mem.region (the shelf's contract laid at this program). -/
import Derived.Test.YtlolhmocimaobaaMemAdd
import Derived.Shelf.SlGeneric
import Derived.Ground.SlgnProg
import Derived.Shelf.SlicesE.Delete
set_option linter.unusedVariables false
set_option linter.unusedSimpArgs false
namespace Go.Proofs
open Go.Shelf
def Try.laysDel_ren : Go.Shelf.Ren := ⟨fun | 45 => 35 | n => n, fun | 22 => 60 | 23 => 56 | 3 => 3 | 4 => 4 | 0 => 0 | n => n, fun | n => n⟩
theorem Try.laysDel : Go.Proofs.SlLaysE.n45 Try.prog Try.laysDel_ren := {
  mixed := by kernel_rfl
  f45 := ⟨Try.f35.name, by decide, Try.func35.trans (congrArg some (by kernel_rfl))⟩
  t0 := Try.underlying0
  a0 := Try.isAgg0
  z0 := Try.sizeOf0
  v0 := Try.zeroValue0
  t3 := Try.underlying3
  a3 := Try.isAgg3
  z3 := Try.sizeOf3
  v3 := Try.zeroValue3
  t4 := Try.underlying4
  a4 := Try.isAgg4
  z4 := Try.sizeOf4
  v4 := Try.zeroValue4
  t22 := Try.underlying60
  a22 := Try.isAgg60
  z22 := Try.sizeOf60
  v22 := Try.zeroValue60
  a23 := Try.isAgg56
  z23 := Try.sizeOf56 }
end Go.Proofs
namespace Go.Proofs.Ytlolhmocimaobaa.PAll
open Go.RowKit Go.Shelf Go.Lib Go.Sort Go.Proofs.YtlolhmocimaobaaW.PrintWords Go.Proofs.YtlolhmocimaobaaW.PrintLast Go.Proofs.YtlolhmocimaobaaW.PrintMore
theorem del_row (blk cap i j : Nat) (d : Array (Option Addr)) (w : World) (hH : Holds Value.pointer w blk 0 d) (hcap : d.size ≤ cap) (hm : cap ≤ 9223372036854775807) (hij : i ≤ j) (hj : j ≤ d.size) :
    Calls Try.prog 35 #[.slice (some ⟨blk, 0, none⟩) d.size cap, .int .i64 i, .int .i64 j] w fun e w' => e = .returned (.slice (some ⟨blk, 0, none⟩) (d.size - (j - i)) cap) ∧ ∃ q, w' = putRow Value.pointer (Sort.ahead w q) blk 0 (d.toList.take i ++ d.toList.drop j ++ List.replicate (j - i) none).toArray := by
  obtain ⟨i0, hi0, hz0, hzs, hzb⟩ := info_parts info_region
  exact AnyE.slices_Delete Try.laysDel Value.pointer (fun _ => rfl) none Try.zeroValue56 i0 hi0 hzs blk 0 cap i j d w hH hcap hm hij hj
theorem putRow_heap {enc : Option Addr → Value} {w : World} {blk off : Nat} {D : Array (Option Addr)} {c : Array Value} {t : TypeId} {f : Nat × Nat} (h : w.heap[blk]? = some (.cells c t f)) : (putRow enc w blk off D).heap[blk]? = some (.cells (putCells enc off D c) t f) := by
  simp [putRow, mapBlock, Array.getElem?_modify, h, onCells]
theorem putRow_other (enc : Option Addr → Value) (w : World) (blk off : Nat) (D : Array (Option Addr)) (k : Nat) (h : k ≠ blk) : (putRow enc w blk off D).heap[k]? = w.heap[k]? := by
  simp [putRow, mapBlock, Array.getElem?_modify, Ne.symm h]
theorem putCells_take (xs : List (Option Addr)) (D : Array (Option Addr)) (c : Array Value) (n : Nat) (hD : D.toList.take n = xs) (hn : n ≤ D.size) (hc : n ≤ c.size) : (putCells Value.pointer 0 D c).toList.take n = xs.map Value.pointer := by
  have hxl : xs.length = n := by rw [← hD, List.length_take, Array.length_toList]; omega
  refine List.ext_getElem (by simp [putCells, hxl]; omega) (fun j h1 h2 => ?_)
  have hj : j < n := by rw [List.length_map, hxl] at h2; exact h2
  have e1 : D[j]! = xs[j]'(by omega) := by
    have : xs[j]? = D.toList[j]? := by rw [← hD, List.getElem?_take, if_pos hj]
    rw [getElem!_pos D j (by omega)]
    rw [List.getElem?_eq_getElem (by omega), List.getElem?_eq_getElem (by rw [Array.length_toList]; omega)] at this
    have := Option.some.inj this
    rw [this]
    rfl
  simp [putCells, e1]
  omega
theorem del_one (X : World) (B : Nat) (v : Value) (n i : Nat) (xs : List (Option Addr)) (h : X.ownsRow B 56 1 v n (xs.map Value.pointer)) (hi : i < n) :
    Calls Try.prog 35 #[v, .int .i64 i, .int .i64 ((i + 1 : Nat) : Int)] X fun e X' => ∃ v', e = .returned v' ∧ X'.ownsRow B 56 1 v' (n - 1) ((xs.take i ++ xs.drop (i + 1)).map Value.pointer) ∧ Out (fun k => v.ownBlock = some k) X X' ∧ v'.ownBlock = v.ownBlock := by
  have hxl : xs.length = n := by have := h.1; rw [List.length_map] at this; omega
  rcases h.2 with ⟨rfl, h0⟩ | ⟨g, cap, cur, rfl, hg, hh, hnc, hcm, hcs, hct⟩
  · omega
  · rw [Nat.mul_one] at hct hcs
    have hH : Holds Value.pointer X g 0 xs.toArray := fun j hj => by
      have hj' : j < xs.length := by simpa using hj
      refine ⟨?_, by simp [World.frozen?, hh]⟩
      have := h.cells (g := g) rfl j (.pointer (xs[j])) (by rw [List.getElem?_map, List.getElem?_eq_getElem hj']; rfl)
      rw [add_plain] at this
      rw [Nat.zero_add, this, getElem!_pos xs.toArray j hj]
      simp
    have hd := del_row g cap i (i + 1) xs.toArray X hH (by simp; omega) (by unfold maxLen at hcm; omega) (by omega) (by simp; omega)
    rw [show xs.toArray.size = n by simp [hxl]] at hd
    refine hd.mono ?_
    rintro e X' ⟨rfl, q, rfl⟩
    have hah : (Sort.ahead X q).heap[g]? = some (.cells cur 56 (0, 0)) := hh
    refine ⟨_, rfl, ⟨by rw [List.length_map, List.length_append, List.length_take, List.length_drop]; omega, .inr ⟨g, cap, _, by rw [show n - (i + 1 - i) = n - 1 by omega], hg, putRow_heap hah, by omega, hcm, ?_, ?_⟩⟩, ⟨rfl, rfl, rfl, ?_, fun k hk hn => putRow_other _ _ _ _ _ k (fun e => hn (by rw [e]; rfl))⟩, rfl⟩
    · simp [putCells, hcs]
    · rw [Nat.mul_one]
      refine putCells_take _ _ _ _ ?_ ?_ (by omega)
      · exact List.take_left' (by simp; omega)
      · simp; omega
    · simp [putRow, mapBlock, Sort.ahead]
end Go.Proofs.Ytlolhmocimaobaa.PAll
