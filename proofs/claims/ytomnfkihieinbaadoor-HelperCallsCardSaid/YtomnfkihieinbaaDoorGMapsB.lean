/- The texts MapsE1, MapsE2, MapsE3, MapsE4, MapsOps, MapsLaw, MapsAlive of this claim, joined. -/
import Derived.Test.YtomnfkihieinbaaDoorGMapsA
import Derived.Shelf.SlGeneric
import Derived.Ground.SlsfProg
import Derived.Shelf.SlSortCmp.Whole1
import Derived.Shelf.SlSortCmp.NoneTotal
import Derived.Sort.KeysCollected
import Derived.Sort.OwnSorted
import Derived.Maps.AppendAt
import Derived.Lib.ConvBytes
import Derived.Test.YtomnfkihieinbaaDoorGMemB
import Derived.Test.YtomnfkihieinbaaDoorPAllx1
import Derived.KernelRfl
/- maps: the order of the keys, and their sort. -/
set_option linter.unusedVariables false
set_option linter.unusedSimpArgs false
namespace Go.Proofs
open Go.Shelf
def Tryd.laysSort_ren : Go.Shelf.Ren := ⟨fun | 6 => 36 | 15 => 57 | 14 => 56 | 28 => 78 | 29 => 79 | 20 => 70 | 21 => 71 | 22 => 72 | 23 => 73 | 24 => 74 | 25 => 75 | 26 => 76 | 27 => 77 | 46 => 83 | 47 => 84 | 48 => 85 | 49 => 86 | 50 => 87 | 57 => 90 | n => n, fun | 22 => 96 | 24 => 9 | 25 => 98 | 3 => 3 | 39 => 137 | 0 => 0 | 53 => 157 | 55 => 30 | 4 => 4 | 46 => 151 | 45 => 150 | 50 => 72 | 5 => 5 | 9 => 9 | 66 => 159 | 70 => 162 | 76 => 166 | 77 => 167 | n => n, fun | n => n⟩
theorem Tryd.laysSort : Go.Proofs.SlLaysF.n6 Tryd.prog Tryd.laysSort_ren := {
  mixed := by kernel_rfl
  f6 := ⟨Tryd.f36.name, by decide, Tryd.func36.trans (congrArg some (by kernel_rfl))⟩
  f14 := ⟨Tryd.f56.name, by decide, Tryd.func56.trans (congrArg some (by kernel_rfl))⟩
  f15 := Tryd.func57.trans (congrArg some (by kernel_rfl))
  f20 := ⟨Tryd.f70.name, by decide, Tryd.func70.trans (congrArg some (by kernel_rfl))⟩
  f21 := ⟨Tryd.f71.name, by decide, Tryd.func71.trans (congrArg some (by kernel_rfl))⟩
  f22 := ⟨Tryd.f72.name, by decide, Tryd.func72.trans (congrArg some (by kernel_rfl))⟩
  f23 := ⟨Tryd.f73.name, by decide, Tryd.func73.trans (congrArg some (by kernel_rfl))⟩
  f24 := ⟨Tryd.f74.name, by decide, Tryd.func74.trans (congrArg some (by kernel_rfl))⟩
  f25 := ⟨Tryd.f75.name, by decide, Tryd.func75.trans (congrArg some (by kernel_rfl))⟩
  f26 := ⟨Tryd.f76.name, by decide, Tryd.func76.trans (congrArg some (by kernel_rfl))⟩
  f27 := ⟨Tryd.f77.name, by decide, Tryd.func77.trans (congrArg some (by kernel_rfl))⟩
  f28 := Tryd.func78.trans (congrArg some (by kernel_rfl))
  f29 := Tryd.func79.trans (congrArg some (by kernel_rfl))
  f46 := ⟨Tryd.f83.name, by decide, Tryd.func83.trans (congrArg some (by kernel_rfl))⟩
  f47 := Tryd.func84.trans (congrArg some (by kernel_rfl))
  f48 := Tryd.func85.trans (congrArg some (by kernel_rfl))
  f49 := ⟨Tryd.f86.name, by decide, Tryd.func86.trans (congrArg some (by kernel_rfl))⟩
  f50 := ⟨Tryd.f87.name, by decide, Tryd.func87.trans (congrArg some (by kernel_rfl))⟩
  f57 := ⟨Tryd.f90.name, by decide, Tryd.func90.trans (congrArg some (by kernel_rfl))⟩
  t0 := Tryd.underlying0
  a0 := Tryd.isAgg0
  z0 := Tryd.sizeOf0
  v0 := Tryd.zeroValue0
  t3 := Tryd.underlying3
  a3 := Tryd.isAgg3
  z3 := Tryd.sizeOf3
  v3 := Tryd.zeroValue3
  t4 := Tryd.underlying4
  a4 := Tryd.isAgg4
  z4 := Tryd.sizeOf4
  v4 := Tryd.zeroValue4
  t5 := Tryd.underlying5
  a5 := Tryd.isAgg5
  z5 := Tryd.sizeOf5
  v5 := Tryd.zeroValue5
  t9 := Tryd.underlying9
  a9 := Tryd.isAgg9
  z9 := Tryd.sizeOf9
  v9 := Tryd.zeroValue9
  t22 := Tryd.underlying96
  a22 := Tryd.isAgg96
  z22 := Tryd.sizeOf96
  v22 := Tryd.zeroValue96
  a24 := Tryd.isAgg9
  z24 := Tryd.sizeOf9
  t25 := Tryd.underlying98
  a25 := Tryd.isAgg98
  z25 := Tryd.sizeOf98
  v25 := Tryd.zeroValue98
  t39 := Tryd.underlying137
  a39 := Tryd.isAgg137
  z39 := Tryd.sizeOf137
  v39 := Tryd.zeroValue137
  t45 := Tryd.underlying150
  a45 := Tryd.isAgg150
  z45 := Tryd.sizeOf150
  v45 := Tryd.zeroValue150
  t46 := Tryd.underlying151
  a46 := Tryd.isAgg151
  z46 := Tryd.sizeOf151
  v46 := Tryd.zeroValue151
  t50 := Tryd.underlying72
  a50 := Tryd.isAgg72
  z50 := Tryd.sizeOf72
  v50 := Tryd.zeroValue72
  t53 := Tryd.underlying157
  a53 := Tryd.isAgg157
  z53 := Tryd.sizeOf157
  v53 := Tryd.zeroValue157
  t55 := Tryd.underlying30
  a55 := Tryd.isAgg30
  z55 := Tryd.sizeOf30
  v55 := Tryd.zeroValue30
  t66 := Tryd.underlying159
  a66 := Tryd.isAgg159
  z66 := Tryd.sizeOf159
  v66 := Tryd.zeroValue159
  t70 := Tryd.underlying162
  a70 := Tryd.isAgg162
  z70 := Tryd.sizeOf162
  v70 := Tryd.zeroValue162
  t76 := Tryd.underlying166
  a76 := Tryd.isAgg166
  z76 := Tryd.sizeOf166
  v76 := Tryd.zeroValue166
  t77 := Tryd.underlying167
  a77 := Tryd.isAgg167
  z77 := Tryd.sizeOf167
  v77 := Tryd.zeroValue167 }
end Go.Proofs
namespace Go.Proofs.YtomnfkihieinbaaDoor.PAll
open Go.RowKit Go.Shelf Go.Maps Go.Sort Go.Proofs.YtomnfkihieinbaaDoorW.PrintWords Go.Proofs.YtomnfkihieinbaaDoorW.PrintLast Go.Proofs.YtomnfkihieinbaaDoorW.PrintMore
/-! ### rows of any one-cell elements that are sorted -/
theorem holds_of_blockG {α : Type} [Inhabited α] (enc : α → Value) {w : World} {g : Nat} {cur : Array Value} {e : TypeId} {ss : List α} (hb : w.heap[g]? = some (.cells cur e (0, 0))) (ht : cur.toList.take ss.length = ss.map enc) : Holds enc w g 0 ss.toArray := by
  intro j hj
  have hj' : j < ss.length := by simpa using hj
  refine ⟨?_, by simp [World.frozen?, hb]⟩
  have h1 : (cur.toList.take ss.length)[j]? = (ss.map enc)[j]? := by rw [ht]
  rw [List.getElem?_take_of_lt hj'] at h1
  simp only [World.cell?, hb, Nat.zero_add]
  simp only [Option.isSome_none, Bool.false_eq_true, if_false]
  rw [← Array.getElem?_toList, h1]
  simp [hj']
theorem heap_sortedG {α : Type} [Inhabited α] (enc : α → Value) {w : World} {g n : Nat} {os : Array Obj} {cur : Array Value} {e : TypeId} {fr : Nat × Nat} (d : Array α) (hb : w.heap[g]? = some (.cells cur e fr)) :
    (grow (putRow enc (Sort.ahead w n) g 0 d) os).heap[g]? = some (.cells (putCells enc 0 d cur) e fr) := by
  have hg : g < w.heap.size := (Array.getElem?_eq_some_iff.1 hb).1
  rw [heap_grow_old _ _ (by simpa using hg)]
  simp [putRow, mapBlock, Sort.ahead, Array.getElem?_modify, hb, onCells]
theorem grownBy_sortedG {α : Type} [Inhabited α] (enc : α → Value) {w : World} {g n : Nat} {os : Array Obj} (d : Array α) : w.grownBy (grow (putRow enc (Sort.ahead w n) g 0 d) os) (some g) := by
  refine ⟨rfl, rfl, rfl, by simp, fun k hk hne => ?_⟩
  rw [heap_grow_old _ _ (by simpa using hk)]
  have : g ≠ k := fun e => hne (by rw [e])
  simp [putRow, mapBlock, Sort.ahead, Array.getElem?_modify, this]
theorem take_putCellsG {α : Type} [Inhabited α] (enc : α → Value) (cur : Array Value) (ts : List α) (h : ts.length ≤ cur.size) : (putCells enc 0 ts.toArray cur).toList.take ts.length = ts.map enc := by
  apply List.ext_getElem?
  intro j
  by_cases hj : j < ts.length
  · rw [List.getElem?_take_of_lt hj, Array.getElem?_toList]
    simp [putCells, hj, show j < cur.size by omega]
  · rw [List.getElem?_take_eq_none (by omega), List.getElem?_eq_none (by simp; omega)]
theorem ownsRow_sortedG {α : Type} [Inhabited α] (enc : α → Value) {w : World} {base g cap n : Nat} {e : TypeId} {os : Array Obj} {cur : Array Value} {ss ts : List α} (hl : ts.length = ss.length) (hbase : base ≤ g) (hb : w.heap[g]? = some (.cells cur e (0, 0)))
    (h1 : ss.length ≤ cap) (h2 : cap ≤ maxLen) (h3 : cur.size = cap * 1) :
    (grow (putRow enc (Sort.ahead w n) g 0 ts.toArray) os).ownsRow base e 1 (.slice (some ⟨g, 0, none⟩) ss.length cap) ss.length (ts.map enc) :=
  ⟨by simp [hl], .inr ⟨g, cap, _, rfl, hbase, heap_sortedG enc _ hb, h1, h2, by simp [putCells, h3], by rw [Nat.mul_one, ← hl]; exact take_putCellsG enc cur ts (by omega)⟩⟩
/-! ### keys as bytes -/
def toInts (x : List UInt8) : List Int := x.map fun u => (u.toNat : Int)
theorem toInts_bytes (x : List UInt8) : IsBytes (toInts x) := fun y hy => by
  obtain ⟨u, _, rfl⟩ := List.mem_map.1 hy
  have := u.toNat_lt
  omega
theorem strOf_toInts (x : List UInt8) : (strOfNums (toInts x)).data.toList = x := by
  rw [strOfNums_data]
  unfold toInts
  rw [List.map_map]
  conv => rhs; rw [← List.map_id x]
  refine List.map_congr_left (fun u _ => ?_)
  show UInt8.ofNat ((u.toNat : Int).toNat) = u
  rw [Int.toNat_natCast]
  exact UInt8.ofNat_toNat
theorem kl_toInts (x : List UInt8) : kl (toInts x) = .string x := by unfold kl; rw [strOf_toInts]
/-- The bytes of a key. -/
def kb (key : List Int) : List UInt8 := (strOfNums key).data.toList
theorem kb_toInts (key : List Int) (h : IsBytes key) : toInts (kb key) = key := by
  apply strOfNums_inj (toInts_bytes _) h
  rw [strOf_toInts]
  rfl
abbrev Key := { x : List UInt8 // x.length ≤ maxLen }
instance : Inhabited Key := ⟨⟨[], Nat.zero_le _⟩⟩
def encK (x : Key) : Value := encStr x.1
def numU (ents : List (List Int × Int)) (x : List UInt8) : Int := (lookE ents (toInts x)).getD 0
def cmpK (ents : List (List Int × Int)) (x y : Key) : Int := numU ents x.1 - numU ents y.1
theorem swoK (ents : List (List Int × Int)) : SWO (ltOf (cmpK ents)) where
  irrefl x := by simp [ltOf, cmpK]
  trans x y z h1 h2 := by
    have e1 : numU ents x.1 - numU ents y.1 < 0 := of_decide_eq_true h1
    have e2 : numU ents y.1 - numU ents z.1 < 0 := of_decide_eq_true h2
    have : numU ents x.1 - numU ents z.1 < 0 := by omega
    exact decide_eq_true this
  ntrans x y z h1 h2 := by
    have e1 : ¬ numU ents x.1 - numU ents y.1 < 0 := of_decide_eq_false h1
    have e2 : ¬ numU ents y.1 - numU ents z.1 < 0 := of_decide_eq_false h2
    have : ¬ numU ents x.1 - numU ents z.1 < 0 := by omega
    exact decide_eq_false this
/-- What a look-up of a key's number gives. -/
theorem num_run {X : World} {mb : Nat} {D : DataW Unit} {ents : List (List Int × Int)} (h : X.ownsMap Tryd.prog 9 (plainElem Tryd.prog 30) mb (Maps.size D) D) (hm : MRel D ents) (x : List UInt8) (hl : x.length ≤ maxLen) :
    (Instr.lookup 92 (.map (some mb)) (.string ⟨x.toArray⟩) false).run Tryd.prog X = .ok (.int .u64 (numU ents x)) X := by
  have hkey : keyOf Tryd.prog 9 (.string ⟨x.toArray⟩) = some (.string x) := WideMaps.keyOf_string_mk Tryd.underlying9 (s := ⟨x.toArray⟩) (by simpa [ByteArray.size] using hl)
  obtain ⟨c, hr, hc, _⟩ := h.lookup_int strLaw Tryd.underlying92 Tryd.underlying30 (zeroU64 X) hkey
  rw [hr]
  have e : numU ents x = c := by
    unfold numU
    have hb := toInts_bytes x
    have hh := hm.has (toInts x) hb
    cases hl : lookE ents (toInts x) with
    | none =>
      rw [hl, kl_toInts] at hh
      have := atKey_of_not_has hh (.lit (.int .u64 0))
      rw [this] at hc
      have e2 : Lit.int .u64 0 = Lit.int .u64 c := by
        cases hc
        rfl
      cases e2
      rfl
    | some n =>
      have := hm.at_ (toInts x) n hb hl
      rw [kl_toInts] at this
      rw [this] at hc
      have e2 : Lit.int .u64 n = Lit.int .u64 c := by
        cases hc
        rfl
      cases e2
      rfl
  rw [e]
set_option maxHeartbeats 2000000 in
set_option maxRecDepth 100000 in
theorem cmp_c (W : World) (xb ob mb : Nat) (D : DataW Unit) (ents : List (List Int × Int)) (hx : W.cell? ⟨xb, 0, none⟩ = some (.pointer (some ⟨ob, 0, none⟩))) (h4 : W.cell? ⟨ob, 4, none⟩ = some (.map (some mb))) (hM : W.ownsMap Tryd.prog 9 (plainElem Tryd.prog 30) mb (Maps.size D) D) (hR : MRel D ents)
    (hn : ∀ e ∈ ents, 0 ≤ e.2 ∧ e.2 < 4294967296) (x y : Key) :
    Calls Tryd.prog 37 #[encK x, encK y, .pointer (some ⟨xb, 0, none⟩)] W fun e w' => e = .returned (.int .i64 (cmpK ents x y)) ∧ ∃ q, w' = W.drewN q := by
  have hrng : ∀ z : List UInt8, 0 ≤ numU ents z ∧ numU ents z < 4294967296 := fun z => by
    unfold numU
    cases hl : lookE ents (toInts z) with
    | none => exact ⟨Int.le_refl _, by decide⟩
    | some n =>
      unfold lookE at hl
      obtain ⟨e, he, rfl⟩ := Option.map_eq_some_iff.1 hl
      exact hn e (List.mem_of_find?_eq_some he)
  unfold cmpK encK
  have hr1 := num_run (X := W.drew) hM hR x.1 x.2
  have hr2 := num_run (X := W.drew) hM hR y.1 y.2
  obtain ⟨a, ha⟩ : ∃ a, numU ents x.1 = a := ⟨_, rfl⟩
  obtain ⟨b, hb⟩ : ∃ b, numU ents y.1 = b := ⟨_, rfl⟩
  have ra := hrng x.1
  have rb := hrng y.1
  rw [ha] at hr1 ra ⊢
  rw [hb] at hr2 rb ⊢
  obtain ⟨a0, a1⟩ := ra
  obtain ⟨b0, b1⟩ := rb
  have hwa : IntKind.i64.wrap a = a := IntWalk.i64_in _ (by omega)
  have hws : IntKind.i64.wrap (a - b) = a - b := IntWalk.i64_in _ (by omega)
  have hwb : IntKind.i64.wrap b = b := IntWalk.i64_in _ (by omega)
  have hx' : W.drew.cell? ⟨xb, 0, none⟩ = some (.pointer (some ⟨ob, 0, none⟩)) := hx
  have h4' : W.drew.cell? ⟨ob, 4, none⟩ = some (.map (some mb)) := h4
  unfold encStr
  clear hx h4 hM hR hn hrng ha hb
  go_enter Tryd.func37, Tryd.ntmps37
  go_wp2_with fail
  go_region_held3 (fun w' => w'.cell? ⟨xb, 0, none⟩ = some (.pointer (some ⟨ob, 0, none⟩)) ∧ w'.cell? ⟨ob, 4, none⟩ = some (.map (some mb)) ∧ (Instr.lookup 92 (.map (some mb)) (.string ⟨x.1.toArray⟩) false).run Tryd.prog w' = .ok (.int .u64 a) w' ∧ (Instr.lookup 92 (.map (some mb)) (.string ⟨y.1.toArray⟩) false).run Tryd.prog w' = .ok (.int .u64 b) w') ((exact ⟨hx', h4', hr1, hr2⟩)) (fail)
  go_wp2_with fail
  all_goals (go_ret; exact ⟨rfl, 1, rfl⟩)
end Go.Proofs.YtomnfkihieinbaaDoor.PAll
/- maps: what Entries gives: rows of entries; the keys in the order of their numbers. -/
set_option linter.unusedVariables false
set_option linter.unusedSimpArgs false
namespace Go.Proofs.YtomnfkihieinbaaDoor.PAll
open Go.RowKit Go.Shelf Go.Maps Go.Proofs.YtomnfkihieinbaaDoorW.PrintWords Go.Proofs.YtomnfkihieinbaaDoorW.PrintLast Go.Proofs.YtomnfkihieinbaaDoorW.PrintMore
/-! ### bytes of a call's own -/
def ByteS (X : World) (base : Nat) (v : Value) (l : List Int) : Prop := ∃ A c, v = .slice A l.length c ∧ l.length ≤ c ∧ l.length ≤ maxLen ∧ ((A = none ∧ l = []) ∨ ∃ g cur fr, A = some ⟨g, 0, none⟩ ∧ base ≤ g ∧ X.heap[g]? = some (.cells cur 5 fr) ∧ (fr = (0, 0) ∨ l.length ≤ fr.1) ∧ cur.toList.take l.length = l.map (Value.int .u8))
theorem ByteS.cell {X : World} {base g c : Nat} {l : List Int} {cur : Array Value} {fr : Nat × Nat} (hb : X.heap[g]? = some (.cells cur 5 fr)) (ht : cur.toList.take l.length = l.map (Value.int .u8)) (j : Nat) (hj : j < l.length) : X.cell? ⟨g, j, none⟩ = some (.int .u8 (rd l j)) := by
  have h1 : (cur.toList.take l.length)[j]? = (l.map (Value.int .u8))[j]? := by rw [ht]
  rw [List.getElem?_take_of_lt hj] at h1
  simp only [World.cell?, hb]
  simp only [Option.isSome_none, Bool.false_eq_true, if_false]
  rw [← Array.getElem?_toList, h1]
  rw [List.getElem?_map, List.getElem?_eq_getElem hj]
  unfold rd
  rw [Int.toNat_natCast, List.getD_eq_getElem?_getD, List.getElem?_eq_getElem hj]
  rfl
theorem ByteS.C {X : World} {base : Nat} {v : Value} {l : List Int} (h : ByteS X base v l) : ∃ A c, v = .slice A l.length c ∧ l.length ≤ c ∧ Kd.C (Kd.int .u8) X A l.length l := by
  obtain ⟨A, c, rfl, hc, hm, h⟩ := h
  refine ⟨A, c, rfl, hc, Kd.C_of_reads (d := (0 : Int)) ⟨rfl, by unfold maxLen at hm; omega, fun hn => ?_⟩⟩
  rcases h with ⟨rfl, rfl⟩ | ⟨g, cur, fr, rfl, _, hb, _, ht⟩
  · simp at hn
  · refine ⟨_, rfl, fun j hj => ?_⟩
    rw [add_plain, ByteS.cell (base := base) (c := c) hb ht j hj]
    unfold rd
    rw [Int.toNat_natCast]
theorem ByteS.keep {X X' : World} {base : Nat} {v : Value} {l : List Int} (h : ByteS X base v l) (hk : ∀ g, v.ownBlock = some g → g < X.heap.size → X'.heap[g]? = X.heap[g]?) : ByteS X' base v l := by
  obtain ⟨A, c, rfl, hc, hm, h⟩ := h
  refine ⟨A, c, rfl, hc, hm, ?_⟩
  rcases h with ⟨rfl, rfl⟩ | ⟨g, cur, fr, rfl, hg, hb, hf, ht⟩
  · exact .inl ⟨rfl, rfl⟩
  · exact .inr ⟨g, cur, fr, rfl, hg, (hk g rfl (Array.getElem?_eq_some_iff.1 hb).1).trans hb, hf, ht⟩
theorem ByteS.below {X X' : World} {base : Nat} {v : Value} {l : List Int} (h : ByteS X base v l) (hb : Below X.heap.size X X') : ByteS X' base v l := h.keep (fun g _ hl => hb.block g hl)
theorem ByteS.lower {X : World} {base base' : Nat} {v : Value} {l : List Int} (h : ByteS X base v l) (hb : base' ≤ base) : ByteS X base' v l := by
  obtain ⟨A, c, rfl, hc, hm, h⟩ := h
  refine ⟨A, c, rfl, hc, hm, ?_⟩
  rcases h with ⟨rfl, rfl⟩ | ⟨g, cur, fr, rfl, hg, h⟩
  · exact .inl ⟨rfl, rfl⟩
  · exact .inr ⟨g, cur, fr, rfl, Nat.le_trans hb hg, h⟩
theorem ByteS.own {X : World} {base : Nat} {v : Value} {l : List Int} (h : ByteS X base v l) (j : Nat) (hj : v.ownBlock = some j) : base ≤ j ∧ j < X.heap.size := by
  obtain ⟨A, c, rfl, hc, hm, h⟩ := h
  rcases h with ⟨rfl, rfl⟩ | ⟨g, cur, fr, rfl, hg, hb, _⟩
  · cases hj
  · obtain rfl : g = j := by simpa [Value.ownBlock] using hj
    exact ⟨hg, (Array.getElem?_eq_some_iff.1 hb).1⟩
theorem byteS_R {X : World} {base : Nat} {ok : Nat → Prop} {v : Value} {l : List Int} (h : Kd.R (Kd.int .u8) 5 X base ok v l) : ByteS X base v l := by
  have h := Kd.own_of_R h
  obtain ⟨h1, h2⟩ := h
  rcases h2 with ⟨rfl, h2⟩ | ⟨g, cap, cur, rfl, hg, hb, hn, hcm, hcs, ht⟩
  · rw [List.length_eq_zero_iff] at h2
    subst h2
    exact ⟨none, 0, rfl, Nat.le_refl _, Nat.zero_le _, .inl ⟨rfl, rfl⟩⟩
  · refine ⟨_, cap, rfl, hn, Nat.le_trans hn hcm, .inr ⟨g, cur, _, rfl, hg, hb, .inl rfl, ?_⟩⟩
    simpa [encs] using ht
/-- A string made bytes. -/
theorem byteS_conv (w : World) (base : Nat) (x : List UInt8) (hx : x.length ≤ maxLen) (hb : base ≤ w.heap.size) : ByteS (Lib.bytesWorld w 5 ⟨x.toArray⟩) base (.slice (some ⟨w.heap.size, 0, none⟩) (⟨x.toArray⟩ : ByteArray).size (grownCap w (⟨x.toArray⟩ : ByteArray).size 0 5)) (toInts x) := by
  have hsz : (⟨x.toArray⟩ : ByteArray).size = x.length := rfl
  rw [hsz]
  have hl : (toInts x).length = x.length := by unfold toInts; rw [List.length_map]
  refine ⟨_, grownCap w x.length 0 5, by rw [hl], by rw [hl]; exact grownCap_ge _ _ _ _, by rw [hl]; exact hx, .inr ⟨w.heap.size, _, _, rfl, hb, Lib.bytesWorld_at_new w _ _, .inr ?_, ?_⟩⟩
  · rw [hl]
    simp [Lib.bytesCells]
  · rw [hl]
    simp [Lib.bytesCells, toInts]
/-! ### entries -/
abbrev Ent := S42
def cellsE : List (Value × Value) → List Value
  | p :: ps => p.1 :: p.2 :: cellsE ps
  | [] => []
theorem cellsE_snoc : ∀ (vs : List (Value × Value)) (p : Value × Value), cellsE (vs ++ [p]) = cellsE vs ++ [p.1, p.2]
  | [], p => rfl
  | q :: vs, p => by simp [cellsE, cellsE_snoc vs p]
theorem cellsE_at : ∀ (vs : List (Value × Value)) (i : Nat) (p : Value × Value), vs[i]? = some p → (cellsE vs)[i * 2]? = some p.1 ∧ (cellsE vs)[i * 2 + 1]? = some p.2
  | [], i, p, h => by simp at h
  | q :: vs, 0, p, h => by simp at h; subst h; exact ⟨rfl, rfl⟩
  | q :: vs, i + 1, p, h => by
    have := cellsE_at vs i p (by simpa using h)
    rw [show (i + 1) * 2 = i * 2 + 1 + 1 by omega, show i * 2 + 1 + 1 + 1 = (i * 2 + 1) + 1 + 1 by omega]
    simpa [cellsE] using this
structure EntRow (X : World) (base : Nat) (v : Value) (vs : List (Value × Value)) (es : List Ent) : Prop where
  row : X.ownsRow base 42 2 v es.length (cellsE vs)
  len : vs.length = es.length
  ent : ∀ (j : Nat) p e, vs[j]? = some p → es[j]? = some e → ByteS X base p.1 e.f0 ∧ ByteS X base p.2 e.f1 ∧ (∀ g, p.1.ownBlock = some g ∨ p.2.ownBlock = some g → g < X.heap.size ∧ v.ownBlock ≠ some g) ∧ ∀ g, p.1.ownBlock = some g → p.2.ownBlock ≠ some g
theorem EntRow.nil (X : World) (base : Nat) : EntRow X base (.slice none 0 0) [] [] := ⟨World.ownsRow_nil _ _ _ _, rfl, fun j p e h => by simp at h⟩
theorem EntRow.keep {X X' : World} {base : Nat} {v : Value} {vs : List (Value × Value)} {es : List Ent} (h : EntRow X base v vs es) (hs : X.heap.size ≤ X'.heap.size) (hk : ∀ g, base ≤ g → g < X.heap.size → X'.heap[g]? = X.heap[g]?) : EntRow X' base v vs es := by
  refine ⟨row_keep h.row (fun k hk' => ?_), h.len, fun j p e hp he => ?_⟩
  · refine hk k ?_ (own_lt h.row k hk')
    rcases h.row.2 with ⟨rfl, _⟩ | ⟨g, cap, cur, rfl, hg, _⟩
    · cases hk'
    · cases hk'; exact hg
  · obtain ⟨h1, h2, h3, h4⟩ := h.ent j p e hp he
    have hB : ∀ {v : Value} {l : List Int}, ByteS X base v l → ByteS X' base v l := fun {v l} hb => by
      obtain ⟨A, c, rfl, hc, hm, hb⟩ := hb
      refine ⟨A, c, rfl, hc, hm, ?_⟩
      rcases hb with ⟨rfl, rfl⟩ | ⟨g, cur, fr, rfl, hg, hb, hf, ht⟩
      · exact .inl ⟨rfl, rfl⟩
      · exact .inr ⟨g, cur, fr, rfl, hg, (hk g hg (Array.getElem?_eq_some_iff.1 hb).1).trans hb, hf, ht⟩
    exact ⟨hB h1, hB h2, fun g hg => ⟨Nat.lt_of_lt_of_le (h3 g hg).1 hs, (h3 g hg).2⟩, h4⟩
theorem EntRow.below {X X' : World} {base : Nat} {v : Value} {vs : List (Value × Value)} {es : List Ent} (h : EntRow X base v vs es) (hb : Below X.heap.size X X') : EntRow X' base v vs es := h.keep hb.size (fun g _ hl => hb.block g hl)
theorem EntRow.lower {X : World} {base base' : Nat} {v : Value} {vs : List (Value × Value)} {es : List Ent} (h : EntRow X base v vs es) (hb : base' ≤ base) : EntRow X base' v vs es := ⟨own_weaken h.row hb, h.len, fun j p e hp he => by
  obtain ⟨h1, h2, h3, h4⟩ := h.ent j p e hp he
  exact ⟨h1.lower hb, h2.lower hb, h3, h4⟩⟩
theorem EntRow.snoc {X X' : World} {base : Nat} {v v' : Value} {vs : List (Value × Value)} {es : List Ent} {k w : Value} {e : Ent} (h : EntRow X base v vs es) (hr : X'.ownsRow base 42 2 v' (es.length + 1) (cellsE vs ++ [k, w])) (hg : X.grownBy X' v.ownBlock) (hv : v'.ownBlock = v.ownBlock ∨ v'.ownBlock = some X.heap.size)
    (h1 : ByteS X base k e.f0) (h2 : ByteS X base w e.f1) (h3 : ∀ g, k.ownBlock = some g ∨ w.ownBlock = some g → g < X.heap.size ∧ v.ownBlock ≠ some g) (h4 : ∀ g, k.ownBlock = some g → w.ownBlock ≠ some g) : EntRow X' base v' (vs ++ [(k, w)]) (es ++ [e]) := by
  have hnew : ∀ g, g < X.heap.size → v.ownBlock ≠ some g → g < X'.heap.size ∧ v'.ownBlock ≠ some g := fun g hl hne => by
    refine ⟨Nat.lt_of_lt_of_le hl hg.size, ?_⟩
    rcases hv with hv | hv <;> rw [hv]
    · exact hne
    · intro e
      cases e
      omega
  have hold : ∀ {u : Value} {l : List Int}, ByteS X base u l → (∀ g, u.ownBlock = some g → v.ownBlock ≠ some g) → ByteS X' base u l := fun {u l} hb hne => hb.keep (fun g hg' hl => hg.block g hl (fun e => hne g hg' e.symm))
  refine ⟨by rw [List.length_append, cellsE_snoc]; exact hr, by simp [h.len], fun j p e' hp he => ?_⟩
  rcases Nat.lt_or_ge j vs.length with hj | hj
  · rw [List.getElem?_append_left hj] at hp
    rw [List.getElem?_append_left (by rw [← h.len]; exact hj)] at he
    obtain ⟨g1, g2, g3, g4⟩ := h.ent j p e' hp he
    exact ⟨hold g1 (fun g hg' => (g3 g (.inl hg')).2), hold g2 (fun g hg' => (g3 g (.inr hg')).2), fun g hg' => hnew g (g3 g hg').1 (g3 g hg').2, g4⟩
  · rw [List.getElem?_append_right hj] at hp
    rw [List.getElem?_append_right (by rw [← h.len]; exact hj)] at he
    have hj0 : j - vs.length = 0 := by
      rcases Nat.eq_zero_or_pos (j - vs.length) with h | h
      · exact h
      · rw [List.getElem?_eq_none (by simp; omega)] at hp; cases hp
    rw [hj0] at hp
    rw [← h.len, hj0] at he
    cases hp
    cases he
    exact ⟨hold h1 (fun g hg' => (h3 g (.inl hg')).2), hold h2 (fun g hg' => (h3 g (.inr hg')).2), fun g hg' => hnew g (h3 g hg').1 (h3 g hg').2, h4⟩
theorem EntRow.C {X : World} {base : Nat} {v : Value} {vs : List (Value × Value)} {es : List Ent} (h : EntRow X base v vs es) : ∃ A c, v = .slice A es.length c ∧ es.length ≤ c ∧ Kd.C k42 X A es.length es := by
  have hr := h.row
  rcases hr.2 with ⟨rfl, hz⟩ | ⟨g, cap, cur, rfl, hg, hb, hn, hcm, hcs, ht⟩
  · refine ⟨none, 0, by rw [hz], by omega, rfl, by omega, fun hn => by omega⟩
  · refine ⟨_, cap, rfl, hn, rfl, by unfold maxLen at hcm; omega, fun _ => ⟨_, rfl, fun j e he => ?_⟩⟩
    have hj : j < vs.length := by rw [h.len]; exact (List.getElem?_eq_some_iff.1 he).1
    obtain ⟨g1, g2, _, _⟩ := h.ent j _ e (List.getElem?_eq_getElem hj) he
    obtain ⟨hc1, hc2⟩ := cellsE_at vs j _ (List.getElem?_eq_getElem hj)
    obtain ⟨A1, c1, e1, l1, k1⟩ := g1.C
    obtain ⟨A2, c2, e2, l2, k2⟩ := g2.C
    refine ⟨_, rfl, k42_mk X e l1 k1 l2 k2, fun i u hi => ?_⟩
    have hcell := hr.cells (g := g) rfl
    match i, hi with
    | 0, hi =>
      cases hi
      exact hcell _ _ (by rw [Nat.add_zero]; exact hc1.trans (by rw [e1]))
    | 1, hi =>
      cases hi
      exact hcell _ _ (hc2.trans (by rw [e2]))
    | i + 2, hi => simp at hi
/-! ### the keys in order -/
structure SInc (s : MapS) : Prop where
  inc : (s.ents.map (·.2)).Pairwise (· < ·)
  rng : ∀ e ∈ s.ents, 0 ≤ e.2 ∧ e.2 < s.next
  short : ∀ e ∈ s.ents, e.1.length ≤ 65536
def keysB (ents : List (List Int × Int)) : List (List UInt8) := ents.map fun e => kb e.1
theorem lookE_of {ents : List (List Int × Int)} (hnd : NoTwice ents) {e : List Int × Int} (he : e ∈ ents) : lookE ents e.1 = some e.2 := by
  induction ents with
  | nil => cases he
  | cons f ents ih =>
    unfold NoTwice at hnd
    rw [List.map_cons, List.nodup_cons] at hnd
    rcases List.mem_cons.1 he with rfl | he
    · simp [lookE]
    · have hne : f.1 ≠ e.1 := fun h => hnd.1 (h ▸ List.mem_map_of_mem he)
      have := ih hnd.2 he
      unfold lookE at this ⊢
      rw [List.find?_cons_of_neg (by simpa using hne)]
      exact this
theorem keysB_nodup {ents : List (List Int × Int)} (hnd : NoTwice ents) (hb : ∀ e ∈ ents, IsBytes e.1) : (keysB ents).Nodup := by
  unfold keysB
  unfold NoTwice at hnd
  rw [List.Nodup, List.pairwise_map] at hnd ⊢
  refine hnd.imp_of_mem (fun {a b} ha hb' hne h => hne ?_)
  rw [← kb_toInts a.1 (hb a ha), ← kb_toInts b.1 (hb b hb'), h]
theorem mem_keysB {ents : List (List Int × Int)} (hb : ∀ e ∈ ents, IsBytes e.1) (x : List UInt8) : x ∈ keysB ents ↔ (lookE ents (toInts x)).isSome = true := by
  rw [lookE_mem]
  unfold keysB
  rw [List.mem_map, List.mem_map]
  constructor
  · rintro ⟨e, he, rfl⟩
    exact ⟨e, he, (kb_toInts e.1 (hb e he)).symm⟩
  · rintro ⟨e, he, h⟩
    refine ⟨e, he, ?_⟩
    unfold kb
    rw [h]
    exact strOf_toInts x
theorem keys_sorted {D : DataW Unit} {s : MapS} (hm : MRel D s.ents) (hnd : NoTwice s.ents) (hi : SInc s) {ks : List Key} {left : Lit → Bool} (hC : Collected D left (ks.map (·.1))) (hl : ∀ kl, left kl = false) {d' : Array Key}
    (hP : Go.Sort.PermIn 0 ks.toArray.size ks.toArray d') (hS : Go.Sort.SortedIn (ltOf (cmpK s.ents)) 0 ks.toArray.size d') : d'.toList.map (·.1) = keysB s.ents := by
  obtain ⟨hsz, _, hperm⟩ := hP
  have e1 : d'.extract 0 ks.toArray.size = d' := by rw [← hsz]; exact Array.extract_size
  rw [e1, Array.extract_size] at hperm
  have hp1 : (d'.toList.map (·.1)).Perm (ks.map (·.1)) := hperm.map _
  have hp2 : (ks.map (·.1)).Perm (keysB s.ents) := by
    refine (List.perm_ext_iff_of_nodup hC.1 (keysB_nodup hnd hm.wf)).2 fun x => ?_
    rw [hC.2 x, hl, mem_keysB hm.wf, ← kl_toInts x, hm.has _ (toInts_bytes x)]
    simp
  refine List.Perm.eq_of_pairwise (le := fun x y => numU s.ents x ≤ numU s.ents y) (fun a b ha hb h1 h2 => ?_) ?_ ?_ (hp1.trans hp2)
  · have ha' : a ∈ keysB s.ents := (hp1.trans hp2).subset ha
    obtain ⟨ea, hea, rfl⟩ := List.mem_map.1 ha'
    obtain ⟨eb, heb, rfl⟩ := List.mem_map.1 hb
    unfold numU at h1 h2
    rw [kb_toInts _ (hm.wf ea hea), kb_toInts _ (hm.wf eb heb), lookE_of hnd hea, lookE_of hnd heb] at h1 h2
    have heq : ea.2 = eb.2 := Int.le_antisymm h1 h2
    have hinc := hi.inc
    rw [List.pairwise_map, List.pairwise_iff_getElem] at hinc
    obtain ⟨i, hil, rfl⟩ := List.mem_iff_getElem.1 hea
    obtain ⟨j, hjl, rfl⟩ := List.mem_iff_getElem.1 heb
    rcases Nat.lt_trichotomy i j with h | h | h
    · have := hinc i j hil hjl h; omega
    · subst h; rfl
    · have := hinc j i hjl hil h; omega
  · rw [List.pairwise_map, List.pairwise_iff_getElem]
    intro i j hi' hj' hij
    have hi2 : i < d'.size := by simpa using hi'
    have hj2 : j < d'.size := by simpa using hj'
    have := hS i j (Nat.zero_le _) hij (by rw [← hsz]; exact hj2)
    rw [getElem!_pos d' j hj2, getElem!_pos d' i hi2] at this
    have h : ¬ numU s.ents d'[j].1 - numU s.ents d'[i].1 < 0 := of_decide_eq_false this
    rw [Array.getElem_toList, Array.getElem_toList]
    omega
  · unfold keysB
    rw [List.pairwise_map]
    have hinc := hi.inc
    rw [List.pairwise_map] at hinc
    refine hinc.imp_of_mem (fun {a b} ha hb h => ?_)
    unfold numU
    rw [kb_toInts _ (hm.wf a ha), kb_toInts _ (hm.wf b hb), lookE_of hnd ha, lookE_of hnd hb]
    exact Int.le_of_lt h
end Go.Proofs.YtomnfkihieinbaaDoor.PAll
/- maps: Entries, the walk. -/
set_option linter.unusedVariables false
set_option linter.unusedSimpArgs false
namespace Go.Proofs.YtomnfkihieinbaaDoor.PAll
open Go.RowKit Go.Shelf Go.Maps Go.Proofs.YtomnfkihieinbaaDoorW.PrintWords Go.Proofs.YtomnfkihieinbaaDoorW.PrintLast Go.Proofs.YtomnfkihieinbaaDoorW.PrintMore
set_option maxHeartbeats 1000000 in
set_option maxRecDepth 100000 in
theorem entries_bad (X : World) (own : Nat → Prop) (t m : Nat) (v : Value) (ps : List (Nat × Nat)) (S : List MapS) (i : Int) (h : (MP t m v ps S).at_ X own) (hl : ps.length ≤ 100000) (hb : getP ps i = none) :
    Calls Tryd.prog 13 #[.pointer (some ⟨t, 0, none⟩), .int .i64 i] X fun e X' => e = .returned (.slice none 0 0) ∧ Below X.heap.size X X' := by
  have HG := Aside0.mk (get_c X own t m v ps S i h hl)
  rw [hb] at HG
  unfold ptrO at HG
  clear h hb
  go_enter Tryd.func13, Tryd.ntmps13
  go_wp2_with fail
  refine HG.out.mono ?_
  rintro e X' ⟨rfl, rfl⟩
  go_wp2_with fail
  go_ret
  exact ⟨rfl, Below.alloc (Below.refl _ _) (Nat.le_refl _) _⟩
def entsF (s : MapS) (K : List Reg) (i : Int) : List Ent := s.ents.map fun e => ⟨e.1, (bytesF K (addrF i e.2) s.value).getD []⟩
theorem om_keep {X X' : World} {b n : Nat} {D : DataW Unit} (h : X.ownsMap Tryd.prog 9 (plainElem Tryd.prog 30) b n D) (hk : X'.heap[b]? = X.heap[b]?) : X'.ownsMap Tryd.prog 9 (plainElem Tryd.prog 30) b n D := by
  obtain ⟨es, clock, hb, F, hn, he⟩ := h
  exact ⟨es, clock, hk.trans hb, F, hn, he⟩
theorem cell_keep {X X' : World} {g o : Nat} {v : Value} (h : X.cell? ⟨g, o, none⟩ = some v) (hk : X'.heap[g]? = X.heap[g]?) : X'.cell? ⟨g, o, none⟩ = some v := by
  unfold World.cell? at h ⊢
  rw [hk]
  exact h
/-- The sort of the keys. -/
theorem sortKeys_c (W : World) (base xb ob mb : Nat) (D : DataW Unit) (s : MapS) (v : Value) (ks : List Key) (left : Lit → Bool) (hrow : W.ownsRow base 9 1 v ks.length (ks.map encK)) (hx : W.cell? ⟨xb, 0, none⟩ = some (.pointer (some ⟨ob, 0, none⟩))) (h4 : W.cell? ⟨ob, 4, none⟩ = some (.map (some mb)))
    (hM : W.ownsMap Tryd.prog 9 (plainElem Tryd.prog 30) mb (Maps.size D) D) (hR : MRel D s.ents) (hxb : xb < base) (hob : ob < base) (hmb : mb < base) (hbase : base ≤ W.heap.size) (hnd : NoTwice s.ents) (hn1 : s.next < 4294967296) (hsi : SInc s) (hC : Collected D left (ks.map (·.1))) (hl : ∀ kl, left kl = false) (hlen : ks.length ≤ 1000000) :
    Calls Tryd.prog 36 #[v, .func (.func 37) #[] #[.pointer (some ⟨xb, 0, none⟩)]] W fun e w' => e = .returned (.tuple #[]) ∧ w'.ownsRow base 9 1 v s.ents.length ((keysB s.ents).map encStr) ∧ Below base W w' := by
  have hkl : ks.length = s.ents.length := by
    have hp2 : (ks.map (·.1)).Perm (keysB s.ents) := by
      refine (List.perm_ext_iff_of_nodup hC.1 (keysB_nodup hnd hR.wf)).2 fun x => ?_
      rw [hC.2 x, hl, mem_keysB hR.wf, ← kl_toInts x, hR.has _ (toInts_bytes x)]
      simp
    have := hp2.length_eq
    unfold keysB at this
    simpa using this
  by_cases h0 : ks = []
  · subst h0
    obtain ⟨A, c, rfl⟩ := own_slice hrow
    have hS := AnyF.slices_SortFunc_none (P := Tryd.prog) (ρ := Tryd.laysSort_ren) { Tryd.laysSort with } A c (.func (.func 37) #[] #[.pointer (some ⟨xb, 0, none⟩)]) W
    change Calls Tryd.prog 36 _ _ _ at hS
    refine hS.mono ?_
    rintro e w' ⟨rfl, rfl⟩
    have he : s.ents = [] := List.eq_nil_of_length_eq_zero hkl.symm
    rw [he]
    exact ⟨rfl, hrow, Below.refl _ _⟩
  · rcases hrow.2 with ⟨_, hz⟩ | ⟨g, cap, cur, rfl, hg, hb, h1, h2, h3, ht⟩
    · exact absurd (List.eq_nil_of_length_eq_zero hz) h0
    have eg : ∀ args w, (callFunc 37 args).run Tryd.prog w = .ok (.enter 37 args) w := enters_of Tryd.func37 (by kernel_rfl) rfl
    have hH : Go.Sort.Holds encK W g 0 ks.toArray := holds_of_blockG encK hb (by rw [Nat.mul_one] at ht; exact ht)
    have hgl : g < W.heap.size := (Array.getElem?_eq_some_iff.1 hb).1
    have hrng : ∀ e ∈ s.ents, 0 ≤ e.2 ∧ e.2 < 4294967296 := fun e he => by
      have := hsi.rng e he
      omega
    have hcmp : CmpLays1 Tryd.prog 37 #[.pointer (some ⟨xb, 0, none⟩)] encK (cmpK s.ents) g 0 ks.toArray.size W := fun m os dk hs x y => by
      have hgr : W.grownBy (sortWorld encK W g 0 m dk os) (some g) := grownBy_sortedG encK dk
      have hbk : ∀ k, k < base → (sortWorld encK W g 0 m dk os).heap[k]? = W.heap[k]? := fun k hk => hgr.block k (by omega) (fun e => by cases e; omega)
      refine (cmp_c _ xb ob mb D s.ents (cell_keep hx (hbk xb hxb)) (cell_keep h4 (hbk ob hob)) (om_keep hM (hbk mb hmb)) hR hrng x y).mono ?_
      rintro e w' ⟨he, q, rfl⟩
      exact ⟨he, q, #[], by rw [Go.Sort.grow_empty]⟩
    have hS := Any.slices_SortFunc Tryd.laysSort encK (fun _ => rfl) (cmpK s.ents) (swoK s.ents) 37 #[.pointer (some ⟨xb, 0, none⟩)] g 0 cap ks.toArray W eg hcmp hH hgl (by simp; omega)
    change Calls Tryd.prog 36 _ _ _ at hS
    refine hS.mono ?_
    rintro e w' ⟨rfl, d', nn, os, hP, hSo, rfl⟩
    have hk := keys_sorted hR hnd hsi hC hl hP hSo
    have hgr : W.grownBy (sortWorld encK W g 0 nn d' os) (some g) := grownBy_sortedG encK d'
    have hdl : d'.toList.length = ks.length := by have := hP.1; simpa using this
    have hro := ownsRow_sortedG (n := nn) (os := os) encK (ss := ks) (ts := d'.toList) hdl hg hb h1 h2 h3
    refine ⟨rfl, ?_, (Below.refl _ _).grown hgr hbase (fun j hj => by cases hj; exact hg)⟩
    rw [← hk, ← hkl, List.map_map]
    exact hro
end Go.Proofs.YtomnfkihieinbaaDoor.PAll
/- maps: Entries, the walk. -/
set_option linter.unusedVariables false
set_option linter.unusedSimpArgs false
namespace Go.Proofs.YtomnfkihieinbaaDoor.PAll
open Go.RowKit Go.Shelf Go.Maps Go.Proofs.YtomnfkihieinbaaDoorW.PrintWords Go.Proofs.YtomnfkihieinbaaDoorW.PrintLast Go.Proofs.YtomnfkihieinbaaDoorW.PrintMore
theorem infoStr : (Tryd.prog.info? 9).map (fun i => (i.zero, i.size, i.bytes)) = some (some (.string ⟨#[]⟩), 1, 16) := by kernel_rfl
theorem wk {k n : Nat} (h : k < n) (hn : n ≤ 1000000) : wrap64 ((k : Int) + 1) = ((k + 1 : Nat) : Int) := by unfold wrap64; omega
theorem infoEnt : (Tryd.prog.info? 42).map (fun i => (i.zero, i.size, i.bytes)) = some (some (.agg #[.slice none 0 0, .slice none 0 0]), 2, 48) := by kernel_rfl
set_option maxHeartbeats 4000000 in
set_option maxRecDepth 100000 in
theorem entries_some (X : World) (fr : Nat → Prop) (t m : Nat) (v : Value) (ps : List (Nat × Nat)) (S : List MapS) (K : List Reg) (n : Nat) (p : Nat × Nat) (s : MapS) (h : Has X fr ((MP t m v ps S).and (PM m K))) (hl : ps.length ≤ 100000) (hps : ps.length = S.length) (hK : K.length ≤ 999999) (hp : ps[n]? = some p) (hs : S[n]? = some s) (hso : SOk s) (hsi : SInc s) (hv0 : 0 ≤ s.value) (hv1 : s.value ≤ 4294967296) :
    Calls Tryd.prog 13 #[.pointer (some ⟨t, 0, none⟩), .int .i64 n] X fun e X' => (∃ vR vs, e = .returned vR ∧ EntRow X' X.heap.size vR vs (entsF s K n)) ∧ Below X.heap.size X X' := by
  obtain ⟨o1, f1, hMP, hPM⟩ := h.swap.part
  have HG := Aside0.mk (get_c X o1 t m v ps S n hMP hl)
  rw [show getP ps (n : Int) = some p by unfold getP; rw [if_pos (by omega), Int.toNat_natCast]; exact hp] at HG
  unfold ptrO at HG
  obtain ⟨D, hone, hown, hrel, _, _, hne⟩ := mp_one hMP hp hs
  obtain ⟨_, _, hv, _, hmem, _, htl, _⟩ := mp_head hMP
  obtain ⟨_, _, hval, _, hmb, _, _⟩ := one_cell hone
  obtain ⟨ob, mb⟩ := p
  have HM := Aside0.mk hown
  have HR := Aside0.mk hrel
  have HP := Aside0.mk h
  have hobl : ob < X.heap.size := (Array.getElem?_eq_some_iff.1 hone).1
  have hmbl : mb < X.heap.size := hown.lt
  have HS : Aside0 (Maps.size D ≤ 1000000) := ⟨by rw [hrel.size]; exact hso.len⟩
  dsimp only at hobl hmbl hmb hval hne
  have HVAL := Aside0.mk hval
  have HMEM := Aside0.mk hmem
  have HSO := Aside0.mk hso
  have HSI := Aside0.mk hsi
  have HKN := Aside0.mk hK
  clear h hMP hPM hp hs hone hown hrel hv hl hps hso hsi hK
  go_enter Tryd.func13, Tryd.ntmps13
  go_wp2_with fail
  refine HG.out.mono ?_
  rintro e X' ⟨rfl, rfl⟩
  obtain ⟨i0, hi, hz0, hz1, hz2⟩ := info_parts infoStr
  have HM1 : Aside0 ((X.alloc (.cells #[.pointer (some ⟨ob, 0, none⟩)] 89)).ownsMap Tryd.prog 9 (plainElem Tryd.prog 30) mb (Maps.size D) D) := ⟨HM.out.alloc _⟩
  have HB1 : Aside0 (Below X.heap.size X (X.alloc (.cells #[.pointer (some ⟨ob, 0, none⟩)] 89))) := ⟨Below.alloc (Below.refl _ _) (Nat.le_refl _) _⟩
  have HX1 : Aside0 ((X.alloc (.cells #[.pointer (some ⟨ob, 0, none⟩)] 89)).heap[X.heap.size]? = some (.cells #[.pointer (some ⟨ob, 0, none⟩)] 89 (0, 0))) := ⟨heap_alloc_new X _⟩
  go_wp2_with (first
    | (at_range; refine wpList_range_own _ rfl _ 92 rfl 9 30 strLaw Tryd.underlying92 _ mb (Maps.size D) D rfl HM1.out ?_; intro w0 hrg0 hg0 hs0))
  have hrz : (X.alloc (.cells #[.pointer (some ⟨ob, 0, none⟩)] 89)).heap.size = X.heap.size + 1 := by simp
  rw [hrz] at hrg0 ⊢
  obtain ⟨W1, hW1⟩ : ∃ W, X.alloc (.cells #[.pointer (some ⟨ob, 0, none⟩)] 89) = W := ⟨_, rfl⟩
  rw [hW1] at hg0 hs0 HM1 HB1 HX1 hrz
  have HWS : Aside0 (W1.heap.size = X.heap.size + 1) := ⟨hrz⟩
  clear hrz
  clear hW1
  go_frame
  go_loopw [6] (fun v wr => ∃ (left : Lit → Bool) (cnt : Nat) (ks : List Key), wr.ranges Tryd.prog 9 (plainElem Tryd.prog 30) mb (X.heap.size + 1) (Maps.size D) D left cnt ∧ ks.length + cnt ≤ Maps.size D ∧
      wr.ownsRow (X.heap.size + 1) 9 1 v ks.length (ks.map encK) ∧ Aside0 (Collected D left (ks.map (·.1))) ∧ Aside0 (Below (X.heap.size + 1) W1 wr))
    (fun _ wr => wr.rangeLeft mb (X.heap.size + 1))
  case atStart =>
    exact ⟨_, _, [], hrg0, by simp, World.ownsRow_nil _ _ _ _, ⟨Collected.start D⟩, ⟨(Below.refl _ _).grown hg0 (by rw [HWS.out]; exact Nat.le_refl _) (fun j hj => by cases hj)⟩⟩
  case round =>
    obtain ⟨left, cnt, ks, hrg, hcs, hrow, HC, HB⟩ := hrel
    go_wp2_with (first
      | (at_next; refine wpList_next_ranges _ rfl _ rfl 9 strLaw (plainElem Tryd.prog 30) encStr (Value.int .u64) (fun key kl hk => by obtain ⟨x, hx, _⟩ := Maps.keyOf_str Tryd.underlying9 hk; exact ⟨x, hx⟩) (fun v y hv => by obtain ⟨c, rfl, _⟩ := plainElem_int_inv Tryd.underlying30 hv; exact ⟨c, rfl⟩) mb (X.heap.size + 1) (Maps.size D) _ _ _ rfl hrg ?_ ?_))
    · -- nothing is left
      intro hc0 hl0
      have hsz : X.heap.size + 1 ≤ wr.heap.size := by have h1 := HB.out.size; have h0 := HWS.out; omega
      have hbk : ∀ k, k < X.heap.size → wr.heap[k]? = X.heap[k]? := fun k hk => (HB.out.block k (by omega)).trans (HB1.out.block k hk)
      have hbx : wr.heap[X.heap.size]? = some (.cells #[.pointer (some ⟨ob, 0, none⟩)] 89 (0, 0)) := (HB.out.block _ (by omega)).trans HX1.out
      have HSRT := Aside0.mk (sortKeys_c wr (X.heap.size + 1) X.heap.size ob mb D s u6 ks left hrow (blk1 hbx).1 (cell_keep hmb (hbk ob hobl)) (om_keep HM.out (hbk mb hmbl)) HR.out (by omega) (by omega) (by omega) hsz HSO.out.nd HSO.out.n1 HSI.out HC.out hl0 (by have := HS.out; omega))
      have HBX := Aside0.mk (show Below X.heap.size X wr from ⟨HB.out.os.trans HB1.out.os, HB.out.tape.trans HB1.out.tape, HB.out.output.trans HB1.out.output, by omega, hbk⟩)
      have HBXB := Aside0.mk hbx
      have HSZ := Aside0.mk hsz
      clear hrg hcs hrow HC HB hrg0 hg0 hs0 HM1 HB1 HX1 HWS hbk hbx hsz hc0 hl0
      go_wp2_with fail
      refine HSRT.out.mono ?_
      rintro e w4 ⟨rfl, hr4, hb4⟩
      have hks : (keysB s.ents).length = s.ents.length := by unfold keysB; rw [List.length_map]
      obtain ⟨A6, c6, rfl⟩ := own_slice hr4
      have HS4 := Aside0.mk (show X.heap.size + 1 ≤ w4.heap.size from Nat.le_trans HSZ.out hb4.size)
      have HBX4 : Aside0 (Below X.heap.size X w4) := ⟨HBX.out.trans (hb4.mono (Nat.le_succ _))⟩
      have HBOX : Aside0 (w4.heap[X.heap.size]? = some (.cells #[.pointer (some ⟨ob, 0, none⟩)] 89 (0, 0))) := ⟨(hb4.block _ (by omega)).trans HBXB.out⟩
      have HR4 := Aside0.mk hr4
      have HLEN := Aside0.mk (show s.ents.length ≤ 1000000 from HSO.out.len)
      obtain ⟨i1, hi1, hj0, hj1, hj2⟩ := info_parts infoEnt
      clear hi hz0 hz1 hz2 hr4 hb4 HSRT HBX HBXB HSZ HS
      have HQ : Aside0 (∀ Z, Below w4.heap.size w4 Z → Z.cell? ⟨t, 1, none⟩ = some (.pointer (some ⟨m, 0, none⟩)) ∧ Z.cell? ⟨X.heap.size, 0, none⟩ = some (.pointer (some ⟨ob, 0, none⟩)) ∧ Z.cell? ⟨ob, 4, none⟩ = some (.map (some mb)) ∧ Z.cell? ⟨ob, 2, none⟩ = some (.int .i64 s.value) ∧
          ∀ x : List UInt8, x.length ≤ maxLen → (Instr.lookup 92 (.map (some mb)) (.string ⟨x.toArray⟩) false).run Tryd.prog Z = .ok (.int .u64 (numU s.ents x)) Z) := ⟨fun Z hZ => by
        have h4 := HS4.out
        have hb : ∀ k, k < X.heap.size → Z.heap[k]? = X.heap[k]? := fun k hk => (hZ.block k (by omega)).trans (HBX4.out.block k hk)
        have hx : Z.heap[X.heap.size]? = some (.cells #[.pointer (some ⟨ob, 0, none⟩)] 89 (0, 0)) := (hZ.block _ (by omega)).trans HBOX.out
        exact ⟨cell_keep HMEM.out (hb t htl), (blk1 hx).1, cell_keep hmb (hb ob hobl), cell_keep HVAL.out (hb ob hobl), fun x hx => num_run (om_keep HM.out (hb mb hmbl)) HR.out x hx⟩⟩
      go_wp2_with fail
      go_loopw [8, 36] (fun v8 v36 w => ∃ (k : Nat) (vs : List (Value × Value)), k ≤ s.ents.length ∧ v36 = .int .i64 k ∧ Aside0 (Below w4.heap.size w4 w) ∧ Aside0 (EntRow w w4.heap.size v8 vs ((entsF s K n).take k))) (fun _ v36 _ => s.ents.length - (intOf v36).toNat)
      case atStart => exact ⟨0, [], Nat.zero_le _, rfl, ⟨Below.refl _ _⟩, ⟨EntRow.nil _ _⟩⟩
      case round =>
        obtain ⟨k, vs, hk, rfl, HBK, HE⟩ := hrel
        by_cases hlt : k < s.ents.length
        · have hke : s.ents[k]? = some s.ents[k] := List.getElem?_eq_getElem hlt
          obtain ⟨e, hee⟩ : ∃ e, s.ents[k]? = some e := ⟨_, hke⟩
          have hem : e ∈ s.ents := List.mem_of_getElem? hee
          obtain ⟨g6, cap6, hv6, hc6, _⟩ := row_cell (HR4.out) (i := k) (u := encStr (kb e.1)) (by rw [List.getElem?_map]; unfold keysB; rw [List.getElem?_map, hee]; rfl)
          cases hv6
          have hg6 : g6 < w4.heap.size := World.block_lt_of_cell? w4 _ hc6
          have hkey := cell_keep hc6 (HBK.out.block g6 hg6)
          have hkbl : (kb e.1).length ≤ 65536 := by
            have := HSI.out.short e hem
            unfold kb
            rw [strOfNums_data]
            simpa using this
          have hnum : numU s.ents (kb e.1) = e.2 := by
            unfold numU
            rw [kb_toInts _ (HR.out.wf e hem), lookE_of HSO.out.nd hem]
            rfl
          obtain ⟨kv, hkv⟩ : ∃ kv, encStr (kb e.1) = kv := ⟨_, rfl⟩
          rw [hkv] at hkey
          have HKV := Aside0.mk hkv
          have HNX : Aside0 ((entsF s K n).take (k + 1) = (entsF s K n).take k ++ [⟨e.1, (bytesF K (addrF n e.2) s.value).getD []⟩]) := ⟨by
            unfold entsF
            rw [← List.map_take, ← List.map_take, List.take_add_one, hee]
            simp⟩
          obtain ⟨ev, hev⟩ : ∃ ev : List Int, (bytesF K (addrF n e.2) s.value).getD [] = ev := ⟨_, rfl⟩
          rw [hev] at HNX
          have HEV := Aside0.mk hev
          have HS14 : Aside0 (∀ Z, Below w4.heap.size w4 Z → Z.cell? ⟨t, 1, none⟩ = some (.pointer (some ⟨m, 0, none⟩)) ∧ Z.cell? ⟨X.heap.size, 0, none⟩ = some (.pointer (some ⟨ob, 0, none⟩)) ∧ Z.cell? ⟨ob, 4, none⟩ = some (.map (some mb)) ∧ Z.cell? ⟨ob, 2, none⟩ = some (.int .i64 s.value) ∧
              (Instr.lookup 92 (.map (some mb)) kv false).run Tryd.prog Z = .ok (.int .u64 e.2) Z) := ⟨fun Z hZ => by
            obtain ⟨q1, q2, q3, q4, q5⟩ := HQ.out Z hZ
            refine ⟨q1, q2, q3, q4, ?_⟩
            rw [← HKV.out, ← hnum]
            exact q5 _ (by unfold maxLen; omega)⟩
          have HBYT : Aside0 (∀ Z, Below w4.heap.size w4 Z → Calls Tryd.prog 22 #[.pointer (some ⟨m, 0, none⟩), .int .u64 (addrF n e.2), .int .i64 s.value] Z fun e' Z' => (∃ b v', e' = .returned (.tuple #[v', .bool b]) ∧ Aside0 (ByteS Z' Z.heap.size v' ev)) ∧
              (Z'.cell? ⟨t, 1, none⟩ = some (.pointer (some ⟨m, 0, none⟩)) ∧ Z'.cell? ⟨X.heap.size, 0, none⟩ = some (.pointer (some ⟨ob, 0, none⟩)) ∧ Z'.cell? ⟨ob, 4, none⟩ = some (.map (some mb)) ∧ Z'.cell? ⟨ob, 2, none⟩ = some (.int .i64 s.value) ∧
              (Instr.lookup 92 (.map (some mb)) kv false).run Tryd.prog Z' = .ok (.int .u64 e.2) Z') ∧ Aside0 (Below Z.heap.size Z Z')) := ⟨fun Z hZ => by
            have hP : Has Z fr (PM m K) := (HP.out.swap.left).below (HBX4.out.trans (hZ.mono (by have := HBX4.out.size; exact this)))
            obtain ⟨ha0, ha1⟩ := addr_range n e.2
            refine (pm_bytes Z fr m K (addrF n e.2) s.value hP HKN.out ha0 ha1 (by omega) (by omega)).mono ?_
            rintro e' Z' ⟨hb, v', rfl, hv⟩
            rw [HEV.out] at hv
            exact ⟨⟨_, v', rfl, ⟨byteS_R hv⟩⟩, HS14.out Z' (hZ.trans (hb.mono hZ.size)), ⟨hb⟩⟩⟩
          have HBY : Aside0 (IsBytes e.1) := ⟨HR.out.wf e hem⟩
          clear hke hee hem hc6 hv0 hv1 hkv hev hnum
          go_wp2_with fail
          go_region_held3 (fun w' => w'.cell? ⟨t, 1, none⟩ = some (.pointer (some ⟨m, 0, none⟩)) ∧ w'.cell? ⟨X.heap.size, 0, none⟩ = some (.pointer (some ⟨ob, 0, none⟩)) ∧ w'.cell? ⟨ob, 4, none⟩ = some (.map (some mb)) ∧ w'.cell? ⟨ob, 2, none⟩ = some (.int .i64 s.value) ∧ (Instr.lookup 92 (.map (some mb)) kv false).run Tryd.prog w' = .ok (.int .u64 e.2) w')
            (first | assumption | exact HS14.out _ (HBK.out.trans (by repeat (first | exact Below.refl _ _ | apply below_drew | apply pw_below_drewN))))
            (first | (go_at_call 35; refine (addr_c _ _ _).mono ?_; rintro e5 w5 ⟨rfl, k5, rfl⟩) | (go_at_call 22; refine (HBYT.out _ (HBK.out.trans (by repeat (first | exact Below.refl _ _ | apply below_drew | apply pw_below_drewN)))).mono ?_; rintro e6 w6 ⟨⟨b6, v6, rfl, HV6⟩, hct6, HB6⟩))
          have HBW6 : Aside0 (Below wr.heap.size wr w6) := ⟨below_then (by repeat (first | exact Below.refl _ _ | apply below_drew | apply pw_below_drewN)) (by exact Nat.le_refl _) HB6.out⟩
          obtain ⟨Av, cv, hv6e, _, _⟩ := HV6.out.C
          subst hv6e
          have HAV0 : Aside0 (∀ j, (Value.slice Av ev.length cv).ownBlock = some j → wr.heap.size ≤ j ∧ j < w6.heap.size) := ⟨fun j hj => HV6.out.own j hj⟩
          obtain ⟨ck, W7, hcv, HK7, HB7, HS7⟩ : ∃ ck W7, (convert 9 26 kv).run Tryd.prog w6 = .ok (.slice (some ⟨w6.heap.size, 0, none⟩) e.1.length ck) W7 ∧ Aside0 (ByteS W7 w4.heap.size (.slice (some ⟨w6.heap.size, 0, none⟩) e.1.length ck) e.1) ∧ Aside0 (Below w6.heap.size w6 W7) ∧ Aside0 (W7.heap.size = w6.heap.size + 1) := by
            have hx := byteS_conv w6 w4.heap.size (kb e.1) (by unfold maxLen; omega) (Nat.le_trans HBK.out.size HBW6.out.size)
            have hsz : (⟨(kb e.1).toArray⟩ : ByteArray).size = e.1.length := by
              show (kb e.1).toArray.size = _
              unfold kb
              rw [strOfNums_data]
              simp
            rw [kb_toInts _ HBY.out, hsz] at hx
            have hr := Lib.run_convert_string_bytes (P := Tryd.prog) w6 9 26 5 ⟨(kb e.1).toArray⟩ Tryd.underlying9 Tryd.underlying26 Tryd.underlying5
            rw [hsz] at hr
            refine ⟨_, _, ?_, ⟨hx⟩, ⟨⟨rfl, rfl, rfl, by rw [Lib.bytesWorld_size]; omega, fun j hj => Lib.bytesWorld_at_old w6 _ _ j hj⟩⟩, ⟨Lib.bytesWorld_size w6 _ _⟩⟩
            rw [← HKV.out]
            exact hr
          have HE7 : Aside0 (EntRow W7 w4.heap.size u8 vs ((entsF s K n).take k)) := ⟨(HE.out.below HBW6.out).below HB7.out⟩
          have HV7 : Aside0 (ByteS W7 w4.heap.size (.slice Av ev.length cv) ev) := ⟨(HV6.out.below HB7.out).lower (Nat.le_trans HBK.out.size (by exact Nat.le_refl _))⟩
          have HLT : Aside0 (((entsF s K n).take k).length + 1 ≤ 1000000) := ⟨by
            have h1 := HLEN.out
            rw [List.length_take]
            omega⟩
          have HB47 : Aside0 (w4.heap.size ≤ (W7.alloc (.cells #[.slice (some ⟨w6.heap.size, 0, none⟩) e.1.length ck, .slice Av ev.length cv] 42)).heap.size) := ⟨by
            have h1 := HBK.out.size
            have h2 := HBW6.out.size
            have h3 := HS7.out
            simp
            omega⟩
          go_wp2_with (first
            | (at_builtin; refine wpList_append_own_at _ rfl _ _ 37 rfl w4.heap.size 42 i1 _ 2 48 Tryd.underlying37 hi1 hj0 hj1 hj2 rfl (by decide) _ _ _ rfl (HE7.out.row.alloc _) ⟨W7.heap.size, 0, none⟩ 1 1 [.slice (some ⟨w6.heap.size, 0, none⟩) e.1.length ck, .slice Av ev.length cv] rfl rfl (World.news_of_block (heap_alloc_new _ _)) (by intro u hu; simp at hu; rcases hu with rfl | rfl <;> rfl) (by have h1 := HLT.out; unfold maxLen; omega) (by have h1 := HLT.out; omega) HB47.out ?_; intro v8 w8 hown8 hg8 hnil8 hloc8))
          have hwk : wrap64 ((k : Int) + 1) = ((k + 1 : Nat) : Int) := wk hlt HLEN.out
          rw [hwk]
          have HAV := Aside0.mk HAV0.out
          have HBR := Aside0.mk (fun j (hj : u8.ownBlock = some j) => own_base HE7.out.row j hj)
          have HRL := Aside0.mk (fun j (hj : u8.ownBlock = some j) => own_lt HE.out.row j hj)
          have HBK7 : Aside0 (Below w4.heap.size w4 (W7.alloc (.cells #[.slice (some ⟨w6.heap.size, 0, none⟩) e.1.length ck, .slice Av ev.length cv] 42))) := ⟨((HBK.out.trans (HBW6.out.mono HBK.out.size)).trans (HB7.out.mono (Nat.le_trans HBK.out.size HBW6.out.size))).alloc (Nat.le_trans (Nat.le_trans HBK.out.size HBW6.out.size) HB7.out.size) _⟩
          refine ⟨⟨k + 1, vs ++ [(.slice (some ⟨w6.heap.size, 0, none⟩) e.1.length ck, .slice Av ev.length cv)], hlt, rfl, ⟨HBK7.out.grown hg8 HB47.out HBR.out⟩, ⟨?_⟩⟩, ?_⟩
          · rw [HNX.out]
            have hsz8 : (W7.alloc (.cells #[.slice (some ⟨w6.heap.size, 0, none⟩) e.1.length ck, .slice Av ev.length cv] 42)).heap.size = w6.heap.size + 1 + 1 := by rw [← HS7.out]; simp
            have hw := HBW6.out.size
            refine (HE7.out.below (below_alloc (Below.refl _ _) _)).snoc hown8 hg8 hloc8 (HK7.out.below (below_alloc (Below.refl _ _) _)) (HV7.out.below (below_alloc (Below.refl _ _) _)) ?_ ?_
            · rw [hsz8]
              rintro j (hj | hj)
              · obtain rfl : w6.heap.size = j := by simpa [Value.ownBlock] using hj
                exact ⟨Nat.lt_succ_of_lt (Nat.lt_succ_self _), fun h => Nat.lt_irrefl _ (Nat.lt_of_lt_of_le (HRL.out _ h) hw)⟩
              · obtain ⟨q1, q2⟩ := HAV.out j hj
                exact ⟨Nat.lt_succ_of_lt (Nat.lt_succ_of_lt q2), fun h => Nat.lt_irrefl _ (Nat.lt_of_lt_of_le (HRL.out _ h) q1)⟩
            · intro j hj h
              obtain rfl : w6.heap.size = j := by simpa [Value.ownBlock] using hj
              exact Nat.lt_irrefl _ (HAV.out _ h).2
          · show s.ents.length - (((k + 1 : Nat) : Int)).toNat < s.ents.length - ((k : Nat) : Int).toNat
            rw [Int.toNat_natCast, Int.toNat_natCast]
            exact Nat.sub_lt_sub_left hlt (Nat.lt_succ_self k)
        · obtain rfl : k = s.ents.length := by omega
          have HFIN : Aside0 ((∃ vR vs, Ending.returned u8 = .returned vR ∧ EntRow wr X.heap.size vR vs (entsF s K n)) ∧ Below X.heap.size X wr) := ⟨by
            have hE := HE.out
            rw [List.take_of_length_le (by unfold entsF; rw [List.length_map]; exact Nat.le_refl _)] at hE
            exact ⟨⟨u8, vs, rfl, hE.lower HBX4.out.size⟩, HBX4.out.trans (HBK.out.mono HBX4.out.size)⟩⟩
          clear HQ
          go_wp2_with fail
          go_ret
          exact HFIN.out
    · -- an entry has come
      intro x c kl yd yp w2 cnt2 hkey hlk hv hat hrg2 hlt hg2 hs2 hen
      obtain ⟨x', ex, rfl, hxl⟩ := Maps.keyOf_str Tryd.underlying9 hkey
      obtain rfl : x = x' := encStr_inj ex
      have hrow2 := hrow.kept hg2 (Or.inr (Go.row_ne_iter hrow hrg).symm)
      have HSZ : Aside0 (w2.heap.size = wr.heap.size) := ⟨hs2⟩
      have HBW : Aside0 (X.heap.size + 1 ≤ (w2.alloc (.cells #[encStr x] 9)).heap.size) := ⟨by have h1 := HB.out.size; rw [HWS.out] at h1; simp; omega⟩
      have HKL : Aside0 (ks.length + 1 ≤ 1000000) := ⟨by have h1 := HS.out; omega⟩
      clear hs2
      go_wp2_with (first
        | (at_builtin; refine wpList_append_own _ rfl _ _ 96 rfl (X.heap.size + 1) 9 i0 (.string ⟨#[]⟩) 1 16 Tryd.underlying96 hi hz0 hz1 hz2 rfl (by decide) _ _ _ rfl (hrow2.alloc _) ⟨w2.heap.size, 0, none⟩ 1 1 [encStr x] rfl rfl (cell_one_new _ _ _) (by simp [Value.oneCell', encStr]) (by have h1 := HKL.out; unfold maxLen; omega) (by have h1 := HKL.out; omega) HBW.out ?_; intro v' w3 hown' hg3 hnil3; go_frame))
      have hrg3 := (hrg2.alloc _).kept hg3 (Go.row_ne_low hrow2 (by omega)) (Go.row_ne_iter hrow2 hrg2)
      go_roundw
      case rel =>
        refine ⟨_, cnt2, ks ++ [⟨x, hxl⟩], hrg3, by simp; omega, ?_, ⟨?_⟩, ⟨?_⟩⟩
        · simpa [encK] using hown'
        · have := HC.out.step hlk hat
          simpa using this
        · have h1 := HB.out.size
          have h0 := HWS.out
          exact ((HB.out.grown hg2 (by omega) (fun j hj => by cases hj; omega)).alloc (by have := hg2.size; omega) _).grown hg3 (by have := hg2.size; simp; omega) (fun j hj => (hrow2.lt j hj).1)
      case measure => rw [hrg3.left_eq, hrg.left_eq]; exact hlt
end Go.Proofs.YtomnfkihieinbaaDoor.PAll
/- maps: the operations on maps and memory together. -/
set_option linter.unusedVariables false
set_option linter.unusedSimpArgs false
namespace Go.Proofs.YtomnfkihieinbaaDoor.PAll
open Go.RowKit Go.Shelf Go.Maps Go.Proofs.YtomnfkihieinbaaDoorW.PrintWords Go.Proofs.YtomnfkihieinbaaDoorW.PrintLast Go.Proofs.YtomnfkihieinbaaDoorW.PrintMore
/-- A map after at most N updates. -/
structure SG (N : Nat) (s : MapS) : Prop where
  nd : NoTwice s.ents
  n0 : 0 ≤ s.next
  n1 : s.next ≤ N
  len : s.ents.length ≤ N
  inc : (s.ents.map (·.2)).Pairwise (· < ·)
  rng : ∀ e ∈ s.ents, 0 ≤ e.2 ∧ e.2 < s.next
  short : ∀ e ∈ s.ents, e.1.length ≤ 65536
  v0 : 0 ≤ s.value
  v1 : s.value ≤ 65536
theorem SG.ok {N : Nat} {s : MapS} (h : SG N s) (hN : N ≤ 100000) : SOk s := ⟨h.nd, by have := h.len; omega, h.n0, by have := h.n1; omega⟩
theorem SG.sinc {N : Nat} {s : MapS} (h : SG N s) : SInc s := ⟨h.inc, h.rng, h.short⟩
theorem SG.more {N M : Nat} {s : MapS} (h : SG N s) (hM : N ≤ M) : SG M s := ⟨h.nd, h.n0, by have := h.n1; omega, Nat.le_trans h.len hM, h.inc, h.rng, h.short, h.v0, h.v1⟩
theorem SG.put {N : Nat} {s : MapS} (h : SG N s) (hN : N ≤ 100000) {key : List Int} (hk : lookE s.ents key = none) (hl : key.length ≤ 65536) : SG (N + 1) { s with ents := s.ents ++ [(key, s.next)], next := IntKind.u64.wrap (s.next + 1) } := by
  have h0 := h.n0
  have h1 := h.n1
  have hw : IntKind.u64.wrap (s.next + 1) = s.next + 1 := by rw [u64_mod]; exact Int.emod_eq_of_lt (by omega) (by omega)
  have hnk : key ∉ s.ents.map (·.1) := fun hm => by
    have := lookE_mem.2 hm
    rw [hk] at this
    cases this
  refine ⟨?_, by show 0 ≤ IntKind.u64.wrap _; rw [hw]; omega, by show IntKind.u64.wrap _ ≤ _; rw [hw]; omega, by simp; exact h.len, ?_, ?_, ?_, h.v0, h.v1⟩
  · show ((s.ents ++ [(key, s.next)]).map (·.1)).Nodup
    rw [List.map_append]
    exact List.nodup_append.2 ⟨h.nd, by simp, fun a ha b hb => by simp at hb; subst hb; exact fun e => hnk (e ▸ ha)⟩
  · show ((s.ents ++ [(key, s.next)]).map (·.2)).Pairwise _
    rw [List.map_append]
    refine List.pairwise_append.2 ⟨h.inc, by simp, fun a ha b hb => ?_⟩
    simp at hb
    subst hb
    obtain ⟨e, he, rfl⟩ := List.mem_map.1 ha
    exact (h.rng e he).2
  · intro e he
    show 0 ≤ e.2 ∧ e.2 < IntKind.u64.wrap _
    rw [hw]
    rcases List.mem_append.1 he with he | he
    · have := h.rng e he; omega
    · rw [List.mem_singleton.1 he]; exact ⟨h0, by omega⟩
  · intro e he
    rcases List.mem_append.1 he with he | he
    · exact h.short e he
    · rw [List.mem_singleton.1 he]; exact hl
theorem SG.del {N : Nat} {s : MapS} (h : SG N s) (key : List Int) : SG N { s with ents := delE s.ents key } := by
  have hs : (delE s.ents key).Sublist s.ents := List.filter_sublist
  exact ⟨h.nd.sublist (hs.map _), h.n0, h.n1, Nat.le_trans hs.length_le h.len, h.inc.sublist (hs.map _), fun e he => h.rng e (hs.subset he), fun e he => h.short e (hs.subset he), h.v0, h.v1⟩
theorem getP_mem {α : Type} {S : List α} {i : Int} {s : α} (h : getP S i = some s) : s ∈ S := by
  unfold getP at h
  by_cases hi : 0 ≤ i
  · rw [if_pos hi] at h; exact List.mem_of_getElem? h
  · rw [if_neg hi] at h; cases h
theorem mem_set' {α : Type} {S : List α} {n : Nat} {a b : α} (h : b ∈ S.set n a) : b ∈ S ∨ b = a := List.mem_or_eq_of_mem_set h
def GoodS (N : Nat) (S : List MapS) : Prop := S.length ≤ 255 ∧ ∀ s ∈ S, SG N s
theorem upd_len (S : List MapS) (i : Int) (key value : List Int) : (updS S i key value).length = S.length := by
  unfold updS
  cases getP S i with
  | none => rfl
  | some s => dsimp only; (repeat' split) <;> simp
theorem del_len (S : List MapS) (i : Int) (key : List Int) : (delS S i key).length = S.length := by
  unfold delS
  cases getP S i with
  | none => rfl
  | some s => dsimp only; (repeat' split) <;> simp
theorem GoodS.upd {N : Nat} {S : List MapS} (h : GoodS N S) (hN : N ≤ 100000) (i : Int) (key value : List Int) (hl : key.length ≤ 65536) : GoodS (N + 1) (updS S i key value) := by
  refine ⟨by rw [upd_len]; exact h.1, ?_⟩
  have hm : ∀ s ∈ S, SG (N + 1) s := fun s hs => (h.2 s hs).more (Nat.le_succ _)
  unfold updS
  cases hg : getP S i with
  | none => exact hm
  | some s =>
    dsimp only
    split
    · cases hz : lookE s.ents key with
      | some z => exact hm
      | none =>
        dsimp only
        split
        · exact hm
        · intro s' hs'
          rcases mem_set' hs' with hs' | rfl
          · exact hm s' hs'
          · exact (h.2 s (getP_mem hg)).put hN hz hl
    · exact hm
theorem GoodS.del {N : Nat} {S : List MapS} (h : GoodS N S) (i : Int) (key : List Int) : GoodS N (delS S i key) := by
  refine ⟨by rw [del_len]; exact h.1, ?_⟩
  unfold delS
  cases hg : getP S i with
  | none => exact h.2
  | some s =>
    dsimp only
    split
    · split
      · intro s' hs'
        rcases mem_set' hs' with hs' | rfl
        · exact h.2 s' hs'
        · exact (h.2 s (getP_mem hg)).del key
      · exact h.2
    · exact h.2
theorem good_new (ds : List S28) (hl : ds.length ≤ 255) (hb : ds.all sizesB = true) : GoodS 0 (ds.map newS) := by
  refine ⟨by simpa using hl, fun s hs => ?_⟩
  obtain ⟨d, hd, rfl⟩ := List.mem_map.1 hs
  have h1 := List.all_eq_true.1 hb d hd
  unfold sizesB inR at h1
  simp only [Bool.and_eq_true, decide_eq_true_eq] at h1
  exact ⟨List.nodup_nil, Int.le_refl _, Int.le_refl _, Nat.le_refl _, List.Pairwise.nil, fun e he => by simp [newS] at he, fun e he => by simp [newS] at he, by show 0 ≤ d.f2; omega, by show d.f2 ≤ _; omega⟩
/-! ### maps and memory -/
def MM (X : World) (fr : Nat → Prop) (t m : Nat) (S : List MapS) (K : List Reg) : Prop := ∃ v ps, ps.length = S.length ∧ Has X fr ((MP t m v ps S).and (PM m K))
theorem MM.below {X X' : World} {fr : Nat → Prop} {t m : Nat} {S : List MapS} {K : List Reg} (h : MM X fr t m S K) (hb : Below X.heap.size X X') : MM X' fr t m S K := by
  obtain ⟨v, ps, h1, h2⟩ := h
  exact ⟨v, ps, h1, h2.below hb⟩
theorem MM.weaken {X : World} {fr fr' : Nat → Prop} {t m : Nat} {S : List MapS} {K : List Reg} (h : MM X fr t m S K) (hf : ∀ k, fr' k → fr k) : MM X fr' t m S K := by
  obtain ⟨v, ps, h1, h2⟩ := h
  exact ⟨v, ps, h1, h2.weaken hf⟩
theorem MM.more {X X' : World} {fr : Nat → Prop} {t m : Nat} {S : List MapS} {K : List Reg} (h : MM X fr t m S K) (hb : Below X.heap.size X X') : MM X' (fun k => fr k ∨ (X.heap.size ≤ k ∧ k < X'.heap.size)) t m S K := by
  obtain ⟨v, ps, h1, h2⟩ := h
  exact ⟨v, ps, h1, h2.more hb⟩
theorem mm_new (X : World) (fr : Nat → Prop) (m : Nat) (K : List Reg) (A0 : Option Addr) (c0 : Nat) (ds : List S28) (h : Has X fr (PM m K)) (hC : Kd.C k28 X A0 ds.length ds) (hl : ds.length ≤ 255) :
    Calls Tryd.prog 31 #[.pointer (some ⟨m, 0, none⟩), .slice A0 ds.length c0] X fun e X' => (if ds.all sizesB = true then ∃ t, e = .returned (.tuple #[.pointer (some ⟨t, 0, none⟩), .int .i64 0]) ∧ MM X' fr t m (ds.map newS) K else e = .returned (.tuple #[.pointer none, .int .i64 9])) ∧ Below X.heap.size X X' := by
  refine (new_c' X m A0 c0 ds hC hl).mono ?_
  intro e X' hp
  unfold NewPost at hp
  split at hp
  · rename_i hs
    obtain ⟨t, v, ps, rfl, hps, hm, hb⟩ := hp
    refine ⟨?_, hb⟩
    rw [if_pos hs]
    obtain ⟨h0, own, h1, h2⟩ := h.below hb
    obtain ⟨_, own', h1', h2'⟩ := h
    refine ⟨t, rfl, v, ps, by rw [hps, List.length_map], ?_⟩
    refine Has.join (o1 := own') (Has.weaken hm (fun k hk => ?_)) (fun k hk => (h1' k hk).1) ((PM m K).keep h2' (fun k hk hlt => hb.block k hlt))
    rcases hk with hk | hk
    · rename_i hf0 
      exact hf0 k hk
    · exact (h1' k hk).2
  · rename_i hs
    rw [if_neg hs]
    exact hp
theorem mm_update (X : World) (fr : Nat → Prop) (t m : Nat) (S : List MapS) (K : List Reg) (N : Nat) (i : Int) (A1 A2 : Option Addr) (c1 c2 : Nat) (key value : List Int) (h : MM X fr t m S K) (hS : GoodS N S) (hN : N ≤ 100000) (hK : K.length ≤ 99999)
    (hk : ∀ X', Kept fr X X' → Kd.C (Kd.int .u8) X' A1 key.length key) (hkb : IsBytes key) (hv : ∀ X', Kept fr X X' → Kd.C (Kd.int .u8) X' A2 value.length value) (hvb : IsBytes value) (hvc : value.length ≤ c2) (hvs : value.length ≤ 65536) :
    Calls Tryd.prog 68 #[.pointer (some ⟨t, 0, none⟩), .int .i64 i, .slice A1 key.length c1, .slice A2 value.length c2] X fun e X' => e = .returned (.int .i64 (updR S i key value)) ∧ MM X' fr t m (updS S i key value) (updK S K i key value) ∧ Kept fr X X' := by
  obtain ⟨v, ps, h1, h2⟩ := h
  refine (update_c X fr t m v ps S K i A1 A2 c1 c2 key value h2 (by rw [h1]; have := hS.1; omega) h1 hK (fun s hs => (hS.2 s hs).ok hN) hk hkb hv hvb hvc hvs).mono ?_
  rintro e X' ⟨he, hm, hkk⟩
  exact ⟨he, ⟨v, ps, by rw [upd_len]; exact h1, hm⟩, hkk⟩
theorem mm_delete (X : World) (fr : Nat → Prop) (t m : Nat) (S : List MapS) (K : List Reg) (N : Nat) (i : Int) (A1 : Option Addr) (c1 : Nat) (key : List Int) (h : MM X fr t m S K) (hS : GoodS N S) (hN : N ≤ 100000) (hK : K.length ≤ 99999)
    (hk : ∀ X', Kept fr X X' → Kd.C (Kd.int .u8) X' A1 key.length key) (hkb : IsBytes key) :
    Calls Tryd.prog 69 #[.pointer (some ⟨t, 0, none⟩), .int .i64 i, .slice A1 key.length c1] X fun e X' => e = .returned (.int .i64 (delR S i key)) ∧ MM X' fr t m (delS S i key) (delK S K i key) ∧ Kept fr X X' := by
  obtain ⟨v, ps, h1, h2⟩ := h
  refine (delete_c X fr t m v ps S K i A1 c1 key h2 (by rw [h1]; have := hS.1; omega) h1 hK (fun s hs => (hS.2 s hs).ok hN) hk hkb).mono ?_
  rintro e X' ⟨he, hm, hkk⟩
  exact ⟨he, ⟨v, ps, by rw [del_len]; exact h1, hm⟩, hkk⟩
theorem mm_lookup (X : World) (fr : Nat → Prop) (t m : Nat) (S : List MapS) (K : List Reg) (i : Int) (A1 : Option Addr) (c1 : Nat) (key : List Int) (h : MM X fr t m S K) (hS : S.length ≤ 255) (hk : Kd.C (Kd.int .u8) X A1 key.length key) (hkb : IsBytes key) :
    Calls Tryd.prog 12 #[.pointer (some ⟨t, 0, none⟩), .int .i64 i, .slice A1 key.length c1] X fun e X' => e = .returned (.int .u64 (lookF S i key)) ∧ ∃ k, X' = X.drewN k := by
  obtain ⟨v, ps, h1, h2⟩ := h
  obtain ⟨o1, _, hMP, _⟩ := h2.swap.part
  exact lookup_c X o1 t m v ps S i A1 c1 key hMP (by omega) h1 hk hkb
theorem mm_index (X : World) (fr : Nat → Prop) (t m : Nat) (S : List MapS) (K : List Reg) (hd : Int) (h : MM X fr t m S K) (hS : S.length ≤ 255) (h0 : 0 ≤ hd) (h1 : hd < 18446744073709551616) :
    Calls Tryd.prog 28 #[.pointer (some ⟨t, 0, none⟩), .int .u64 hd] X fun e X' => e = .returned (.tuple #[.int .i64 (indexF S.length hd).1, .bool (indexF S.length hd).2]) ∧ X = X' := by
  obtain ⟨v, ps, h1', h2⟩ := h
  obtain ⟨o1, _, hMP, _⟩ := h2.swap.part
  rw [← h1']
  exact index_c X o1 t m v ps S hd hMP (by omega) h0 h1
theorem mm_def (X : World) (fr : Nat → Prop) (t m : Nat) (S : List MapS) (K : List Reg) (i : Int) (h : MM X fr t m S K) (hS : S.length ≤ 255) :
    Calls Tryd.prog 32 #[.pointer (some ⟨t, 0, none⟩), .int .i64 i] X fun e X' => e = .returned (defV (defF S i)) ∧ Below X.heap.size X X' := by
  obtain ⟨v, ps, h1', h2⟩ := h
  obtain ⟨o1, hf, hMP, _⟩ := h2.swap.part
  exact def_c X o1 t m v ps S i hMP (by omega) h1' (fun k hk => (hf k hk).2)
def entF (S : List MapS) (K : List Reg) (i : Int) : List Ent := match getP S i with
  | none => []
  | some s => entsF s K i
theorem mm_entries (X : World) (fr : Nat → Prop) (t m : Nat) (S : List MapS) (K : List Reg) (N : Nat) (i : Int) (h : MM X fr t m S K) (hS : GoodS N S) (hN : N ≤ 100000) (hK : K.length ≤ 99999) :
    Calls Tryd.prog 13 #[.pointer (some ⟨t, 0, none⟩), .int .i64 i] X fun e X' => (∃ vR vs, e = .returned vR ∧ EntRow X' X.heap.size vR vs (entF S K i)) ∧ Below X.heap.size X X' := by
  obtain ⟨v, ps, h1, h2⟩ := h
  obtain ⟨o1, _, hMP, _⟩ := h2.swap.part
  have hl := hS.1
  unfold entF
  rcases getP_len h1 i with ⟨e1, e2⟩ | ⟨n, p, s, rfl, hp, hs, e1, e2⟩
  · rw [e2]
    refine (entries_bad X o1 t m v ps S i hMP (by omega) e1).mono ?_
    rintro e X' ⟨rfl, hb⟩
    exact ⟨⟨_, [], rfl, EntRow.nil _ _⟩, hb⟩
  · rw [e2]
    have hg := hS.2 s (List.mem_of_getElem? hs)
    exact entries_some X fr t m v ps S K n p s h2 (by omega) h1 (by omega) hp hs (hg.ok hN) hg.sinc hg.v0 (by have := hg.v1; omega)
theorem mm_len (X : World) (fr : Nat → Prop) (t m : Nat) (S : List MapS) (K : List Reg) (h : MM X fr t m S K) : Calls Tryd.prog 20 #[.pointer (some ⟨m, 0, none⟩)] X fun e X' => e = .returned (.int .i64 K.length) ∧ X = X' := by
  obtain ⟨v, ps, h1, h2⟩ := h
  exact pm_len X fr m K h2.swap.left
theorem mm_bytes (X : World) (fr : Nat → Prop) (t m : Nat) (S : List MapS) (K : List Reg) (a n : Int) (h : MM X fr t m S K) (hl : K.length ≤ 999999) (ha0 : 0 ≤ a) (ha1 : a < 18446744073709551616) (hn0 : -9223372036854775808 ≤ n) (hn1 : n < 9223372036854775808) :
    Calls Tryd.prog 22 #[.pointer (some ⟨m, 0, none⟩), .int .u64 a, .int .i64 n] X (BytesPost X K a n) := by
  obtain ⟨v, ps, h1, h2⟩ := h
  exact pm_bytes X fr m K a n h2.swap.left hl ha0 ha1 hn0 hn1
end Go.Proofs.YtomnfkihieinbaaDoor.PAll
/- maps: the operations with all that is new behind one place. -/
set_option linter.unusedVariables false
set_option linter.unusedSimpArgs false
namespace Go.Proofs.YtomnfkihieinbaaDoor.PAll
open Go.RowKit Go.Shelf Go.Maps Go.Proofs.YtomnfkihieinbaaDoorW.PrintWords Go.Proofs.YtomnfkihieinbaaDoorW.PrintLast Go.Proofs.YtomnfkihieinbaaDoorW.PrintMore
theorem C_kept {X X' : World} {fr : Nat → Prop} {A : Option Addr} {n : Nat} {l : List Int} (h : Kd.C (Kd.int .u8) X A n l) (hf : ∀ ad, A = some ad → 0 < n → fr ad.block) (hk : Kept fr X X') : Kd.C (Kd.int .u8) X' A n l := by
  have hr := Kd.reads_of_C (enc := Value.int .u8) (d := (0 : Int)) (h1 := fun _ => rfl) h
  refine Kd.C_of_reads (d := (0 : Int)) ⟨hr.1, hr.2.1, fun hn => ?_⟩
  obtain ⟨ad, e, hc⟩ := hr.2.2 hn
  refine ⟨ad, e, fun j hj => ?_⟩
  have h1 := hc j hj
  have hb : (ad.add j).block = ad.block := by simp only [Addr.add]; split <;> rfl
  have hlt : ad.block < X.heap.size := by
    have := World.block_lt_of_cell? X _ h1
    rw [hb] at this
    exact this
  have hq := hk.block hlt (hf ad e hn)
  unfold World.cell? at h1 ⊢
  rw [hb] at h1 ⊢
  rw [hq]
  exact h1
/-- Maps and memory, all of them behind B or free of what is theirs. -/
def LM (B N : Nat) (X : World) (t m : Nat) (S : List MapS) (K : List Reg) : Prop := B ≤ X.heap.size ∧ GoodS N S ∧ ∃ F : Nat → Prop, (∀ k, k < B → F k) ∧ MM X F t m S K
theorem LM.below {B N : Nat} {X X' : World} {t m : Nat} {S : List MapS} {K : List Reg} (h : LM B N X t m S K) (hb : Below X.heap.size X X') : LM B N X' t m S K := by
  obtain ⟨h1, h2, F, h3, h4⟩ := h
  exact ⟨Nat.le_trans h1 hb.size, h2, F, h3, h4.below hb⟩
theorem LM.lower {B B' N : Nat} {X : World} {t m : Nat} {S : List MapS} {K : List Reg} (h : LM B N X t m S K) (hb : B' ≤ B) : LM B' N X t m S K := by
  obtain ⟨h1, h2, F, h3, h4⟩ := h
  exact ⟨Nat.le_trans hb h1, h2, F, fun k hk => h3 k (Nat.lt_of_lt_of_le hk hb), h4⟩
theorem lm_mem (X : World) (h0 : X.heap.size = X.heap.size) : Calls Tryd.prog 29 #[] X fun e X' => e = .returned (.pointer (some ⟨X.heap.size, 0, none⟩)) ∧ Has X' (fun k => k < X.heap.size) (PM X.heap.size []) ∧ Below X.heap.size X X' :=
  pm_new X (fun k => k < X.heap.size) (fun _ h => h)
theorem LM.frame {B N : Nat} {w0 w : World} {t m : Nat} {S : List MapS} {K : List Reg} (h : LM B N w0 t m S K) (hb : Below w0.heap.size w0 w) : ∃ F : Nat → Prop, (∀ k, k < B → F k) ∧ (∀ k, w0.heap.size ≤ k → k < w.heap.size → F k) ∧ MM w F t m S K := by
  obtain ⟨h1, h2, F, h3, h4⟩ := h
  exact ⟨_, fun k hk => .inl (h3 k hk), fun k hk hk' => .inr ⟨hk, hk'⟩, h4.more hb⟩
theorem lm_lookup (w : World) (B N : Nat) (t m : Nat) (S : List MapS) (K : List Reg) (i : Int) (A1 : Option Addr) (c1 n1 : Nat) (key : List Int) (h : LM B N w t m S K) (hk : Kd.C (Kd.int .u8) w A1 n1 key) (hkb : IsBytes key) (r : Int) (hr : lookF S i key = r) :
    Calls Tryd.prog 12 #[.pointer (some ⟨t, 0, none⟩), .int .i64 i, .slice A1 n1 c1] w fun e X' => e = .returned (.int .u64 r) ∧ Below w.heap.size w X' := by
  obtain rfl := hk.1
  subst hr
  obtain ⟨h1, h2, F, h3, hm⟩ := h
  refine (mm_lookup w F t m S K i A1 c1 key hm h2.1 hk hkb).mono ?_
  rintro e X' ⟨he, k, rfl⟩
  exact ⟨he, pw_below_drewN (Below.refl _ _) _⟩
theorem lm_index (w : World) (B N : Nat) (t m : Nat) (S : List MapS) (K : List Reg) (hd : Int) (h : LM B N w t m S K) (h0 : 0 ≤ hd) (h1 : hd < 18446744073709551616) (r : Int × Bool) (hr : indexF S.length hd = r) :
    Calls Tryd.prog 28 #[.pointer (some ⟨t, 0, none⟩), .int .u64 hd] w fun e X' => e = .returned (.tuple #[.int .i64 r.1, .bool r.2]) ∧ w = X' := by
  subst hr
  obtain ⟨g1, g2, F, g3, hm⟩ := h
  exact mm_index w F t m S K hd hm g2.1 h0 h1
theorem lm_def (w : World) (B N : Nat) (t m : Nat) (S : List MapS) (K : List Reg) (i : Int) (h : LM B N w t m S K) (d : S28) (hd : defF S i = d) :
    Calls Tryd.prog 32 #[.pointer (some ⟨t, 0, none⟩), .int .i64 i] w fun e X' => e = .returned (defV d) ∧ Below w.heap.size w X' := by
  subst hd
  obtain ⟨g1, g2, F, g3, hm⟩ := h
  exact mm_def w F t m S K i hm g2.1
theorem lm_bytes (w : World) (B N : Nat) (t m : Nat) (S : List MapS) (K : List Reg) (a n : Int) (h : LM B N w t m S K) (hl : K.length ≤ 999999) (ha0 : 0 ≤ a) (ha1 : a < 18446744073709551616) (hn0 : -9223372036854775808 ≤ n) (hn1 : n < 9223372036854775808) :
    Calls Tryd.prog 22 #[.pointer (some ⟨m, 0, none⟩), .int .u64 a, .int .i64 n] w (BytesPost w K a n) := by
  obtain ⟨g1, g2, F, g3, hm⟩ := h
  exact mm_bytes w F t m S K a n hm hl ha0 ha1 hn0 hn1
theorem def_lit (X : World) (d : S28) (g : Nat) (h : X.heap[g]? = some (.cells #[.string d.f0, .int .i64 d.f1, .int .i64 d.f2, .int .i64 d.f3] 28 (0, 0))) : Kd.C k28 X (some ⟨g, 0, none⟩) 1 [d] := by
  refine ⟨rfl, by decide, fun _ => ⟨_, rfl, fun j p hp => ?_⟩⟩
  match j, hp with
  | 0, hp =>
    cases hp
    refine ⟨_, rfl, k28_mk X d, fun i u hu => ?_⟩
    have hL : X.heap[g]? = some (.cells ([.string d.f0, .int .i64 d.f1, .int .i64 d.f2, .int .i64 d.f3] : List Value).toArray 28 (0, 0)) := h
    have := blk_cell hL i
    rw [show ((⟨g, 0, none⟩ : Addr).add (0 * (k28).sz + i)) = ⟨g, i, none⟩ by rw [add_plain]; simp]
    rw [this]
    simpa using hu
  | j + 1, hp => simp at hp
theorem isB (l : List Int) (h : l.all (fun x => decide (0 ≤ x ∧ x < 256)) = true) : IsBytes l := fun x hx => by
  have := List.all_eq_true.1 h x hx
  exact of_decide_eq_true this
theorem lm_lookup1 (w : World) (B N : Nat) (t m : Nat) (S : List MapS) (K : List Reg) (i : Int) (ck : Array Value) (n1 : Nat) (key : List Int) (h : LM B N w t m S K)
    (hck : ck = (nums .u8 key).toArray) (h1 : key.length = n1) (hkb : key.all (fun x => decide (0 ≤ x ∧ x < 256)) = true) (hkl : n1 ≤ 65536) (r : Int) (hr : lookF S i key = r) :
    Calls Tryd.prog 12 #[.pointer (some ⟨t, 0, none⟩), .int .i64 i, .slice (some ⟨w.heap.size, 0, none⟩) n1 n1] (w.alloc (.cells ck 5)) fun e X' => e = .returned (.int .u64 r) ∧ LM B N X' t m S K ∧ Below B w X' := by
  subst h1
  have hb : Below w.heap.size w (w.alloc (.cells ck 5)) := below_alloc (Below.refl _ _) _
  refine (lm_lookup _ B N t m S K i _ key.length key.length key (h.below hb) (lit_C w key ck hck (by unfold maxLen; omega)) (isB _ hkb) r hr).mono ?_
  rintro e X' ⟨he, hbb⟩
  exact ⟨he, (h.below hb).below hbb, (hb.mono h.1).trans (hbb.mono (Nat.le_trans h.1 hb.size))⟩
end Go.Proofs.YtomnfkihieinbaaDoor.PAll
/- maps: the examples of the chapter. -/
set_option linter.unusedVariables false
set_option linter.unusedSimpArgs false
namespace Go.Proofs.YtomnfkihieinbaaDoor.PAll
open Go.RowKit Go.Shelf Go.Maps Go.Proofs.YtomnfkihieinbaaDoorW.PrintWords Go.Proofs.YtomnfkihieinbaaDoorW.PrintLast Go.Proofs.YtomnfkihieinbaaDoorW.PrintMore
end Go.Proofs.YtomnfkihieinbaaDoor.PAll
