/- The texts HelpBase, HelpAlive, HelpAliv2 of this claim, joined. -/
import Derived.Test.YtomnfkihieinbaaDoorGMemA
import Derived.Test.YtomnfkihieinbaaDoorPAllx1
import Derived.Test.YtomnfkihieinbaaDoorRows
import Derived.LaidMore
import Derived.Lay
import Derived.Stop.Joined
import Derived.Stop.LaidErr
import Derived.ProofKit
import Derived.Lib.LaidTab
import Derived.Test.YtomnfkihieinbaaDoorGHelpB
import Derived.KernelRfl
/- helper: the table of names; Name, Number. -/
set_option linter.unusedVariables false
set_option linter.unusedSimpArgs false
namespace Go.Proofs.YtomnfkihieinbaaDoor.PAll
open Go.ChangeShapes Go.WideShapes Go.ChangeAt
open Go.RowKit Go.Proofs.YtomnfkihieinbaaDoorW.PrintWords Go.Proofs.YtomnfkihieinbaaDoorW.PrintLast Go.Proofs.YtomnfkihieinbaaDoorW.PrintMore
def nm0 : ByteArray := ⟨#[108, 111, 111, 107, 117, 112]⟩
def nm1 : ByteArray := ⟨#[117, 112, 100, 97, 116, 101]⟩
def nm2 : ByteArray := ⟨#[100, 101, 108, 101, 116, 101]⟩
def namesL : List ByteArray := [nm0, nm1, nm2]
/-- The table of names lies as the program's text lays it. -/
structure LaidH (w : World) : Prop where
  n0 : w.cell? ⟨0, 0, none⟩ = some (.string nm0)
  n1 : w.cell? ⟨0, 1, none⟩ = some (.string nm1)
  n2 : w.cell? ⟨0, 2, none⟩ = some (.string nm2)
theorem cell_below' {n : Nat} {w W : World} (hb : Below w.heap.size w W) {a : Addr} {v : Value} (h : w.cell? a = some v) : W.cell? a = some v := by
  have := hb.block a.block (World.block_lt_of_cell? w _ h)
  unfold World.cell? at h ⊢
  rw [this]
  exact h
theorem LaidH.below {w W : World} (h : LaidH w) (hb : Below w.heap.size w W) : LaidH W := ⟨cell_below' (n := 0) hb h.n0, cell_below' (n := 0) hb h.n1, cell_below' (n := 0) hb h.n2⟩
abbrev laidAll : List (String × DataW Unit) := Rows.helperNamesRow.laid
theorem cells_of_strs {H : Type} {enc : TypeId × Value → H} {P : Program} {w : World} {base : Nat} {sp : Nat → Bool} {held : Bool} {fuel : Nat} {t e : TypeId} {n : Nat} {cs : List Value} {zs : List (List UInt8)} {p : List MemPlace}
    (ht : P.underlying t = some (.array n e)) (he : P.underlying e = some .string) (hce : P.cellsOf e = 1) (hct : P.cellsOf t = n)
    (h : DataW.trod enc P w base sp held fuel t cs = some (.agg (zs.map fun z => .lit (.string z)), p)) : cs = zs.map fun z => Value.string ⟨z.toArray⟩ := by
  cases fuel with
  | zero => simp [DataW.trod] at h
  | succ fuel =>
    simp only [DataW.trod, ht, hce, hct, Nat.mul_one] at h
    split at h
    · rename_i hl
      obtain ⟨xs, hm, hx⟩ := Option.map_eq_some_iff.1 h
      have hxs : xs.map (·.1) = zs.map fun z => (DataW.lit (.string z) : DataW H) := by
        have := congrArg Prod.fst hx
        simpa using this
      have hxl : xs.length = n := by simpa using Lib.mapM_length hm
      have hzl : zs.length = n := by
        have := congrArg List.length hxs
        simp at this
        omega
      apply List.ext_getElem?
      intro i
      by_cases hi : i < n
      · obtain ⟨b, hb, hf⟩ := Lib.mapM_at hm i i (by simp [hi])
        obtain ⟨z, hc, rfl, _⟩ := DataW.trod_string he hf
        have h1 : cs[i]? = some (.string z) := by
          have := congrArg (·[0]?) hc
          simpa [List.getElem?_take, List.getElem?_drop] using this
        have h2 : (xs.map (·.1))[i]? = some (DataW.lit (.string z.data.toList) : DataW H) := by simp [hb]
        rw [hxs] at h2
        simp only [List.getElem?_map, Option.map_eq_some_iff, DataW.lit.injEq, Lit.string.injEq] at h2
        obtain ⟨z', hz', rfl⟩ := h2
        simp [h1, hz']
      · rw [List.getElem?_eq_none (by omega), List.getElem?_eq_none (by simp; omega)]
    · cases h
theorem laidH_of {W : World} (h : laidMetH Tryd.prog laidAll W) : LaidH W := by
  rw [MakeChecks.laidMetH_plain _ _ _ (by kernel_rfl)] at h
  obtain ⟨ps, ⟨g', t', cs, fuel, p, q, hg', ht', hvar, hd, _, _⟩, _⟩ := h
  have hg : Tryd.prog.globalNamed "slotcode/helper.names" = some 0 := by kernel_rfl
  have hty : (Tryd.prog.globals[0]?).map (·.type) = some 127 := by kernel_rfl
  obtain rfl := Option.some.inj (hg.symm.trans hg')
  obtain rfl := Option.some.inj (hty.symm.trans ht')
  have hcs := cells_of_strs (zs := [[108, 111, 111, 107, 117, 112], [117, 112, 100, 97, 116, 101], [100, 101, 108, 101, 116, 101]]) Tryd.underlying127 Tryd.underlying9 (by kernel_rfl) (by kernel_rfl) hd
  obtain rfl : cs = #[.string nm0, .string nm1, .string nm2] := by
    have h := congrArg List.toArray hcs
    simpa [nm0, nm1, nm2] using h
  exact ⟨World.var?_cell hg hvar 0, World.var?_cell hg hvar 1, World.var?_cell hg hvar 2⟩
/-- The heap in which the listed data are laid meets the condition. -/
theorem door_met (os : Os) (args : Array Value) : laidMetH Tryd.prog laidAll ((World.laidAll Tryd.prog os laidAll).forCall (fun _ _ => 0) ⟨#[], args, []⟩).memory := by
  rw [MakeChecks.laidMetH_plain _ _ _ (by kernel_rfl)]
  exact laidMet_laidAll _ (by kernel_rfl) (by kernel_rfl)
/-! ### Name, Number -/
def idxF (a : ByteArray) : Int := if a.toList = nm0.toList then 0 else if a.toList = nm1.toList then 1 else if a.toList = nm2.toList then 2 else -1
theorem index_f (a : ByteArray) : slices_Index_string_string.f 5 namesL a = some (idxF a) := by
  simp [slices_Index_string_string.f, slices_Index_string_string.l0, idxF, namesL, rdOf, wrap64]
  (repeat' split) <;> simp_all
theorem names_C {w : World} (h : LaidH w) : Kd.C Kd.string w (some ⟨0, 0, none⟩) 3 namesL := by
  refine Kd.C_of_reads (enc := Value.string) (d := ByteArray.empty) (h1 := fun _ => rfl) ⟨rfl, by decide, fun _ => ⟨_, rfl, fun j hj => ?_⟩⟩
  match j, hj with
  | 0, _ => exact h.n0
  | 1, _ => exact h.n1
  | 2, _ => exact h.n2
def numberF (a : ByteArray) : Int := idxF a + 1
def foundF (a : ByteArray) : Bool := decide (idxF a ≥ 0)
theorem idx_rng (a : ByteArray) : -1 ≤ idxF a ∧ idxF a ≤ 2 := by unfold idxF; split <;> (try split) <;> (try split) <;> omega
set_option maxHeartbeats 1000000 in
theorem number_c (a : ByteArray) (w : World) (h : LaidH w) : Calls Tryd.prog 25 #[.string a] w fun e w' => e = .returned (.tuple #[.int .i64 (numberF a), .bool (foundF a)]) ∧ Below w.heap.size w w' := by
  have HI := Aside0.mk (slices_Index_string_string.calls 5 (some ⟨0, 0, none⟩) 3 namesL a (idxF a) w (names_C h) (by decide) (index_f a))
  obtain ⟨r, hr⟩ : ∃ r, idxF a = r := ⟨_, rfl⟩
  have hrr := idx_rng a
  unfold numberF foundF
  rw [hr] at HI hrr ⊢
  obtain ⟨h1, h2⟩ := hrr
  clear hr h
  go_enter Tryd.func25, Tryd.ntmps25
  go_wp2_with fail
  refine HI.out.mono ?_
  rintro e w' ⟨rfl, hb⟩
  have HB : Aside0 (Below w.heap.size w w') := ⟨by obtain ⟨k, rfl⟩ := hb.out; exact pw_below_drewN (Below.refl _ _) _⟩
  clear hb
  go_wp2_with fail
  go_ret2
  exact ⟨rfl, HB.out⟩
end Go.Proofs.YtomnfkihieinbaaDoor.PAll
/- helper: start, Name, the examples of the chapter. -/
set_option linter.unusedVariables false
set_option linter.unusedSimpArgs false
namespace Go.Proofs.YtomnfkihieinbaaDoor.PAll
open Go.RowKit Go.Shelf Go.Maps Go.Proofs.YtomnfkihieinbaaDoorW.PrintWords Go.Proofs.YtomnfkihieinbaaDoorW.PrintLast Go.Proofs.YtomnfkihieinbaaDoorW.PrintMore
def nameF (which : Int) : ByteArray := if which = 1 then nm0 else if which = 2 then nm1 else if which = 3 then nm2 else ⟨#[]⟩
theorem name_c (which : Int) (w : World) (h : LaidH w) : Calls Tryd.prog 27 #[.int .i64 which] w fun e w' => e = .returned (.string (nameF which)) ∧ w = w' := by
  obtain ⟨n0, n1, n2⟩ := h
  by_cases h1 : which < 1
  · have hd : decide (which < 1) = true := decide_eq_true h1
    have hn : nameF which = ⟨#[]⟩ := by unfold nameF; rw [if_neg (by omega), if_neg (by omega), if_neg (by omega)]
    rw [hn]
    clear hn h1
    go_enter Tryd.func27, Tryd.ntmps27
    go_wp2
    go_ret
    exact ⟨rfl, rfl⟩
  · by_cases h3 : which > 3
    · have hd : decide (which < 1) = false := decide_eq_false h1
      have hd3 : decide (which > 3) = true := decide_eq_true h3
      have hd3' : decide (3 < which) = true := decide_eq_true h3
      have hn : nameF which = ⟨#[]⟩ := by unfold nameF; rw [if_neg (by omega), if_neg (by omega), if_neg (by omega)]
      rw [hn]
      clear hn h1 h3
      go_enter Tryd.func27, Tryd.ntmps27
      go_wp2
      go_ret
      exact ⟨rfl, rfl⟩
    · obtain rfl | rfl | rfl : which = 1 ∨ which = 2 ∨ which = 3 := by omega
      · clear h1 h3
        go_enter Tryd.func27, Tryd.ntmps27
        go_wp2
        go_ret
        exact ⟨rfl, rfl⟩
      · clear h1 h3
        go_enter Tryd.func27, Tryd.ntmps27
        go_wp2
        go_ret
        exact ⟨rfl, rfl⟩
      · clear h1 h3
        go_enter Tryd.func27, Tryd.ntmps27
        go_wp2
        go_ret
        exact ⟨rfl, rfl⟩
theorem add_one {base : Int} {bs : List Int} (h0 : 0 < bs.length) (h1 : base + bs.length ≤ 18446744073709551616) : addOk [] base bs.length = true ∧ addG [] base bs = [⟨base, bs⟩] := by
  have h : addOk [] base bs.length = true := decide_eq_true ⟨h0, h1, fun r hr => by simp at hr⟩
  exact ⟨h, by unfold addG; rw [if_pos h]⟩
/-- What start leaves. -/
def StartPost (X : World) (data : List Int) (S : List MapS) (e : Ending) (X' : World) : Prop := (∃ t m, e = .returned (.tuple #[.pointer (some ⟨t, 0, none⟩), .pointer (some ⟨m, 0, none⟩)]) ∧ LMF X.heap.size 0 (fun k => k < X.heap.size) X' t m S [⟨4294967296, data⟩]) ∧ Below X.heap.size X X'
set_option maxHeartbeats 1000000 in
theorem start_c (X : World) (A0 A1 : Option Addr) (c0 c1 : Nat) (data : List Int) (ds : List S28) (hd : Kd.C (Kd.int .u8) X A0 data.length data) (hdc : data.length ≤ c0) (h1 : 0 < data.length) (h2 : data.length ≤ 65536) (hb : IsBytes data) (hC : Kd.C k28 X A1 ds.length ds) (hl : ds.length ≤ 255) (hs : ds.all sizesB = true) :
    Calls Tryd.prog 9 #[.slice A0 data.length c0, .slice A1 ds.length c1] X (StartPost X data (ds.map newS)) := by
  obtain ⟨ho, hg⟩ := add_one (base := 4294967296) h1 (by omega)
  have HO := Aside0.mk ho
  have HG := Aside0.mk hg
  have HAD : Aside0 (∀ W, Below X.heap.size X W → Has W (fun k => k < X.heap.size) (PM X.heap.size []) → Calls Tryd.prog 30 #[.pointer (some ⟨X.heap.size, 0, none⟩), .int .u64 4294967296, .slice A0 data.length c0] W fun e X' => e = .returned (.bool true) ∧ Has X' (fun k => k < X.heap.size) (PM X.heap.size [⟨4294967296, data⟩]) ∧ Below X.heap.size X X') := ⟨fun W hb' hm => by
    refine (pm_add W _ X.heap.size [] 4294967296 A0 c0 data hm (by decide) (by decide) (by decide) (Kd.C_below hd hb') hdc (by omega) hb).mono ?_
    rintro e X' ⟨rfl, hm', hk⟩
    rw [hg] at hm'
    rw [ho]
    exact ⟨rfl, hm', hb'.trans (hk.below hb'.size (fun k h => h))⟩⟩
  have HNW : Aside0 (∀ W, Below X.heap.size X W → Has W (fun k => k < X.heap.size) (PM X.heap.size [⟨4294967296, data⟩]) → Calls Tryd.prog 31 #[.pointer (some ⟨X.heap.size, 0, none⟩), .slice A1 ds.length c1] W fun e X' => (∃ t, e = .returned (.tuple #[.pointer (some ⟨t, 0, none⟩), .int .i64 0]) ∧ LMF X.heap.size 0 (fun k => k < X.heap.size) X' t X.heap.size (ds.map newS) [⟨4294967296, data⟩]) ∧ Below X.heap.size X X') := ⟨fun W hb' hm => by
    refine (mm_new W _ X.heap.size _ A1 c1 ds hm (Kd.C_below hC hb') hl).mono ?_
    rintro e X' ⟨hp, hb2⟩
    rw [if_pos hs] at hp
    obtain ⟨t, rfl, hmm⟩ := hp
    have hbb := hb'.trans (hb2.mono hb'.size)
    exact ⟨⟨t, rfl, hbb.size, good_new ds hl hs, fun k h => h, hmm⟩, hbb⟩⟩
  clear hd hdc h1 h2 hb hC hl hs ho hg
  go_enter Tryd.func9, Tryd.ntmps9
  go_wp2_with fail
  refine (lm_mem X rfl).mono ?_
  rintro e w1 ⟨rfl, hm1, hb1⟩
  have HM1 := Aside0.mk hm1
  have HB1 := Aside0.mk hb1
  clear hm1 hb1
  go_wp2_with fail
  refine (HAD.out w1 HB1.out HM1.out).mono ?_
  rintro e w2 ⟨rfl, hm2, hb2⟩
  have HM2 := Aside0.mk hm2
  have HB2 := Aside0.mk hb2
  clear hm2 hb2
  go_wp2_with fail
  refine (HNW.out w2 HB2.out HM2.out).mono ?_
  rintro e w3 ⟨⟨t, rfl, hm3⟩, hb3⟩
  have HQ : Aside0 (StartPost X data (ds.map newS) (.returned (.tuple #[.pointer (some ⟨t, 0, none⟩), .pointer (some ⟨X.heap.size, 0, none⟩)])) w3) := ⟨⟨⟨t, _, rfl, hm3⟩, hb3⟩⟩
  clear hm3 hb3
  go_wp2_with fail
  go_ret2
  exact HQ.out
end Go.Proofs.YtomnfkihieinbaaDoor.PAll
/- helper: the examples of the chapter. -/
set_option linter.unusedVariables false
set_option linter.unusedSimpArgs false
namespace Go.Proofs.YtomnfkihieinbaaDoor.PAll
open Go.RowKit Go.Shelf Go.Maps Go.Proofs.YtomnfkihieinbaaDoorW.PrintWords Go.Proofs.YtomnfkihieinbaaDoorW.PrintLast Go.Proofs.YtomnfkihieinbaaDoorW.PrintMore
def hD : S28 := ⟨⟨#[]⟩, 1, 1, 1⟩
def hS (ents : List (List Int × Int)) (next : Int) : List MapS := [⟨⟨#[]⟩, 1, 1, 1, ents, next⟩]
def hK0 : List Reg := [⟨4294967296, [5, 6]⟩]
def hK1 : List Reg := [⟨4611686018427387904, [6]⟩, ⟨4294967296, [5, 6]⟩]
theorem hx0 : [hD].map newS = hS [] 0 := rfl
theorem hx0b : [hD].all sizesB = true := by decide
theorem hx1 : (callG (hS [] 0) hK0 1 0 0 0).fault = 2 := by kernel_rfl
theorem hx2 : callG (hS [] 0) hK0 1 2305843009213693952 4294967296 0 = ⟨0, 0, hS [] 0, hK0⟩ := by kernel_rfl
theorem hx3 : callG (hS [] 0) hK0 3 2305843009213693952 4294967296 0 = ⟨0, 18446744073709551614, hS [] 0, hK0⟩ := by kernel_rfl
theorem hx4 : callG (hS [] 0) hK0 2 2305843009213693952 4294967296 4294967297 = ⟨0, 0, hS [([5], 0)] 1, hK1⟩ := by kernel_rfl
theorem hx5 : lookF (hS [([5], 0)] 1) 0 [5] = 4611686018427387904 := by kernel_rfl
theorem hxs (ents : List (List Int × Int)) (next : Int) : KeysOk (hS ents next) := fun s hs => by
  rw [List.mem_singleton.1 hs]; exact ⟨(by decide : (0 : Int) ≤ 1), (by decide : (1 : Int) ≤ 64)⟩
theorem hnum : numberF ⟨#[100, 101, 108, 101, 116, 101]⟩ = 3 ∧ foundF ⟨#[100, 101, 108, 101, 116, 101]⟩ = true := by decide +kernel
theorem hnam : nameF 2 = ⟨#[117, 112, 100, 97, 116, 101]⟩ := rfl
/-- A box of the call's own is kept. -/
theorem box_new {B N : Nat} {F : Nat → Prop} {w : World} {t m : Nat} {S : List MapS} {K : List Reg} (h : LMF B N F w t m S K) (cs : Array Value) (ty : TypeId) : ∃ F' : Nat → Prop, (∀ k, F k → F' k) ∧ F' w.heap.size ∧ LMF B N F' (w.alloc (.cells cs ty)) t m S K ∧ (w.alloc (.cells cs ty)).heap[w.heap.size]? = some (.cells cs ty (0, 0)) :=
  ⟨_, fun k h => .inl h, .inr ⟨Nat.le_refl _, by simp⟩, h.more (below_alloc (Below.refl _ _) _), heap_alloc_new w _⟩
theorem kept_blk {F : Nat → Prop} {X Y : World} (h : Kept F X Y) {g : Nat} {o : Obj} (hg : X.heap[g]? = some o) (hf : F g) : Y.heap[g]? = some o := (h.block (Array.getElem?_eq_some_iff.1 hg).1 hf).trans hg
theorem below_blk {X Y : World} (h : Below X.heap.size X Y) {g : Nat} {o : Obj} (hg : X.heap[g]? = some o) : Y.heap[g]? = some o := (h.block g (Array.getElem?_eq_some_iff.1 hg).1).trans hg
theorem LMF.kept {B N : Nat} {F : Nat → Prop} {X w w' : World} {t m : Nat} {S : List MapS} {K : List Reg} (h : LMF B N F w t m S K) (hb : Below B X w) (hk : Kept F w w') : Below B X w' := hb.trans (hk.below h.1 h.2.2.1)
set_option maxHeartbeats 8000000 in
set_option maxRecDepth 100000 in
theorem halive_c (X : World) (hL : LaidH X) : Calls Tryd.prog 14 #[] X fun e X' => e = .returned (.bool true) ∧ Below X.heap.size X X' := by
  have HL := Aside0.mk hL
  have HIN : Aside0 ((Tryd.prog.info? 33).map (·.size) = some 11) := ⟨by kernel_rfl⟩
  obtain ⟨W0, hW0⟩ : ∃ W0, (X.alloc (.cells #[.int .u8 5, .int .u8 6] 5)).alloc (.cells #[.string ⟨#[]⟩, .int .i64 1, .int .i64 1, .int .i64 1] 28) = W0 := ⟨_, rfl⟩
  have HW0 := Aside0.mk hW0
  have HX0 : Aside0 (Below X.heap.size X W0) := ⟨by rw [← hW0]; exact below_alloc (below_alloc (Below.refl _ _) _) _⟩
  have HC0 : Aside0 (Kd.C (Kd.int .u8) W0 (some ⟨X.heap.size, 0, none⟩) 2 [5, 6] ∧ Kd.C k28 W0 (some ⟨X.heap.size + 1, 0, none⟩) 1 [hD]) := ⟨by
    rw [← hW0]
    refine ⟨Kd.C_below (lit_C X [5, 6] _ rfl (by decide)) (below_alloc (Below.refl _ _) _), def_lit _ hD _ ?_⟩
    have := heap_alloc_new (X.alloc (.cells #[.int .u8 5, .int .u8 6] 5)) (.cells #[.string ⟨#[]⟩, .int .i64 1, .int .i64 1, .int .i64 1] 28)
    have h2 : (X.alloc (.cells #[.int .u8 5, .int .u8 6] 5)).heap.size = X.heap.size + 1 := by simp
    rw [h2] at this
    exact this⟩
  clear hL hW0
  go_enter Tryd.func14, Tryd.ntmps14
  go_wp2_with fail
  rw [HW0.out]
  refine (start_c W0 _ _ 2 1 [5, 6] [hD] HC0.out.1 (by decide) (by decide) (by decide) (isB _ (by decide)) HC0.out.2 (by decide) hx0b).mono ?_
  rintro e w1 ⟨⟨t, m, rfl, hm1⟩, hb1⟩
  rw [hx0] at hm1
  have HM1 := Aside0.mk hm1
  have HB1 : Aside0 (Below X.heap.size X w1) := ⟨HX0.out.trans (hb1.mono HX0.out.size)⟩
  obtain ⟨B, hB⟩ : ∃ B, W0.heap.size = B := ⟨_, rfl⟩
  have HXB : Aside0 (X.heap.size ≤ B) := ⟨hB ▸ HX0.out.size⟩
  rw [hB] at HM1
  clear hm1 hb1 hB
  go_wp2_with fail
  refine (call_fault w1 B 0 _ t m (hS [] 0) hK0 1 0 0 0 0 0 0 0 0 0 0 0 HM1.out (by decide) (hxs _ _) (by decide) (by decide) (by decide) (by decide) (by decide) (by decide) (.inl rfl) 2 hx1 (by decide)).mono ?_
  rintro e w2 ⟨rfl, hb2⟩
  have HM2 := Aside0.mk (HM1.out.below hb2)
  have HB2 : Aside0 (Below X.heap.size X w2) := ⟨HB1.out.trans (hb2.mono HB1.out.size)⟩
  clear hb2
  go_wp2_with fail
  -- tail
  obtain ⟨F3, fF3, fb3, hm, hh⟩ := box_new HM2.out #[.int .u64 0, .int .u64 0, .int .u64 0, .int .u64 0, .int .u64 0, .int .u64 0, .int .u64 0, .int .u64 0, .int .u64 0, .int .u64 0, .int .u64 0] 33
  have hb := below_alloc HB2.out (.cells #[.int .u64 0, .int .u64 0, .int .u64 0, .int .u64 0, .int .u64 0, .int .u64 0, .int .u64 0, .int .u64 0, .int .u64 0, .int .u64 0, .int .u64 0] 33)
  obtain ⟨W3, hW⟩ : ∃ W, w2.alloc (.cells #[.int .u64 0, .int .u64 0, .int .u64 0, .int .u64 0, .int .u64 0, .int .u64 0, .int .u64 0, .int .u64 0, .int .u64 0, .int .u64 0, .int .u64 0] 33) = W := ⟨_, rfl⟩
  rw [hW] at hm hh hb  ⊢
  obtain ⟨b3, hbn⟩ : ∃ b, w2.heap.size = b := ⟨_, rfl⟩
  rw [hbn] at hh fb3 ⊢
  have HM3a := Aside0.mk hm
  have HB3a := Aside0.mk hb
  have Kx3 := Aside0.mk hh
  clear hW hbn hm hh hb 
  refine (handle_c 0 2305843009213693952 _ (by kernel_rfl)).mono ?_
  rintro e w' ⟨rfl, k3, rfl⟩
  have hdr : Below W3.heap.size W3 (W3.drewN k3) := pw_below_drewN (Below.refl _ _) _
  have HM3d := Aside0.mk (HM3a.out.below hdr)
  have HB3d : Aside0 (Below X.heap.size X (W3.drewN k3)) := ⟨HB3a.out.trans (hdr.mono HB3a.out.size)⟩
  have hx3 := below_blk hdr Kx3.out
  clear Kx3
  have Kx3 := Aside0.mk hx3
  clear hx3
  clear hdr
  go_wp2_with fail
  refine (call_ok _ B 0 F3 t m (hS [] 0) hK0 1 0 2305843009213693952 4294967296 0 0 0 0 0 0 0 0 HM3d.out (by decide) (by decide) (hxs _ _) (by decide) (by decide) (by decide) (by decide) (by decide) (by decide) (by decide) 0 _ _ hx2).mono ?_
  rintro e w3q ⟨rfl, hm, hk⟩
  have HM3q := Aside0.mk hm
  have HB3q : Aside0 (Below X.heap.size X w3q) := ⟨HB3d.out.trans ((hk.below HM3d.out.1 HM3d.out.2.2.1).mono HXB.out)⟩
  have hx3 := kept_blk hk Kx3.out (by exact fb3)
  clear Kx3
  have Kx3 := Aside0.mk hx3
  clear hx3
  clear hm hk
  go_wp2_with fail
  obtain ⟨F4, fF4, fb4, hm, hh⟩ := box_new HM3q.out #[.int .u64 0, .int .u64 0, .int .u64 0, .int .u64 0, .int .u64 0, .int .u64 0, .int .u64 0, .int .u64 0, .int .u64 0, .int .u64 0, .int .u64 0] 33
  have hb := below_alloc HB3q.out (.cells #[.int .u64 0, .int .u64 0, .int .u64 0, .int .u64 0, .int .u64 0, .int .u64 0, .int .u64 0, .int .u64 0, .int .u64 0, .int .u64 0, .int .u64 0] 33)
  have hx3 := below_blk (below_alloc (Below.refl w3q.heap.size w3q) (.cells #[.int .u64 0, .int .u64 0, .int .u64 0, .int .u64 0, .int .u64 0, .int .u64 0, .int .u64 0, .int .u64 0, .int .u64 0, .int .u64 0, .int .u64 0] 33)) Kx3.out
  obtain ⟨W4, hW⟩ : ∃ W, w3q.alloc (.cells #[.int .u64 0, .int .u64 0, .int .u64 0, .int .u64 0, .int .u64 0, .int .u64 0, .int .u64 0, .int .u64 0, .int .u64 0, .int .u64 0, .int .u64 0] 33) = W := ⟨_, rfl⟩
  rw [hW] at hm hh hb hx3 ⊢
  obtain ⟨b4, hbn⟩ : ∃ b, w3q.heap.size = b := ⟨_, rfl⟩
  rw [hbn] at hh fb4 ⊢
  have HM4a := Aside0.mk hm
  have HB4a := Aside0.mk hb
  clear Kx3
  have Kx3 := Aside0.mk hx3
  have Kx4 := Aside0.mk hh
  clear hW hbn hm hh hb hx3
  refine (handle_c 0 2305843009213693952 _ (by kernel_rfl)).mono ?_
  rintro e w' ⟨rfl, k4, rfl⟩
  have hdr : Below W4.heap.size W4 (W4.drewN k4) := pw_below_drewN (Below.refl _ _) _
  have HM4d := Aside0.mk (HM4a.out.below hdr)
  have HB4d : Aside0 (Below X.heap.size X (W4.drewN k4)) := ⟨HB4a.out.trans (hdr.mono HB4a.out.size)⟩
  have hx3 := below_blk hdr Kx3.out
  clear Kx3
  have Kx3 := Aside0.mk hx3
  clear hx3
  have hx4 := below_blk hdr Kx4.out
  clear Kx4
  have Kx4 := Aside0.mk hx4
  clear hx4
  clear hdr
  go_wp2_with fail
  refine (call_ok _ B 1 F4 t m (hS [] 0) hK0 3 0 2305843009213693952 4294967296 0 0 0 0 0 0 0 0 HM4d.out (by decide) (by decide) (hxs _ _) (by decide) (by decide) (by decide) (by decide) (by decide) (by decide) (by decide) _ _ _ hx3).mono ?_
  rintro e w4q ⟨rfl, hm, hk⟩
  have HM4q := Aside0.mk hm
  have HB4q : Aside0 (Below X.heap.size X w4q) := ⟨HB4d.out.trans ((hk.below HM4d.out.1 HM4d.out.2.2.1).mono HXB.out)⟩
  have hx3 := kept_blk hk Kx3.out (by exact fF4 _ (fb3))
  clear Kx3
  have Kx3 := Aside0.mk hx3
  clear hx3
  have hx4 := kept_blk hk Kx4.out (by exact fb4)
  clear Kx4
  have Kx4 := Aside0.mk hx4
  clear hx4
  clear hm hk
  go_wp2_with fail
  obtain ⟨F5, fF5, fb5, hm, hh⟩ := box_new HM4q.out #[.int .u64 18446744073709551614, .int .u64 0, .int .u64 0, .int .u64 0, .int .u64 0, .int .u64 0, .int .u64 0, .int .u64 0, .int .u64 0, .int .u64 0, .int .u64 0] 33
  have hb := below_alloc HB4q.out (.cells #[.int .u64 18446744073709551614, .int .u64 0, .int .u64 0, .int .u64 0, .int .u64 0, .int .u64 0, .int .u64 0, .int .u64 0, .int .u64 0, .int .u64 0, .int .u64 0] 33)
  have hx3 := below_blk (below_alloc (Below.refl w4q.heap.size w4q) (.cells #[.int .u64 18446744073709551614, .int .u64 0, .int .u64 0, .int .u64 0, .int .u64 0, .int .u64 0, .int .u64 0, .int .u64 0, .int .u64 0, .int .u64 0, .int .u64 0] 33)) Kx3.out
  have hx4 := below_blk (below_alloc (Below.refl w4q.heap.size w4q) (.cells #[.int .u64 18446744073709551614, .int .u64 0, .int .u64 0, .int .u64 0, .int .u64 0, .int .u64 0, .int .u64 0, .int .u64 0, .int .u64 0, .int .u64 0, .int .u64 0] 33)) Kx4.out
  obtain ⟨W5, hW⟩ : ∃ W, w4q.alloc (.cells #[.int .u64 18446744073709551614, .int .u64 0, .int .u64 0, .int .u64 0, .int .u64 0, .int .u64 0, .int .u64 0, .int .u64 0, .int .u64 0, .int .u64 0, .int .u64 0] 33) = W := ⟨_, rfl⟩
  rw [hW] at hm hh hb hx3 hx4 ⊢
  obtain ⟨b5, hbn⟩ : ∃ b, w4q.heap.size = b := ⟨_, rfl⟩
  rw [hbn] at hh fb5 ⊢
  have HM5a := Aside0.mk hm
  have HB5a := Aside0.mk hb
  clear Kx3
  have Kx3 := Aside0.mk hx3
  clear Kx4
  have Kx4 := Aside0.mk hx4
  have Kx5 := Aside0.mk hh
  clear hW hbn hm hh hb hx3 hx4
  refine (handle_c 0 2305843009213693952 _ (by kernel_rfl)).mono ?_
  rintro e w' ⟨rfl, k5, rfl⟩
  have hdr : Below W5.heap.size W5 (W5.drewN k5) := pw_below_drewN (Below.refl _ _) _
  have HM5d := Aside0.mk (HM5a.out.below hdr)
  have HB5d : Aside0 (Below X.heap.size X (W5.drewN k5)) := ⟨HB5a.out.trans (hdr.mono HB5a.out.size)⟩
  have hx3 := below_blk hdr Kx3.out
  clear Kx3
  have Kx3 := Aside0.mk hx3
  clear hx3
  have hx4 := below_blk hdr Kx4.out
  clear Kx4
  have Kx4 := Aside0.mk hx4
  clear hx4
  have hx5 := below_blk hdr Kx5.out
  clear Kx5
  have Kx5 := Aside0.mk hx5
  clear hx5
  clear hdr
  go_wp2_with fail
  refine (call_ok _ B 2 F5 t m (hS [] 0) hK0 2 0 2305843009213693952 4294967296 4294967297 0 0 9 0 0 0 0 HM5d.out (by decide) (by decide) (hxs _ _) (by decide) (by decide) (by decide) (by decide) (by decide) (by decide) (by decide) 0 _ _ hx4).mono ?_
  rintro e w5q ⟨rfl, hm, hk⟩
  have HM5q := Aside0.mk hm
  have HB5q : Aside0 (Below X.heap.size X w5q) := ⟨HB5d.out.trans ((hk.below HM5d.out.1 HM5d.out.2.2.1).mono HXB.out)⟩
  have hx3 := kept_blk hk Kx3.out (by exact fF5 _ (fF4 _ (fb3)))
  clear Kx3
  have Kx3 := Aside0.mk hx3
  clear hx3
  have hx4 := kept_blk hk Kx4.out (by exact fF5 _ (fb4))
  clear Kx4
  have Kx4 := Aside0.mk hx4
  clear hx4
  have hx5 := kept_blk hk Kx5.out (by exact fb5)
  clear Kx5
  have Kx5 := Aside0.mk hx5
  clear hx5
  clear hm hk
  go_wp2_with fail
  obtain ⟨F6, fF6, fb6, hm, hh⟩ := box_new HM5q.out #[.int .u64 0, .int .u64 0, .int .u64 0, .int .u64 0, .int .u64 0, .int .u64 0, .int .u64 9, .int .u64 0, .int .u64 0, .int .u64 0, .int .u64 0] 33
  have hb := below_alloc HB5q.out (.cells #[.int .u64 0, .int .u64 0, .int .u64 0, .int .u64 0, .int .u64 0, .int .u64 0, .int .u64 9, .int .u64 0, .int .u64 0, .int .u64 0, .int .u64 0] 33)
  have hx3 := below_blk (below_alloc (Below.refl w5q.heap.size w5q) (.cells #[.int .u64 0, .int .u64 0, .int .u64 0, .int .u64 0, .int .u64 0, .int .u64 0, .int .u64 9, .int .u64 0, .int .u64 0, .int .u64 0, .int .u64 0] 33)) Kx3.out
  have hx4 := below_blk (below_alloc (Below.refl w5q.heap.size w5q) (.cells #[.int .u64 0, .int .u64 0, .int .u64 0, .int .u64 0, .int .u64 0, .int .u64 0, .int .u64 9, .int .u64 0, .int .u64 0, .int .u64 0, .int .u64 0] 33)) Kx4.out
  have hx5 := below_blk (below_alloc (Below.refl w5q.heap.size w5q) (.cells #[.int .u64 0, .int .u64 0, .int .u64 0, .int .u64 0, .int .u64 0, .int .u64 0, .int .u64 9, .int .u64 0, .int .u64 0, .int .u64 0, .int .u64 0] 33)) Kx5.out
  obtain ⟨W6, hW⟩ : ∃ W, w5q.alloc (.cells #[.int .u64 0, .int .u64 0, .int .u64 0, .int .u64 0, .int .u64 0, .int .u64 0, .int .u64 9, .int .u64 0, .int .u64 0, .int .u64 0, .int .u64 0] 33) = W := ⟨_, rfl⟩
  rw [hW] at hm hh hb hx3 hx4 hx5 ⊢
  obtain ⟨b6, hbn⟩ : ∃ b, w5q.heap.size = b := ⟨_, rfl⟩
  rw [hbn] at hh fb6 ⊢
  have HM6a := Aside0.mk hm
  have HB6a := Aside0.mk hb
  clear Kx3
  have Kx3 := Aside0.mk hx3
  clear Kx4
  have Kx4 := Aside0.mk hx4
  clear Kx5
  have Kx5 := Aside0.mk hx5
  have Kx6 := Aside0.mk hh
  clear hW hbn hm hh hb hx3 hx4 hx5
  refine (number_c _ W6 (HL.out.below HB6a.out)).mono ?_
  rintro e w7 ⟨rfl, hb7⟩
  rw [hnum.1, hnum.2]
  have HM7 := Aside0.mk (HM6a.out.below hb7)
  have HB7 : Aside0 (Below X.heap.size X w7) := ⟨HB6a.out.trans (hb7.mono HB6a.out.size)⟩
  have hk4 := below_blk hb7 Kx4.out
  have hk5 := below_blk hb7 Kx5.out
  have hk6 := below_blk hb7 Kx6.out
  have hc4 : w7.cell? ⟨b4, 0, none⟩ = some (.int .u64 0) := by simp [World.cell?, hk4]
  have hc5 : w7.cell? ⟨b5, 0, none⟩ = some (.int .u64 18446744073709551614) := by simp [World.cell?, hk5]
  have hc6_0 : w7.cell? ⟨b6, 0, none⟩ = some (.int .u64 0) := by simp [World.cell?, hk6]
  have hc6_1 : w7.cell? ⟨b6, 1, none⟩ = some (.int .u64 0) := by simp [World.cell?, hk6]
  have hc6_2 : w7.cell? ⟨b6, 2, none⟩ = some (.int .u64 0) := by simp [World.cell?, hk6]
  have hc6_3 : w7.cell? ⟨b6, 3, none⟩ = some (.int .u64 0) := by simp [World.cell?, hk6]
  have hc6_4 : w7.cell? ⟨b6, 4, none⟩ = some (.int .u64 0) := by simp [World.cell?, hk6]
  have hc6_5 : w7.cell? ⟨b6, 5, none⟩ = some (.int .u64 0) := by simp [World.cell?, hk6]
  have hc6_6 : w7.cell? ⟨b6, 6, none⟩ = some (.int .u64 9) := by simp [World.cell?, hk6]
  have hc6_7 : w7.cell? ⟨b6, 7, none⟩ = some (.int .u64 0) := by simp [World.cell?, hk6]
  have hc6_8 : w7.cell? ⟨b6, 8, none⟩ = some (.int .u64 0) := by simp [World.cell?, hk6]
  have hc6_9 : w7.cell? ⟨b6, 9, none⟩ = some (.int .u64 0) := by simp [World.cell?, hk6]
  have hc6_10 : w7.cell? ⟨b6, 10, none⟩ = some (.int .u64 0) := by simp [World.cell?, hk6]
  have heq : ∀ w : World, (Op.equalIn 10000 33 (.agg #[.int .u64 0, .int .u64 0, .int .u64 0, .int .u64 0, .int .u64 0, .int .u64 0, .int .u64 9, .int .u64 0, .int .u64 0, .int .u64 0, .int .u64 0]) (.agg #[.int .u64 0, .int .u64 0, .int .u64 0, .int .u64 0, .int .u64 0, .int .u64 0, .int .u64 9, .int .u64 0, .int .u64 0, .int .u64 0, .int .u64 0])).run Tryd.prog w = .ok true w := fun _ => by kernel_rfl
  clear hb7 Kx3 Kx4 Kx5 Kx6 hk4 hk5 hk6
  go_wp2_with fail
  refine (lm_lookup1 w7 B 3 t m (hS [([5], 0)] 1) hK1 0 _ _ [5] HM7.out.lm rfl rfl (by decide) (by decide) _ hx5).mono ?_
  rintro e w8 ⟨rfl, hm8, hb8⟩
  have HB8 : Aside0 (Below X.heap.size X w8) := ⟨HB7.out.trans (hb8.mono HXB.out)⟩
  clear hm8 hb8
  go_wp2_with fail
  refine (name_c 2 w8 (HL.out.below HB8.out)).mono ?_
  rintro e w9 ⟨rfl, rfl⟩
  rw [hnam]
  go_wp2_with fail
  go_ret
  exact ⟨rfl, HB8.out⟩
end Go.Proofs.YtomnfkihieinbaaDoor.PAll
