/- The iterator over the texts of a table: what it hands to a loop's body, round for round; and the carrying of a drawn region's walk into a round. Condition: the bytes are fewer than 2^30. -/
import Derived.Test.YtbepheikefkaiaaPAllx6
import Derived.Test.YtbepheikefkaiaaStrPure
import Derived.Test.YtbepheikefkaiaaShelf
import Derived.RangeFuncNested
import Derived.RangeFuncBound
import Derived.RangeFuncCalls
import Derived.RangeFuncLeaves
import Derived.Shelf.Abstract
import Derived.Shelf.RegionOpen
import Derived.WalkKit
import Derived.OwnWalkIn
import Derived.TacticsInMore
import Derived.LoopNIn
import Derived.LoopIn
import Derived.RangeFuncBox
import Derived.RangeFuncFrom
set_option linter.unusedVariables false
set_option linter.unusedSimpArgs false
namespace Go.Proofs.Ytbepheikefkaiaa.PAll
open Go.RowKit Go.Shelf Go.Proofs.YtbepheikefkaiaaW.PrintWords Go.Proofs.YtbepheikefkaiaaW.PrintLast Go.Proofs.YtbepheikefkaiaaW.PrintMore
attribute [local go_sem] Oper.semAt_some
/-! ### strtab.texts (function 23), its closure (function 27) -/
/-- The offsets and texts behind the first byte; a text that is missing is empty, and ends it. -/
def items : Nat → List Int → Nat → List (Int × ByteArray)
  | 0, _, _ => []
  | k + 1, b, at_ => if at_ < b.length then ((at_ : Int), (getR b at_).1) :: (if (getR b at_).1.toList = [] then [] else items k b (at_ + (getR b at_).1.size + 1)) else []
def encI (x : Int × ByteArray) : Array Value := #[.int .i64 x.1, .string x.2]
/-- What a round keeps: what lay ahead of the call, and the box of the bytes. -/
def Keep (n₀ Bn : Nat) (W W' : World) : Prop := Below n₀ W W' ∧ ∀ o : Obj, W.heap[Bn]? = some o → o.isCells = true → W'.heap[Bn]? = some o
theorem Keep.trans {n₀ Bn : Nat} {A B C : World} (h : Keep n₀ Bn A B) (k : Keep n₀ Bn B C) : Keep n₀ Bn A C :=
  ⟨h.1.trans k.1, fun o ho hc => k.2 o (h.2 o ho hc) hc⟩
theorem Keep.book {n₀ Bn : Nat} {w : World} (hn : n₀ ≤ w.heap.size) (W : World) (l : Nat) (o o' : Obj) (hl : w.heap.size ≤ l) (h : W.heap[l]? = some o) (hc : o.isCells = false) (hw : o.isWalk = false) : Keep n₀ Bn W (W.putObj l o') :=
  ⟨belowK_b hn W l o o' hl h hc hw, fun q hq hqc => by
    rw [World.putObj_heap_other (fun e => by subst e; rw [h] at hq; cases hq; rw [hc] at hqc; cases hqc)]
    exact hq⟩
theorem getR_room (l : List Int) (at_ : Nat) (h : at_ < l.length) : at_ + (getR l at_).1.size + 1 ≤ l.length + 1 ∨ (getR l at_).1.toList = [] := by
  by_cases hz : 0 ≤ zeroAt (l.drop at_)
  · left
    have e : getR l at_ = (strOfNums ((l.drop at_).take (zeroAt (l.drop at_)).toNat), 0) := by unfold getR; rw [if_neg (by omega), Int.toNat_natCast, if_pos hz]
    rw [e]
    have : (strOfNums ((l.drop at_).take (zeroAt (l.drop at_)).toNat)).size ≤ (l.drop at_).length := by rw [strOfNums_size, List.length_take]; omega
    rw [List.length_drop] at this
    show at_ + (strOfNums _).size + 1 ≤ _
    omega
  · right
    have e : getR l at_ = (⟨#[]⟩, 4) := by unfold getR; rw [if_neg (by omega), Int.toNat_natCast, if_neg hz]
    rw [e, Lib.toList_data]
set_option maxRecDepth 100000 in
set_option maxHeartbeats 4000000 in
theorem texts1_in (n : Nat) (hn : 1 ≤ n) (l Bn n₀ : Nat) (A0 : Option Addr) (c0 : Nat) (l0 : List Int) (K N : Nat) (J Jx : List (Int × ByteArray) → World → Prop)
    (hm : l0.length ≤ 1073741824) (hc0 : l0.length ≤ c0) (hK : l0.length < K) (hN : (items K l0 1).length ≤ N)
    (hY : ∀ pre x W, J pre W → pre.length < N → YieldAt Fence.wide (n - 1) Try.prog l (encI x) W fun e W' =>
      (e = .returned (.bool true) ∧ J (pre ++ [x]) W' ∧ Keep n₀ Bn W W') ∨ (e = .returned (.bool false) ∧ Jx (pre ++ [x]) W'))
    (hJ : ∀ pre W W', J pre W → Below W.heap.size W W' → J pre W')
    (W : World) (hBn : W.heap[Bn]? = some (.cells #[.slice A0 l0.length c0] 25 (0, 0))) (hC : ∀ W', Below n₀ W W' → Kd.C (Kd.int .u8) W' A0 l0.length l0) (h0 : J [] W) (hn0 : n₀ ≤ W.heap.size) :
    CallsIn Fence.wide n Try.prog 27 #[.func (.yield l) #[] #[], .pointer (some ⟨Bn, 0, none⟩)] W fun e W' => (∃ v, e = .returned v) ∧
      ((∃ ys, ys = items K l0 1 ∧ J ys W') ∨ (∃ pre, pre <+: items K l0 1 ∧ Jx pre W')) := by
  refine callsIn_of_wp Try.func27 rfl trivial ?_ rfl
  simp only [Try.ntmps27, List.size_toArray, List.length_cons, List.length_nil, Nat.reduceAdd, Nat.reduceSub, Array.replicate_succ, Array.replicate_zero, List.push_toArray, List.append_toArray, List.nil_append, List.cons_append]
  gi_wp2
  gi_loopw [3] (fun v3 wr => ∃ (pre rest : List (Int × ByteArray)) (at_ k : Nat), v3 = .int .i64 at_ ∧ Aside0 (items K l0 1 = pre ++ rest) ∧ Aside0 (rest = items k l0 at_) ∧ l0.length < at_ + k ∧ at_ ≤ l0.length + 1 ∧ Aside0 (J pre wr) ∧ Aside0 (wr.heap[Bn]? = some (.cells #[.slice A0 l0.length c0] 25 (0, 0))) ∧ Aside0 (Below n₀ W wr) ∧ Aside0 (n₀ ≤ wr.heap.size)) (fun v3 _ => l0.length + 1 - (intOf v3).toNat)
  case atStart => exact ⟨[], items K l0 1, 1, K, rfl, ⟨rfl⟩, ⟨rfl⟩, by omega, by omega, ⟨h0⟩, ⟨hBn⟩, ⟨Below.refl _ _⟩, ⟨hn0⟩⟩
  case round =>
    obtain ⟨pre, rest, at_, k, rfl, HX, HR, hk, hat, HJ, HBn, HB, HN⟩ := hrel
    have hbox := (blk_cell HBn.out 0).trans rfl
    by_cases hlt : at_ < l0.length
    · obtain ⟨k, rfl⟩ : ∃ m, k = m + 1 := ⟨k - 1, by omega⟩
      obtain ⟨s, hs⟩ : ∃ s, s = (getR l0 (at_ : Int)).1 := ⟨_, rfl⟩
      have HS := Aside0.mk hs
      have hrest : rest = ((at_ : Int), s) :: (if s.toList = [] then [] else items k l0 (at_ + s.size + 1)) := by
        have h_ := HR.out
        simp only [items] at h_
        rw [if_pos hlt, ← hs] at h_
        exact h_
      have hlen : pre.length < N := by
        have h_ := hN
        rw [HX.out, hrest] at h_
        simp at h_; omega
      have HREST := Aside0.mk hrest
      clear hs hrest HR
      have HCall := Aside0.mk (strtab_Get.any A0 c0 l0 (at_ : Int) wr (hC _ HB.out) hc0 hm)
      rw [← HS.out] at HCall
      have HC' := Aside0.mk hC
      have HJ' := Aside0.mk hJ
      have HY' := Aside0.mk hY
      clear hC hJ hY hBn h0
      gi_wp2_with (refine ⟨trivial, ?_⟩; gi_at_call 19; refine (callsIn_wide.2 HCall.out).mono ?_; rintro e w1 ⟨rfl, hb⟩; have HB1 := Aside0.mk hb; obtain ⟨fn, tmps, assign, body, hy, hR⟩ := HY'.out pre ((at_ : Int), s) w1 (HJ'.out _ _ _ HJ.out hb) hlen; clear hb; dsimp only [encI] at hy)
      have hbl : Bn < wr.heap.size := (Array.getElem?_eq_some_iff.1 HBn.out).1
      have HBn1 := Aside0.mk ((HB1.out.block Bn hbl).trans HBn.out)
      have hsb : at_ + s.size + 1 ≤ l0.length + 1 ∨ s.toList = [] := by
        rw [HS.out]
        exact getR_room l0 at_ hlt
      refine hR.mono ?_
      rintro e W3 (⟨rfl, hJ3, hk3⟩ | ⟨rfl, hJx3⟩)
      · have HBn3 := Aside0.mk (hk3.2 _ HBn1.out rfl)
        have HJ3 := Aside0.mk hJ3
        have HB3 := Aside0.mk (((HB.out.trans (HB1.out.mono HN.out))).trans hk3.1)
        have HN3 := Aside0.mk (show n₀ ≤ W3.heap.size from Nat.le_trans HN.out (Nat.le_trans HB1.out.size hk3.1.size))
        clear hJ3 hk3
        by_cases he : s.toList = []
        · gi_wp2
          refine bodyPost_ret (results_none rfl _ _ _) rfl ?_
          exact ⟨⟨_, rfl⟩, .inl ⟨pre ++ [((at_ : Int), s)], by rw [HX.out, HREST.out, if_pos he], HJ3.out⟩⟩
        · have hsb2 : at_ + s.size + 1 ≤ l0.length + 1 := by
            rcases hsb with h | h
            · exact h
            · exact absurd h he
          clear hsb
          gi_wp2
          · have hemp : s.toList.isEmpty = true := by assumption
            exact absurd (List.isEmpty_iff.1 hemp) he
          refine ⟨⟨pre ++ [((at_ : Int), s)], items k l0 (at_ + s.size + 1), at_ + s.size + 1, k, ?_, ⟨by rw [HX.out, HREST.out, if_neg he]; simp⟩, ⟨rfl⟩, by omega, by omega, HJ3, HBn3, HB3, HN3⟩, ?_⟩
          · first | (congr 1; done) | (congr 1; omega)
          · first | (simp [intOf]; done) | (simp [intOf]; omega)
      · gi_wp2
        refine bodyPost_ret (results_none rfl _ _ _) rfl ?_
        exact ⟨⟨_, rfl⟩, .inr ⟨pre ++ [((at_ : Int), s)], ⟨_, by rw [HX.out, HREST.out]; simp; rfl⟩, hJx3⟩⟩
    · gi_wp2
      go_end0
      have hnil : rest = [] := by
        have h_ := HR.out
        cases k with
        | zero => exact h_
        | succ k => simp only [items] at h_; rw [if_neg hlt] at h_; exact h_
      exact ⟨⟨_, rfl⟩, .inl ⟨pre, by rw [HX.out, hnil, List.append_nil], HJ.out⟩⟩
theorem below_grown {W W' : World} (h : Below W.heap.size W W') (row : Option Nat) : W.grownBy W' row := ⟨h.os, h.tape, h.output, h.size, fun k hk _ => h.block k hk⟩
set_option maxHeartbeats 1000000 in
/-- texts hands back the closure over the box of the bytes. -/
theorem texts_in (n : Nat) (v : Value) (hv : v.oneCell' = true) (w : World) :
    CallsIn Fence.wide n Try.prog 23 #[v] w fun e w' => e = .returned (.func (.func 27) #[] #[.pointer (some ⟨w.heap.size, 0, none⟩)]) ∧ w' = w.alloc (.cells #[v] 25) := by
  refine callsIn_of_wp Try.func23 rfl trivial ?_ rfl
  simp only [Try.ntmps23, List.size_toArray, List.length_cons, List.length_nil, Nat.reduceAdd, Nat.reduceSub, Array.replicate_succ, Array.replicate_zero, List.push_toArray, List.append_toArray, List.nil_append, List.cons_append]
  have hmf : ∀ (fn : Fn) (first cap : Array Value) (w : World), (Instr.makeFunc fn first cap).run Try.prog w = .ok (.func fn first cap) w := fun _ _ _ _ => rfl
  gi_wp2
  go_ret
  exact ⟨rfl, rfl⟩
theorem texts_stops (n : Nat) (hn : 1 ≤ n) (Bn n₀ : Nat) (A0 : Option Addr) (c0 : Nat) (l0 : List Int) (K N : Nat) (hm : l0.length ≤ 1073741824) (hc0 : l0.length ≤ c0) (hK : l0.length < K) (hN : (items K l0 1).length ≤ N) (w : World) (hn0 : n₀ ≤ w.heap.size)
    (hBn : w.heap[Bn]? = some (.cells #[.slice A0 l0.length c0] 25 (0, 0))) (hC : ∀ W', Below n₀ w W' → Kd.C (Kd.int .u8) W' A0 l0.length l0) :
    SeqStopsK Fence.wide n Try.prog 27 #[.pointer (some ⟨Bn, 0, none⟩)] encI (Keep n₀ Bn) (fun ys => ys = items K l0 1) (fun pre => pre <+: items K l0 1) N w := fun l J Jx W hW hJ _ hY h0 =>
  texts1_in n hn l Bn n₀ A0 c0 l0 K N J Jx hm hc0 hK hN hY
    (fun pre W1 W2 h1 hb => hJ pre W1 W2 none h1 (below_grown hb none) (fun r e => by cases e))
    W ((hW.block Bn (Array.getElem?_eq_some_iff.1 hBn).1).trans hBn) (fun W' hb => hC W' ((hW.mono hn0).trans hb)) h0 (Nat.le_trans hn0 hW.size)
section
variable {l n : Nat} {P : Program} {ops : Array Oper} {o : Oper} {a : Act} {Q : Exit → Act → World → Prop}
/-- What holds of an operation's result outside holds of it in a round of a loop over a function. -/
theorem uponIn_of {next : Act → World → Prop} {r : Result Next} (h : o.upon P a next Q r) : o.uponIn (Fence.wide.inRound l) n P a next Q r := by
  unfold Oper.upon at h
  unfold Oper.uponIn
  split at h <;> simp_all
  · exact ⟨(fun h => by cases h), CallsIn.inRound l (callsIn_wide.2 h)⟩
  · exact ⟨(fun h => by cases h), fun c cs _ => let ⟨v, w', r, s⟩ := h c cs; ⟨v, w', r, stepsIn_wide.2 s⟩⟩
theorem wpIn_of (hnd : ∀ c, o.op ≠ .defer c) {K : Act → World → Prop} {w : World} (h : Oper.wp P o a w K Q) : Oper.wpIn (Fence.wide.inRound l) n P o a w K Q := by
  unfold Oper.wpIn
  rw [Oper.semAt_plain _ _ _ hnd]
  exact ⟨fun _ _ => trivial, uponIn_of h⟩
theorem wpOpIn_of (hlo : ¬ LetsOut Q) (hnd : ∀ (i : Nat) (o : Oper), ops[i]? = some o → ∀ c, o.op ≠ Op.defer c) (i : Nat) {K K' : Act → World → Prop} (hK : ∀ a w, K a w → K' a w) {w : World} (h : wpOp P ops Q i K a w) : wpOpIn (Fence.wide.inRound l) n P ops Q i K' a w := by
  unfold wpOp at h
  unfold wpOpIn
  cases ho : ops[i]? with
  | none => simp only [ho] at h ⊢; exact hK _ _ h
  | some o =>
    simp only [ho] at h ⊢
    split
    · rename_i hw
      rw [if_pos hw] at h
      rcases h with h | ⟨_, h⟩
      · exact Oper.wpIn_mono hK (wpIn_of (hnd i o ho) h)
      · exact absurd h hlo
    · rename_i hw
      rw [if_neg hw] at h
      exact ⟨fun _ _ => trivial, hK _ _ h⟩
theorem wpAnyIn_of (hlo : ¬ LetsOut Q) (hnd : ∀ (i : Nat) (o : Oper), ops[i]? = some o → ∀ c, o.op ≠ Op.defer c) (md : Region.Mode) : ∀ (fuel : Nat) (listed : Array Bool) (a : Act) (w : World), wpAny P md ops Q fuel listed a w → wpAnyIn (Fence.wide.inRound l) n P md ops Q fuel listed a w := by
  intro fuel
  induction fuel with
  | zero => intro listed a w h; exact h
  | succ fuel ih =>
    intro listed a w h
    exact ⟨h.1, fun i hi => wpOpIn_of hlo hnd i (fun a w hk => ih _ a w hk) (h.2 i hi)⟩
end
end Go.Proofs.Ytbepheikefkaiaa.PAll
