/- mem: Remove; the nil memory. -/
import Derived.Test.YtlolhmocimaobaaMemDel
set_option linter.unusedVariables false
set_option linter.unusedSimpArgs false
namespace Go.Proofs.Ytlolhmocimaobaa.PAll
open Go.RowKit Go.Shelf Go.Proofs.YtlolhmocimaobaaW.PrintWords Go.Proofs.YtlolhmocimaobaaW.PrintLast Go.Proofs.YtlolhmocimaobaaW.PrintMore
theorem del_get {α : Type} (l : List α) (i : Nat) (hi : i < l.length) (j : Nat) : (l.take i ++ l.drop (i + 1))[j]? = if j < i then l[j]? else l[j + 1]? := by
  have hl : (l.take i).length = i := by rw [List.length_take]; omega
  by_cases h1 : j < i
  · rw [if_pos h1, List.getElem?_append_left (by omega), List.getElem?_take, if_pos h1]
  · rw [if_neg h1, List.getElem?_append_right (by omega), hl, List.getElem?_drop]
    congr 1
    omega
/-- A region is taken out. -/
theorem MemIn.remove {X Y : World} {B : Nat} {own : Nat → Prop} {m : Nat} {L : List Reg} {v v' : Value} {ps : List (Nat × Nat)} (h : MemIn X B own m L v ps) (i : Nat) (hi : i < L.length)
    (hk : ∀ k, k < X.heap.size → k ≠ m → v.ownBlock ≠ some k → Y.heap[k]? = X.heap[k]?) (hm : Y.heap[m]? = some (memBlock v')) (hrow : Y.ownsRow B 56 1 v' (L.length - 1) ((ps.take i ++ ps.drop (i + 1)).map fun p => ptr p.1))
    (hvo : ∀ k, v'.ownBlock = some k → own k) : MemIn Y B own m (L.take i ++ L.drop (i + 1)) v' (ps.take i ++ ps.drop (i + 1)) := by
  have hil : i < ps.length := by rw [h.len]; exact hi
  have hlen : (L.take i ++ L.drop (i + 1)).length = L.length - 1 := by rw [List.length_append, List.length_take, List.length_drop]; omega
  have hold : ∀ (j : Nat) (p : Nat × Nat) (r : Reg), ps[j]? = some p → L[j]? = some r → RegAt Y B own p r := fun j p r hp hr => by
    have g := h.reg j p r hp hr
    obtain ⟨cap, hb, hro⟩ := g.lies
    obtain ⟨cur, hcur⟩ := row_block hro rfl
    have n1 : p.1 ≠ m := fun e => two_blocks hb h.blk (by decide) e
    have n2 : p.2 ≠ m := fun e => two_blocks hcur h.blk (by decide) e
    refine g.keep (hk p.1 g.lt.1 n1 (fun e => ?_)) (hk p.2 g.lt.2 n2 (fun e => ?_))
    · obtain ⟨c2, hc2⟩ := row_block h.row e
      exact two_blocks hb hc2 (by decide) rfl
    · obtain ⟨c2, hc2⟩ := row_block h.row e
      exact two_blocks hcur hc2 (by decide) rfl
  refine ⟨hm, h.om, h.bm, ?_, hvo, ?_, ?_, ?_⟩
  · rw [hlen]
    exact hrow
  · rw [hlen, List.length_append, List.length_take, List.length_drop]; have := h.len; omega
  · intro j p r hp hr
    rw [del_get _ _ hil] at hp
    rw [del_get _ _ hi] at hr
    by_cases h1 : j < i
    · rw [if_pos h1] at hp hr
      exact hold j p r hp hr
    · rw [if_neg h1] at hp hr
      exact hold (j + 1) p r hp hr
  · refine List.Sublist.nodup (List.Sublist.map _ ?_) h.nd
    have h1 : (ps.take i ++ ps.drop (i + 1)).Sublist (ps.take i ++ ps.drop i) := List.Sublist.append (List.Sublist.refl _) (by rw [List.drop_add_one_eq_tail_drop]; exact List.tail_sublist _)
    rwa [List.take_append_drop] at h1
def remF (L : List Reg) (a : Int) : Option (List Reg) :=
  match L.findIdx? (fun r => r.base == a) with
  | none => none
  | some k => some (L.take k ++ L.drop (k + 1))
def RemPost (X : World) (B : Nat) (own : Nat → Prop) (m : Nat) (L : List Reg) (a : Int) (e : Ending) (X' : World) : Prop :=
  match remF L a with
  | none => e = .returned (.bool false) ∧ Below X.heap.size X X'
  | some L' => e = .returned (.bool true) ∧ MemAt X' B own m L' ∧ Out own X X'
theorem remF_none {L : List Reg} {a : Int} (h : ∀ r ∈ L, r.base ≠ a) : remF L a = none := by
  unfold remF
  have : L.findIdx? (fun r => r.base == a) = none := List.findIdx?_eq_none_iff.2 (fun r hr => by simpa using h r hr)
  rw [this]
theorem remF_some {L : List Reg} {a : Int} (hI : Inv L) {k : Nat} {r : Reg} (hr : L[k]? = some r) (hb : r.base = a) : remF L a = some (L.take k ++ L.drop (k + 1)) := by
  unfold remF
  have hk := (List.getElem?_eq_some_iff.1 hr).1
  have : L.findIdx? (fun r => r.base == a) = some k := by
    rw [List.findIdx?_eq_some_iff_getElem]
    obtain ⟨h1, h2⟩ := List.getElem?_eq_some_iff.1 hr
    refine ⟨h1, by rw [h2]; simpa using hb, fun j hj => ?_⟩
    have h3 := hI.apart j k _ r hj (List.getElem?_eq_getElem (by omega)) hr
    have h4 := hI.pos _ (List.getElem_mem (l := L) (n := j) (by omega))
    simp
    omega
  rw [this]
set_option maxHeartbeats 4000000 in
set_option maxRecDepth 100000 in
theorem mem_Remove (X : World) (B : Nat) (own : Nat → Prop) (m : Nat) (L : List Reg) (a : Int) (h : MemAt X B own m L) (hI : Inv L) (hl : L.length ≤ 1000000) (ha0 : 0 ≤ a) (ha1 : a < 18446744073709551616) :
    Calls Try.prog 19 #[.pointer (some ⟨m, 0, none⟩), .int .u64 a] X (RemPost X B own m L a) := by
  obtain ⟨v, ps, hM⟩ := h
  obtain ⟨A, c, rfl⟩ := own_slice hM.row
  have HM := Aside0.mk hM
  have HI := Aside0.mk hI
  have HAT := Aside0.mk (mem_at X B own m L _ ps a hM hI hl)
  clear hM hI ha0 ha1
  go_enter Try.func19, Try.ntmps19
  go_wp2_with fail
  refine HAT.out.mono ?_
  rintro e W ⟨⟨i, hi, rfl⟩, hb⟩
  have HB := Aside0.mk hb
  have HM4 := Aside0.mk (HM.out.below hb)
  have hm0 := (blk2 HM4.out.blk).1
  cases i with
  | zero =>
    have HF : Aside0 (RemPost X B own m L a (.returned (.bool false)) W) := ⟨by
      unfold RemPost
      rw [remF_none (fun r hr => by
        obtain ⟨j, hj⟩ := List.mem_iff_getElem?.1 hr
        have := hi.2.2 j r (Nat.zero_le _) hj
        omega)]
      exact ⟨rfl, hb⟩⟩
    clear hi hb
    go_wp2_with fail
    go_ret
    exact HF.out
  | succ i =>
    have hil := hi.1
    obtain ⟨p, r, gg, cap, hp, hr, hv, hc, hcap, hcm, hra⟩ := HM4.out.get (i := i) (by omega)
    cases hv
    obtain ⟨cr, hrb2, _⟩ := hra.lies
    have hp0 := (blk2 hrb2).1
    rw [show (((i + 1 : Nat) : Int) - 1) = (i : Int) by omega]
    by_cases hba : r.base = a
    · have HF := Aside0.mk (remF_some HI.out hr hba)
      subst hba
      clear hi hb
      have HDEL := Aside0.mk (del_one W B _ L.length i (ps.map fun p => some ⟨p.1, 0, none⟩) (by rw [List.map_map]; exact HM4.out.row) (by omega))
      go_wp2_with fail
      refine HDEL.out.mono ?_
      rintro e W7 ⟨v', rfl, hrow7, hout7, hvo7⟩
      obtain ⟨A', c', rfl⟩ := own_slice hrow7
      have hnm : (Value.slice (some ⟨gg, 0, none⟩) L.length c).ownBlock ≠ some m := fun e => by
        obtain ⟨c2, hc2⟩ := row_block HM4.out.row e
        exact two_blocks hc2 HM4.out.blk (by decide) rfl
      have HM7 : Aside0 (W7.heap[m]? = some (memBlock (.slice (some ⟨gg, 0, none⟩) L.length c))) := ⟨(hout7.block m (Array.getElem?_eq_some_iff.1 HM4.out.blk).1 hnm).trans HM4.out.blk⟩
      have hm7 := (blk2 HM7.out).1
      have hf7 := (blk2 HM7.out).2.2.1
      have HP : Aside0 (RemPost X B own m L r.base (.returned (.bool true)) (W7.setCell ⟨m, 0, none⟩ (.slice A' (L.length - 1) c'))) := by
        refine ⟨?_⟩
        unfold RemPost
        rw [HF.out]
        have hset : ∀ k, k ≠ m → (W7.setCell ⟨m, 0, none⟩ (.slice A' (L.length - 1) c')).heap[k]? = W7.heap[k]? := fun k hk => Below.heap_setCell W7 ⟨m, 0, none⟩ _ k hk
        have hv'm : (Value.slice A' (L.length - 1) c').ownBlock ≠ some m := by rw [hvo7]; exact hnm
        refine ⟨rfl, ⟨_, _, HM4.out.remove i (by omega) (fun k hk hkm hkv => (hset k hkm).trans (hout7.block k hk hkv)) ?_ ?_ (fun k hk => HM4.out.orow k (by rw [← hvo7]; exact hk))⟩, ?_⟩
        · exact blk_put HM7.out 0 _ rfl
        · refine row_keep (v := .slice A' (L.length - 1) c') ?_ (fun k hk => hset k (fun e => hv'm (by rw [hk, e])))
          simpa [List.map_take, List.map_drop, List.map_map, Function.comp_def, ptr] using hrow7
        · exact ((below_out HB.out own).trans hout7 (fun k _ hk => HM4.out.orow k hk)).trans (set_out W7 m 0 _) (fun k _ hk => by rw [hk]; exact HM.out.om)
      clear hrow7 hout7 hvo7
      go_wp2
      go_ret
      exact HP.out
    · have HF : Aside0 (RemPost X B own m L a (.returned (.bool false)) W) := ⟨by
        unfold RemPost
        rw [remF_none (fun q hq e => by
          obtain ⟨j, hj⟩ := List.mem_iff_getElem?.1 hq
          have h1 := hi.2.1 i r (by omega) hr
          rcases Nat.lt_trichotomy j i with h | h | h
          · have := HI.out.apart j i q r h hj hr
            have := HI.out.pos q hq
            omega
          · subst h; rw [hr] at hj; cases hj; exact hba e
          · have := hi.2.2 j q (by omega) hj
            omega)]
        exact ⟨rfl, hb⟩⟩
      have hne : (r.base == a) = false := beq_eq_false_iff_ne.mpr hba
      have hne2 : (r.base != a) = true := bne_iff_ne.mpr hba
      clear hi hb
      go_wp2_with fail
      go_ret
      exact HF.out
end Go.Proofs.Ytlolhmocimaobaa.PAll
