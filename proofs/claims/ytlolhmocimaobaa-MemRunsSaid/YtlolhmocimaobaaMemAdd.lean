/- mem: Add. -/
import Derived.Test.YtlolhmocimaobaaMemIns2
set_option linter.unusedVariables false
set_option linter.unusedSimpArgs false
namespace Go.Proofs.Ytlolhmocimaobaa.PAll
open Go.RowKit Go.Shelf Go.Proofs.YtlolhmocimaobaaW.PrintWords Go.Proofs.YtlolhmocimaobaaW.PrintLast Go.Proofs.YtlolhmocimaobaaW.PrintMore
theorem ins_get {α : Type} (l : List α) (i : Nat) (x : α) (hi : i ≤ l.length) (j : Nat) : (l.take i ++ [x] ++ l.drop i)[j]? = if j < i then l[j]? else if j = i then some x else l[j - 1]? := by
  have hl : (l.take i).length = i := by rw [List.length_take]; omega
  by_cases h1 : j < i
  · rw [if_pos h1, List.append_assoc, List.getElem?_append_left (by omega), List.getElem?_take, if_pos h1]
  · rw [if_neg h1, List.append_assoc, List.getElem?_append_right (by omega), hl]
    by_cases h2 : j = i
    · subst h2; rw [if_pos rfl, Nat.sub_self]; rfl
    · rw [if_neg h2, List.getElem?_append_right (by simp; omega), List.getElem?_drop]
      congr 1
      simp
      omega
/-- A region is laid between the others. -/
theorem MemIn.insert {X Y : World} {B : Nat} {own own' : Nat → Prop} {m : Nat} {L : List Reg} {v v' : Value} {ps : List (Nat × Nat)} (h : MemIn X B own m L v ps) (i : Nat) (hi : i ≤ L.length) (s : Reg) (rb g1 : Nat) (hown : ∀ k, own k → own' k)
    (hk : ∀ k, k < X.heap.size → k ≠ m → v.ownBlock ≠ some k → Y.heap[k]? = X.heap[k]?) (hm : Y.heap[m]? = some (memBlock v')) (hrow : Y.ownsRow B 56 1 v' (L.length + 1) ((ps.map fun p => ptr p.1).take i ++ [ptr rb] ++ (ps.map fun p => ptr p.1).drop i))
    (hvo : ∀ k, v'.ownBlock = some k → own' k) (hreg : RegAt Y B own' (rb, g1) s) (hg1 : X.heap.size ≤ g1) : MemIn Y B own' m (L.take i ++ [s] ++ L.drop i) v' (ps.take i ++ [(rb, g1)] ++ ps.drop i) := by
  have hil : i ≤ ps.length := by rw [h.len]; exact hi
  have hlen : (L.take i ++ [s] ++ L.drop i).length = L.length + 1 := by simp; omega
  have hold : ∀ (j : Nat) (p : Nat × Nat) (r : Reg), ps[j]? = some p → L[j]? = some r → RegAt Y B own' p r := fun j p r hp hr => by
    have g := h.reg j p r hp hr
    obtain ⟨cap, hb, hro⟩ := g.lies
    obtain ⟨cur, hcur⟩ := row_block hro rfl
    have n1 : p.1 ≠ m := fun e => two_blocks hb h.blk (by decide) e
    have n2 : p.2 ≠ m := fun e => two_blocks hcur h.blk (by decide) e
    refine (g.keep (hk p.1 g.lt.1 n1 (fun e => ?_)) (hk p.2 g.lt.2 n2 (fun e => ?_))).mono (hown _) (hown _)
    · obtain ⟨c2, hc2⟩ := row_block h.row e
      exact two_blocks hb hc2 (by decide) rfl
    · obtain ⟨c2, hc2⟩ := row_block h.row e
      exact two_blocks hcur hc2 (by decide) rfl
  refine ⟨hm, hown _ h.om, h.bm, ?_, hvo, ?_, ?_, ?_⟩
  · rw [hlen]
    simpa [List.map_take, List.map_drop] using hrow
  · rw [hlen, List.length_append, List.length_append, List.length_take, List.length_drop, List.length_singleton]; have := h.len; omega
  · intro j p r hp hr
    rw [ins_get _ _ _ hil] at hp
    rw [ins_get _ _ _ hi] at hr
    by_cases h1 : j < i
    · rw [if_pos h1] at hp hr
      exact hold j p r hp hr
    · rw [if_neg h1] at hp hr
      by_cases h2 : j = i
      · rw [if_pos h2] at hp hr
        cases hp; cases hr
        exact hreg
      · rw [if_neg h2] at hp hr
        exact hold (j - 1) p r hp hr
  · have hlt : ∀ q ∈ ps, q.2 < X.heap.size := fun q hq => by
      obtain ⟨j, hj⟩ := List.mem_iff_getElem?.1 hq
      have hjl := (List.getElem?_eq_some_iff.1 hj).1
      exact (h.reg j q _ hj (List.getElem?_eq_getElem (by rw [← h.len]; exact hjl))).lt.2
    have hnd : ((ps.take i ++ ps.drop i).map (·.2)).Nodup := by rw [List.take_append_drop]; exact h.nd
    have hp : ((ps.take i ++ [(rb, g1)] ++ ps.drop i).map (·.2)).Perm (g1 :: (ps.take i ++ ps.drop i).map (·.2)) := by
      rw [List.append_assoc, List.map_append, List.map_append, List.map_append]
      exact List.perm_middle
    refine hp.nodup_iff.2 (List.nodup_cons.2 ⟨fun hg => ?_, hnd⟩)
    obtain ⟨q, hq, e⟩ := List.mem_map.1 hg
    rw [List.take_append_drop] at hq
    have := hlt q hq
    omega
def addOk (L : List Reg) (base : Int) (n : Nat) : Bool := decide (0 < n ∧ base + n ≤ 18446744073709551616 ∧ ∀ r ∈ L, r.base + r.data.length ≤ base ∨ base + n ≤ r.base)
def AddPost (X : World) (B : Nat) (own : Nat → Prop) (m : Nat) (L : List Reg) (base : Int) (bs : List Int) (e : Ending) (X' : World) : Prop :=
  if addOk L base bs.length = true then e = .returned (.bool true) ∧ (∃ i, IsAt L (base + bs.length - 1) i ∧ MemAt X' B (orNew own X) m (L.take i ++ [⟨base, bs⟩] ++ L.drop i)) ∧ Out own X X'
  else e = .returned (.bool false) ∧ Below X.heap.size X X'
set_option maxHeartbeats 4000000 in
set_option maxRecDepth 100000 in
theorem mem_Add (X : World) (B : Nat) (own : Nat → Prop) (m : Nat) (L : List Reg) (base : Int) (A0 : Option Addr) (c0 : Nat) (bs : List Int) (h : MemAt X B own m L) (hI : Inv L) (hl : L.length ≤ 999999) (hBX : B ≤ X.heap.size) (ha0 : 0 ≤ base) (ha1 : base < 18446744073709551616) (hr0 : Kd.C (Kd.int .u8) X A0 bs.length bs) (hc0 : bs.length ≤ c0) (hbl : bs.length ≤ 4294967296) :
    Calls Try.prog 14 #[.pointer (some ⟨m, 0, none⟩), .int .u64 base, .slice A0 bs.length c0] X (AddPost X B own m L base bs) := by
  obtain ⟨v, ps, hM⟩ := h
  have HM := Aside0.mk hM
  have HI := Aside0.mk hI
  have HC := Aside0.mk (slices_Clone_byte_byte.calls A0 c0 bs bs X hr0 hc0 (by unfold slices_Clone_byte_byte.f; rw [if_pos (by omega)]))
  have hu : IntKind.u64.wrap (bs.length : Int) = bs.length := by rw [u64_mod]; exact Int.emod_eq_of_lt (by omega) (by omega)
  by_cases h0 : bs.length = 0
  · have hF : addOk L base bs.length = false := by unfold addOk; simp [h0]
    have HF : Aside0 (AddPost X B own m L base bs (.returned (.bool false)) X) := ⟨by unfold AddPost; rw [hF]; exact ⟨rfl, Below.refl _ _⟩⟩
    rw [h0]
    clear hF hu ha0 ha1 hbl hc0 h0 hM hI hr0
    go_enter Try.func14, Try.ntmps14
    go_wp2_with fail
    go_ret
    exact HF.out
  have hl0 : ((bs.length : Int) == 0) = false := beq_eq_false_iff_ne.mpr (by omega)
  obtain ⟨s, hs⟩ : ∃ s, IntKind.u64.wrap (base + bs.length) = s := ⟨_, rfl⟩
  obtain ⟨t, ht⟩ : ∃ t, IntKind.u64.wrap (s - 1) = t := ⟨_, rfl⟩
  rw [u64_mod] at hs ht
  by_cases h2 : base + bs.length ≤ 18446744073709551616
  case neg =>
    have hF : addOk L base bs.length = false := by unfold addOk; simp; intro _ h; exact absurd h (by omega)
    have HF : Aside0 (AddPost X B own m L base bs (.returned (.bool false)) X) := ⟨by unfold AddPost; rw [hF]; exact ⟨rfl, Below.refl _ _⟩⟩
    have hlt : decide (t < base) = true := decide_eq_true (by omega)
    rw [← u64_mod] at hs ht
    clear hF h2 ha0 ha1 hbl hc0 h0 hM hI hr0
    go_enter Try.func14, Try.ntmps14
    go_wp2_with fail
    go_ret
    exact HF.out
  have htv : t = base + bs.length - 1 := by omega
  have hlt : decide (t < base) = false := decide_eq_false (by omega)
  rw [← u64_mod] at hs ht
  obtain ⟨A, c, rfl⟩ := own_slice hM.row
  have HL0 : Aside0 (0 < bs.length) := ⟨by omega⟩
  have HB2 := Aside0.mk h2
  have HBL := Aside0.mk hbl
  have HA0 := Aside0.mk ha0
  have HTV := Aside0.mk htv
  clear ha0 ha1 hbl hc0 h0 h2 hM hI hr0 htv
  go_enter Try.func14, Try.ntmps14
  go_wp2_with fail
  refine HC.out.mono ?_
  rintro e w1 ⟨v1, rfl, hr1, hb1⟩
  obtain ⟨g1, cap1, rfl, hg1, hg1l, cells, hcells⟩ := Kd.R_form hr1 HL0.out
  have hrow1 : w1.ownsRow X.heap.size 5 1 (.slice (some ⟨g1, 0, none⟩) bs.length cap1) bs.length (nums .u8 bs) := by simpa [encs, nums] using Kd.own_of_R hr1
  have HROW1 := Aside0.mk hrow1
  have HB1 := Aside0.mk hb1
  have HG1 := Aside0.mk hg1
  clear hr1 hb1 hcells hrow1 hg1 hg1l
  go_wp2_with fail
  obtain ⟨W1, hW1⟩ : ∃ W1, w1.alloc (.cells #[.int .u64 base, .slice (some ⟨g1, 0, none⟩) bs.length cap1] 58) = W1 := ⟨_, rfl⟩
  obtain ⟨rb, hrb⟩ : ∃ rb, w1.heap.size = rb := ⟨_, rfl⟩
  have HR : Aside0 (W1.heap[rb]? = some (.cells #[.int .u64 base, .slice (some ⟨g1, 0, none⟩) bs.length cap1] 58 (0, 0))) := ⟨by rw [← hW1, ← hrb]; exact heap_alloc_new w1 _⟩
  have HBW : Aside0 (Below w1.heap.size w1 W1) := ⟨by rw [← hW1]; exact Below.alloc (Below.refl _ _) (Nat.le_refl _) _⟩
  have HXW : Aside0 (Below X.heap.size X W1) := ⟨HB1.out.trans (HBW.out.mono HB1.out.size)⟩
  have HEND : Aside0 (∀ W : World, Below W1.heap.size W1 W → Calls Try.prog 30 #[.pointer (some ⟨rb, 0, none⟩)] W fun e X' => e = .returned (.int .u64 t) ∧ ∃ k, X' = W.drewN k) := ⟨fun W hb => by
    have hb2 := (hb.block rb (Array.getElem?_eq_some_iff.1 HR.out).1).trans HR.out
    have := mem_end W rb base (some ⟨g1, 0, none⟩) bs.length cap1 (blk2 hb2).1 (blk2 hb2).2.1 HA0.out HL0.out HB2.out HBL.out
    rwa [← HTV.out] at this⟩
  have HAT : Aside0 (∀ W : World, Below W1.heap.size W1 W → Calls Try.prog 29 #[.pointer (some ⟨m, 0, none⟩), .int .u64 t] W fun e X' => (∃ i : Nat, IsAt L t i ∧ e = .returned (.int .i64 ((i : Int) - 1))) ∧ Below W1.heap.size W1 X') := ⟨fun W hb => by
    refine (mem_at W B own m L _ ps t (HM.out.below (HXW.out.trans (hb.mono HXW.out.size))) HI.out (by omega)).mono ?_
    rintro e X' ⟨h, hb'⟩
    exact ⟨h, below_then hb hb.size hb'⟩⟩
  rw [hW1, hrb]
  clear hW1
  go_region_with (first | (go_at_call 30; refine (HEND.out _ ?hb).mono ?_; (case hb => exact below_drew (Below.refl _ _)); rintro e w3 ⟨rfl, k, rfl⟩) | (go_at_call 29; refine (HAT.out _ ?hb).mono ?_; (case hb => exact pw_below_drewN (Below.refl _ _) _); rintro e w4 ⟨⟨i, hi, rfl⟩, hb4⟩))
  clear HEND HAT
  have hblk4 := (blk2 ((HM.out.below HXW.out).below hb4).blk).1
  cases i with
  | zero =>
    have HOK : Aside0 (addOk L base bs.length = true) := ⟨decide_eq_true ⟨HL0.out, HB2.out, fun r hr => .inr (by
      obtain ⟨j, hj⟩ := List.mem_iff_getElem?.1 hr
      have := hi.2.2 j r (Nat.zero_le _) hj
      have := HTV.out
      omega)⟩⟩
    go_wp2_with fail
    have HB5 : Aside0 (Below X.heap.size X w4) := ⟨HXW.out.trans (hb4.mono HXW.out.size)⟩
    have HM5 := Aside0.mk (HM.out.below HB5.out)
    have hm0 := (blk2 HM5.out.blk).1
    obtain ⟨W6, hW6⟩ : ∃ W6, w4.alloc (.cells #[.pointer (some ⟨rb, 0, none⟩)] 56) = W6 := ⟨_, rfl⟩
    obtain ⟨vb, hvb⟩ : ∃ vb, w4.heap.size = vb := ⟨_, rfl⟩
    have HV : Aside0 (W6.heap[vb]? = some (.cells #[.pointer (some ⟨rb, 0, none⟩)] 56 (0, 0))) := ⟨by rw [← hW6, ← hvb]; exact heap_alloc_new w4 _⟩
    have HBV : Aside0 (Below w4.heap.size w4 W6) := ⟨by rw [← hW6]; exact Below.alloc (Below.refl _ _) (Nat.le_refl _) _⟩
    have HM6 := Aside0.mk (HM5.out.below HBV.out)
    have HINS := Aside0.mk (ins_row W6 B vb _ (ptr rb) _ L.length 0 56 HM6.out.row (Nat.le_trans (Nat.le_trans hBX HB5.out.size) HBV.out.size) hi.1 (by omega) HV.out rfl (fun y hy => by obtain ⟨q, _, rfl⟩ := List.mem_map.1 hy; rfl) (fun e => by have := own_lt HM5.out.row _ e; omega))
    rw [hW6, hvb]
    refine HINS.out.mono ?_
    rintro e W7 ⟨v', rfl, hrow7, hout7, hvo7⟩
    obtain ⟨A', c', rfl⟩ := own_slice hrow7
    have hnm : (Value.slice A L.length c).ownBlock ≠ some m := fun e => by
      obtain ⟨c2, hc2⟩ := row_block HM6.out.row e
      exact two_blocks hc2 HM6.out.blk (by decide) rfl
    have hml := (Array.getElem?_eq_some_iff.1 HM6.out.blk).1
    have HM7 : Aside0 (W7.heap[m]? = some (memBlock (.slice A L.length c))) := ⟨(hout7.block m hml hnm).trans HM6.out.blk⟩
    have hm7 := (blk2 HM7.out).1
    have hf7 := (blk2 HM7.out).2.2.1
    have HP : Aside0 (AddPost X B own m L base bs (.returned (.bool true)) (W7.setCell ⟨m, 0, none⟩ (Value.slice A' (L.length + 1) c'))) := by
      refine ⟨?_⟩
      unfold AddPost
      rw [if_pos HOK.out]
      have hX6 : Below X.heap.size X W6 := HB5.out.trans (HBV.out.mono HB5.out.size)
      have hk7 : ∀ k, k < X.heap.size → (Value.slice A L.length c).ownBlock ≠ some k → W7.heap[k]? = X.heap[k]? := fun k hk hn => (hout7.block k (Nat.lt_of_lt_of_le hk hX6.size) hn).trans (hX6.block k hk)
      have hv'm : (Value.slice A' (L.length + 1) c').ownBlock ≠ some m := fun e => by
        obtain ⟨c2, hc2⟩ := row_block hrow7 e
        exact two_blocks hc2 HM7.out (by decide) rfl
      have hset : ∀ k, k ≠ m → (W7.setCell ⟨m, 0, none⟩ (Value.slice A' (L.length + 1) c')).heap[k]? = W7.heap[k]? := fun k hk => Below.heap_setCell W7 ⟨m, 0, none⟩ (Value.slice A' (L.length + 1) c') k hk
      have hw1W6 : Below w1.heap.size w1 W6 := HBW.out.trans ((hb4.mono HBW.out.size).trans (HBV.out.mono (Nat.le_trans HBW.out.size hb4.size)))
      have hrbl : rb < W1.heap.size := (Array.getElem?_eq_some_iff.1 HR.out).1
      have hrb6 : W6.heap[rb]? = some (.cells #[.int .u64 base, .slice (some ⟨g1, 0, none⟩) bs.length cap1] 58 (0, 0)) := (HBV.out.block rb (Nat.lt_of_lt_of_le hrbl hb4.size)).trans ((hb4.block rb hrbl).trans HR.out)
      have hnr : (Value.slice A L.length c).ownBlock ≠ some rb := fun e => by
        obtain ⟨c2, hc2⟩ := row_block HM6.out.row e
        exact two_blocks hc2 hrb6 (by decide) rfl
      have hrb7 := (hout7.block rb (Array.getElem?_eq_some_iff.1 hrb6).1 hnr).trans hrb6
      have hrm : rb ≠ m := fun e => two_blocks hrb6 HM6.out.blk (by decide) e
      have hrow6 := row_keep HROW1.out (X' := W6) (fun k hk => by cases hk; exact hw1W6.block g1 (own_lt HROW1.out g1 rfl))
      obtain ⟨cg, hcg⟩ := row_block hrow6 rfl
      have hng : (Value.slice A L.length c).ownBlock ≠ some g1 := fun e => by
        obtain ⟨c2, hc2⟩ := row_block HM6.out.row e
        exact two_blocks hc2 hcg (by decide) rfl
      have hgm : g1 ≠ m := fun e => two_blocks hcg HM6.out.blk (by decide) e
      refine ⟨rfl, ⟨0, by rw [← HTV.out]; exact hi, (Value.slice A' (L.length + 1) c'), _, HM.out.insert 0 hi.1 ⟨base, bs⟩ rb g1 (fun k hk => .inl hk) (fun k hk hkm hkv => (hset k hkm).trans (hk7 k hk hkv)) ?_ ?_ ?_ ⟨?_, ?_, ?_, cap1, ?_, ?_⟩ HG1.out⟩, ?_⟩
      · exact blk_put HM7.out 0 (Value.slice A' (L.length + 1) c') rfl
      · exact row_keep hrow7 (fun k hk => hset k (fun e => hv'm (by rw [hk, e])))
      · intro k hk
        rcases hvo7 k hk with h | h
        · exact .inl (HM.out.orow k h)
        · exact .inr (Nat.le_trans hX6.size h)
      · exact .inr (by rw [← hrb]; exact HB1.out.size)
      · exact .inr HG1.out
      · exact Nat.le_trans hBX (by rw [← hrb]; exact HB1.out.size)
      · exact (hset rb hrm).trans hrb7
      · refine own_weaken (row_keep (row_keep hrow6 (fun k hk => by cases hk; exact hout7.block g1 (Array.getElem?_eq_some_iff.1 hcg).1 hng)) (fun k hk => by cases hk; exact hset g1 hgm)) hBX
      · exact ((below_out hX6 own).trans hout7 (fun k _ hk => HM.out.orow k hk)).trans (set_out W7 m 0 (Value.slice A' (L.length + 1) c')) (fun k _ hk => by rw [hk]; exact HM.out.om)
    clear hrow7 hout7 hvo7
    go_wp2
    go_ret
    exact HP.out
  | succ i =>
    have HM4 := Aside0.mk ((HM.out.below HXW.out).below hb4)
    have hil := hi.1
    obtain ⟨p, r, gg, cap, hp, hr, hv, hc, hcap, hcm, hra⟩ := HM4.out.get (i := i) (by omega)
    cases hv
    obtain ⟨cr, hrb2, _⟩ := hra.lies
    obtain ⟨y, hy⟩ : ∃ y, r.base + r.data.length - 1 = y := ⟨_, rfl⟩
    have hrm := List.mem_of_getElem? hr
    have HE := Aside0.mk (mem_end w4 p.1 r.base (some ⟨p.2, 0, none⟩) r.data.length cr (blk2 hrb2).1 (blk2 hrb2).2.1 (HI.out.lo r hrm) (HI.out.pos r hrm) (HI.out.hi r hrm) (HI.out.short r hrm))
    rw [hy] at HE
    have HY := Aside0.mk hy
    have HRI := Aside0.mk hr
    rw [show (((i + 1 : Nat) : Int) - 1) = (i : Int) by omega]
    by_cases hov : base ≤ y
    · have hF : addOk L base bs.length = false := by
        refine decide_eq_false (fun h => ?_)
        have h1 := h.2.2 r hrm
        have h2 := hi.2.1 i r (by omega) hr
        have h3 := HTV.out
        have h4 := HI.out.pos r hrm
        omega
      have HF : Aside0 (∀ W, Below X.heap.size X W → AddPost X B own m L base bs (.returned (.bool false)) W) := ⟨fun W hb => by unfold AddPost; rw [hF]; exact ⟨rfl, hb⟩⟩
      have HX4 : Aside0 (Below X.heap.size X w4) := ⟨HXW.out.trans (hb4.mono HXW.out.size)⟩
      clear hF hb4 hy hr hrm hra hrb2 hi hp
      go_wp2_with (go_at_call 30; refine HE.out.mono ?_; rintro e w5 ⟨rfl, k, rfl⟩)
      go_ret
      exact HF.out _ (pw_below_drewN HX4.out _)
    · have HOK : Aside0 (addOk L base bs.length = true) := ⟨decide_eq_true ⟨HL0.out, HB2.out, fun q hq => by
        obtain ⟨j, hj⟩ := List.mem_iff_getElem?.1 hq
        have h3 := HTV.out
        rcases Nat.lt_trichotomy j i with h | h | h
        · have := HI.out.apart j i q r h hj hr
          have := HI.out.pos r hrm
          left; omega
        · subst h; rw [hr] at hj; cases hj; left; omega
        · have := hi.2.2 j q (by omega) hj
          right; omega⟩⟩
      have hlt2 : y < base := by omega
      clear hov hy hr hrm hra hrb2 hp
      go_wp2_with (go_at_call 30; refine HE.out.mono ?_; rintro e w5 ⟨rfl, k, rfl⟩; obtain ⟨W5, hW5⟩ : ∃ W5, w4.drewN k = W5 := ⟨_, rfl⟩; have hb5 : Below W1.heap.size W1 W5 := (by rw [← hW5]; exact pw_below_drewN hb4 _); rw [hW5]; clear hW5; have hm0 := (blk2 ((HM.out.below HXW.out).below hb5).blk).1)
      have HB5 : Aside0 (Below X.heap.size X W5) := ⟨HXW.out.trans (hb5.mono HXW.out.size)⟩
      have HM5 := Aside0.mk (HM.out.below HB5.out)
      obtain ⟨W6, hW6⟩ : ∃ W6, W5.alloc (.cells #[.pointer (some ⟨rb, 0, none⟩)] 56) = W6 := ⟨_, rfl⟩
      obtain ⟨vb, hvb⟩ : ∃ vb, W5.heap.size = vb := ⟨_, rfl⟩
      have HV : Aside0 (W6.heap[vb]? = some (.cells #[.pointer (some ⟨rb, 0, none⟩)] 56 (0, 0))) := ⟨by rw [← hW6, ← hvb]; exact heap_alloc_new W5 _⟩
      have HBV : Aside0 (Below W5.heap.size W5 W6) := ⟨by rw [← hW6]; exact Below.alloc (Below.refl _ _) (Nat.le_refl _) _⟩
      have HM6 := Aside0.mk (HM5.out.below HBV.out)
      have HINS := Aside0.mk (ins_row W6 B vb _ (ptr rb) _ L.length (i + 1) 56 HM6.out.row (Nat.le_trans (Nat.le_trans hBX HB5.out.size) HBV.out.size) hi.1 (by omega) HV.out rfl (fun y hy => by obtain ⟨q, _, rfl⟩ := List.mem_map.1 hy; rfl) (fun e => by have := own_lt HM5.out.row _ e; omega))
      rw [hW6, hvb]
      refine HINS.out.mono ?_
      rintro e W7 ⟨v', rfl, hrow7, hout7, hvo7⟩
      obtain ⟨A', c', rfl⟩ := own_slice hrow7
      have hnm : (Value.slice (some ⟨gg, 0, none⟩) L.length c).ownBlock ≠ some m := fun e => by
        obtain ⟨c2, hc2⟩ := row_block HM6.out.row e
        exact two_blocks hc2 HM6.out.blk (by decide) rfl
      have hml := (Array.getElem?_eq_some_iff.1 HM6.out.blk).1
      have HM7 : Aside0 (W7.heap[m]? = some (memBlock (.slice (some ⟨gg, 0, none⟩) L.length c))) := ⟨(hout7.block m hml hnm).trans HM6.out.blk⟩
      have hm7 := (blk2 HM7.out).1
      have hf7 := (blk2 HM7.out).2.2.1
      have HP : Aside0 (AddPost X B own m L base bs (.returned (.bool true)) (W7.setCell ⟨m, 0, none⟩ (Value.slice A' (L.length + 1) c'))) := by
        refine ⟨?_⟩
        unfold AddPost
        rw [if_pos HOK.out]
        have hX6 : Below X.heap.size X W6 := HB5.out.trans (HBV.out.mono HB5.out.size)
        have hk7 : ∀ k, k < X.heap.size → (Value.slice (some ⟨gg, 0, none⟩) L.length c).ownBlock ≠ some k → W7.heap[k]? = X.heap[k]? := fun k hk hn => (hout7.block k (Nat.lt_of_lt_of_le hk hX6.size) hn).trans (hX6.block k hk)
        have hv'm : (Value.slice A' (L.length + 1) c').ownBlock ≠ some m := fun e => by
          obtain ⟨c2, hc2⟩ := row_block hrow7 e
          exact two_blocks hc2 HM7.out (by decide) rfl
        have hset : ∀ k, k ≠ m → (W7.setCell ⟨m, 0, none⟩ (Value.slice A' (L.length + 1) c')).heap[k]? = W7.heap[k]? := fun k hk => Below.heap_setCell W7 ⟨m, 0, none⟩ (Value.slice A' (L.length + 1) c') k hk
        have hw1W6 : Below w1.heap.size w1 W6 := HBW.out.trans ((hb5.mono HBW.out.size).trans (HBV.out.mono (Nat.le_trans HBW.out.size hb5.size)))
        have hrbl : rb < W1.heap.size := (Array.getElem?_eq_some_iff.1 HR.out).1
        have hrb6 : W6.heap[rb]? = some (.cells #[.int .u64 base, .slice (some ⟨g1, 0, none⟩) bs.length cap1] 58 (0, 0)) := (HBV.out.block rb (Nat.lt_of_lt_of_le hrbl hb5.size)).trans ((hb5.block rb hrbl).trans HR.out)
        have hnr : (Value.slice (some ⟨gg, 0, none⟩) L.length c).ownBlock ≠ some rb := fun e => by
          obtain ⟨c2, hc2⟩ := row_block HM6.out.row e
          exact two_blocks hc2 hrb6 (by decide) rfl
        have hrb7 := (hout7.block rb (Array.getElem?_eq_some_iff.1 hrb6).1 hnr).trans hrb6
        have hrm : rb ≠ m := fun e => two_blocks hrb6 HM6.out.blk (by decide) e
        have hrow6 := row_keep HROW1.out (X' := W6) (fun k hk => by cases hk; exact hw1W6.block g1 (own_lt HROW1.out g1 rfl))
        obtain ⟨cg, hcg⟩ := row_block hrow6 rfl
        have hng : (Value.slice (some ⟨gg, 0, none⟩) L.length c).ownBlock ≠ some g1 := fun e => by
          obtain ⟨c2, hc2⟩ := row_block HM6.out.row e
          exact two_blocks hc2 hcg (by decide) rfl
        have hgm : g1 ≠ m := fun e => two_blocks hcg HM6.out.blk (by decide) e
        refine ⟨rfl, ⟨i + 1, by rw [← HTV.out]; exact hi, (Value.slice A' (L.length + 1) c'), _, HM.out.insert (i + 1) hi.1 ⟨base, bs⟩ rb g1 (fun k hk => .inl hk) (fun k hk hkm hkv => (hset k hkm).trans (hk7 k hk hkv)) ?_ ?_ ?_ ⟨?_, ?_, ?_, cap1, ?_, ?_⟩ HG1.out⟩, ?_⟩
        · exact blk_put HM7.out 0 (Value.slice A' (L.length + 1) c') rfl
        · exact row_keep hrow7 (fun k hk => hset k (fun e => hv'm (by rw [hk, e])))
        · intro k hk
          rcases hvo7 k hk with h | h
          · exact .inl (HM.out.orow k h)
          · exact .inr (Nat.le_trans hX6.size h)
        · exact .inr (by rw [← hrb]; exact HB1.out.size)
        · exact .inr HG1.out
        · exact Nat.le_trans hBX (by rw [← hrb]; exact HB1.out.size)
        · exact (hset rb hrm).trans hrb7
        · refine own_weaken (row_keep (row_keep hrow6 (fun k hk => by cases hk; exact hout7.block g1 (Array.getElem?_eq_some_iff.1 hcg).1 hng)) (fun k hk => by cases hk; exact hset g1 hgm)) hBX
        · exact ((below_out hX6 own).trans hout7 (fun k _ hk => HM.out.orow k hk)).trans (set_out W7 m 0 (Value.slice A' (L.length + 1) c')) (fun k _ hk => by rw [hk]; exact HM.out.om)
      clear hrow7 hout7 hvo7
      go_wp2
      go_ret
      exact HP.out

end Go.Proofs.Ytlolhmocimaobaa.PAll
