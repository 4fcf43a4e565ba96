/- The texts RefW5, RefW6, RunLaw, RunTwo of this claim, joined. -/
import Derived.Test.YtomnfkihieinbaaDoorGRefA
import Derived.Deep.RegionLaw
import Derived.Test.YtomnfkihieinbaaDoorGMemB
/- The reference's Add. -/
set_option linter.unusedVariables false
set_option linter.unusedSimpArgs false
namespace Go.Proofs.YtomnfkihieinbaaDoor.PAll
open Go.RowKit Go.Shelf Go.Proofs.YtomnfkihieinbaaDoorW.PrintWords Go.Proofs.YtomnfkihieinbaaDoorW.PrintLast Go.Proofs.YtomnfkihieinbaaDoorW.PrintMore
theorem infoReg : (Tryd.prog.info? 108).map (fun i => (i.zero, i.size, i.bytes)) = some (some (.agg #[.int .u64 0, .slice none 0 0]), 2, 32) := by kernel_rfl
/-- A region is added behind the others. -/
theorem RefIn.push {X Y : World} {B : Nat} {own own' : Nat → Prop} {b : Nat} {R : List Reg} {v v' : Value} {ps : List (Nat × Nat)} (h : RefIn X B own b R v ps) (s : Reg) (q : Nat × Nat) (hown : ∀ k, own k → own' k)
    (hk : ∀ k, k < X.heap.size → k ≠ b → v.ownBlock ≠ some k → Y.heap[k]? = X.heap[k]?) (hb : Y.heap[b]? = some (.cells #[v'] 51 (0, 0)))
    (hrow : Y.ownsRow B 108 2 v' (R.length + 1) (cells2 R ps ++ cell2 s q)) (hvo : ∀ k, v'.ownBlock = some k → own' k)
    (hq : own' q.1) (hqr : Y.ownsRow B 5 1 (.slice (some ⟨q.1, 0, none⟩) s.data.length q.2) s.data.length (nums .u8 s.data)) (hnew : X.heap.size ≤ q.1) :
    RefIn Y B own' b (R ++ [s]) v' (ps ++ [q]) := by
  refine ⟨hb, hown _ h.ob, h.bb, ?_, hvo, by simp [h.len], ?_, ?_⟩
  · rw [cells2_append _ _ _ _ h.len, List.length_append]; exact hrow
  · intro i p r hp hr
    by_cases hi : i < R.length
    · rw [List.getElem?_append_left (by rw [h.len]; exact hi)] at hp
      rw [List.getElem?_append_left hi] at hr
      obtain ⟨g1, g2⟩ := h.reg i p r hp hr
      have n1 : p.1 ≠ b := by
        intro e
        obtain ⟨c, hc⟩ := row_block g2 rfl
        exact two_blocks hc h.blk (by decide) e
      have n2 : v.ownBlock ≠ some p.1 := by
        intro e
        obtain ⟨c, hc⟩ := row_block g2 rfl
        rcases h.row.2 with ⟨rfl, _⟩ | ⟨g', cap, cur, rfl, _, hh, _⟩
        · simp [Value.ownBlock] at e
        · obtain rfl : g' = p.1 := by simpa [Value.ownBlock] using e
          exact two_blocks hc hh (by decide) rfl
      exact ⟨hown _ g1, row_keep g2 (fun z hz => by cases hz; exact hk p.1 (own_lt g2 p.1 rfl) n1 n2)⟩
    · have hlt := (List.getElem?_eq_some_iff.1 hr).1
      rw [List.length_append, List.length_singleton] at hlt
      obtain rfl : i = R.length := by omega
      rw [List.getElem?_append_right (by rw [h.len]; exact Nat.le_refl _), h.len, Nat.sub_self] at hp
      rw [List.getElem?_append_right (Nat.le_refl _), Nat.sub_self] at hr
      cases hp; cases hr
      exact ⟨hq, hqr⟩
  · rw [List.map_append, List.nodup_append]
    refine ⟨h.nd, by simp, ?_⟩
    intro x hx y hy e
    obtain ⟨p, hp, rfl⟩ := List.mem_map.1 hx
    obtain ⟨i, hi⟩ := List.mem_iff_getElem?.1 hp
    have hil := (List.getElem?_eq_some_iff.1 hi).1
    rw [h.len] at hil
    have := own_lt (h.reg i p _ hi (List.getElem?_eq_getElem hil)).2 p.1 rfl
    simp at hy
    omega
theorem cell2_one {r : Reg} {q : Nat × Nat} : ∀ u ∈ cell2 r q, u.oneCell' = true := by
  intro u hu
  simp only [cell2, List.mem_cons, List.not_mem_nil, or_false] at hu
  rcases hu with rfl | rfl <;> rfl
theorem addOk_false {R : List Reg} {base : Int} {n : Nat} {k : Nat} {r : Reg} (hr : R[k]? = some r) (hp : 0 < r.data.length) (h : insB r base = true ∨ (base ≤ r.base ∧ r.base < base + n)) : addOk R base n = false := by
  unfold addOk
  refine decide_eq_false (fun hh => ?_)
  have := hh.2.2 r (List.mem_of_getElem? hr)
  have h0 := hh.1
  unfold insB at h
  rw [decide_eq_true_eq] at h
  omega
theorem addOk_true {R : List Reg} {base : Int} {n : Nat} (h0 : 0 < n) (h1 : base + n ≤ 18446744073709551616) (hp : ∀ r ∈ R, 0 < r.data.length) (h : ∀ (k : Nat) (r : Reg), k < R.length → R[k]? = some r → insB r base = false ∧ ¬ (base ≤ r.base ∧ r.base < base + n)) : addOk R base n = true := by
  unfold addOk
  refine decide_eq_true ⟨h0, h1, fun r hr => ?_⟩
  obtain ⟨k, hk⟩ := List.mem_iff_getElem?.1 hr
  obtain ⟨h2, h3⟩ := h k r (List.getElem?_eq_some_iff.1 hk).1 hk
  have := hp r hr
  unfold insB at h2
  rw [decide_eq_false_iff_not] at h2
  omega
def RAddPost (X : World) (B : Nat) (own : Nat → Prop) (b : Nat) (R : List Reg) (base : Int) (bs : List Int) (e : Ending) (X' : World) : Prop :=
  if addOk R base bs.length = true then e = .returned (.bool true) ∧ RefAt X' B (orNew own X) b (R ++ [⟨base, bs⟩]) ∧ Out own X X'
  else e = .returned (.bool false) ∧ Below X.heap.size X X'
set_option maxHeartbeats 4000000 in
set_option maxRecDepth 100000 in
theorem ref_Add (X : World) (B : Nat) (own : Nat → Prop) (b : Nat) (R : List Reg) (base : Int) (A0 : Option Addr) (c0 : Nat) (bs : List Int) (h : RefAt X B own b R) (hW : ∀ r ∈ R, Ok r) (hl : R.length ≤ 999999) (hBX : B ≤ X.heap.size) (ha0 : 0 ≤ base) (ha1 : base < 18446744073709551616) (hr0 : Kd.C (Kd.int .u8) X A0 bs.length bs) (hc0 : bs.length ≤ c0) (hbl : bs.length ≤ 4294967296) :
    Calls Tryd.prog 18 #[.pointer (some ⟨b, 0, none⟩), .int .u64 base, .slice A0 bs.length c0] X (RAddPost X B own b R base bs) := by
  obtain ⟨v, ps, hM⟩ := h
  have HM := Aside0.mk hM
  have HW := Aside0.mk hW
  have hu : IntKind.u64.wrap ((bs.length : Int) - 1) = (bs.length : Int) - 1 ∨ bs.length = 0 := by rw [u64_mod]; rcases Nat.eq_zero_or_pos bs.length with h | h; exact .inr h; exact .inl (Int.emod_eq_of_lt (by omega) (by omega))
  by_cases h0 : bs.length = 0
  · have HF : Aside0 (RAddPost X B own b R base bs (.returned (.bool false)) X) := ⟨by
      have hF : addOk R base bs.length = false := by unfold addOk; simp [h0]
      unfold RAddPost; rw [hF]; exact ⟨rfl, Below.refl _ _⟩⟩
    rw [h0]
    clear hu ha0 ha1 hbl hc0 h0 hM hW hr0
    go_enter Tryd.func18, Tryd.ntmps18
    go_wp2_with fail
    go_ret
    exact HF.out
  replace hu := hu.resolve_right h0
  have hl0 : ((bs.length : Int) == 0) = false := beq_eq_false_iff_ne.mpr (by omega)
  obtain ⟨s, hs⟩ : ∃ s, IntKind.u64.wrap (base + ((bs.length : Int) - 1)) = s := ⟨_, rfl⟩
  rw [u64_mod] at hs
  by_cases h2 : base + bs.length ≤ 18446744073709551616
  case neg =>
    have HF : Aside0 (RAddPost X B own b R base bs (.returned (.bool false)) X) := ⟨by
      have hF : addOk R base bs.length = false := by unfold addOk; simp; intro _ h; exact absurd h (by omega)
      unfold RAddPost; rw [hF]; exact ⟨rfl, Below.refl _ _⟩⟩
    have hlt : decide (s < base) = true := decide_eq_true (by omega)
    have hpos : 0 < bs.length := by omega
    rw [← u64_mod] at hs
    clear h2 ha0 ha1 hc0 h0 hM hW hr0
    go_enter Tryd.func18, Tryd.ntmps18
    go_wp2_with fail
    go_ret
    exact HF.out
  have hlt : decide (s < base) = false := decide_eq_false (by omega)
  rw [← u64_mod] at hs
  obtain ⟨A, c, rfl⟩ := own_slice hM.row
  have HL0 : Aside0 (0 < bs.length) := ⟨by omega⟩
  have HB2 := Aside0.mk h2
  have HBL := Aside0.mk hbl
  have hpos : 0 < bs.length := HL0.out
  have HA0 := Aside0.mk ha0
  have HR0 := Aside0.mk hr0
  have HC0 := Aside0.mk hc0
  clear ha0 ha1 hc0 h0 h2 hM hW hr0
  go_enter Tryd.func18, Tryd.ntmps18
  go_wp2_with (first | ((with_reducible refine gate_dst (N := 23) rfl ?_); refine Kd.R_lit (Kd.int .u8) _ 5 ?hg (N := 23) ?hd (xs := ([] : List Int)) (inner := []) (ok := fun _ => True) (okp := fun _ => True) ?hr ?hp (fun _ hk => hk) trivial (Below.refl _ _) (Nat.le_refl _) (by simp) ?_; (case hd => rfl); (case hg => rfl); (case hr => first | (go_simp; done) | (go_simp; rfl)); (case hp => exact (Reps.none _ _)); intro v1 w1 ho1 hb1 hg1 hnew1; clear hg1 hnew1; have HO1 := Aside0.mk ho1; have HB1 := Aside0.mk hb1; clear ho1 hb1) | ((with_reducible refine gate_builtin (b := .append) (xs := #[.tmp 23, .tmp 24]) rfl ?_); at_builtin; refine Kd.R_append_rows (Kd.int .u8) (w0 := X) X.heap.size rfl (.tmp 23) (.tmp 24) 26 5 (.int .u8 0) 1 rfl Tryd.underlying26 infoU8 rfl (by decide) (by omega) v1 [] bs _ _ _ (fun _ => True) (fun _ => False) rfl rfl ?aO ?aR (fun _ _ h => h) (fun _ h => h.elim) ?aF ?aB ?aS ?aL ?_; (case aR => exact Kd.C_below HR0.out HB1.out); (case aB => exact HB1.out); (case aF => exact (fun _ _ => trivial)); (case aO => exact HO1.out); (case aS => exact HB1.out.size); (case aL => have := HBL.out; simp only [List.length_nil]; omega); intro v2 w2 ho2 hb2 hg2 hat2; clear hg2 hat2; rw [List.nil_append] at ho2; obtain ⟨g1, cap1, rfl, hg1, hg1l, cells, hcells⟩ := Kd.R_form ho2 HL0.out; have HO2 := Aside0.mk ho2; have HBX2 := Aside0.mk hb2; have HG1 := Aside0.mk hg1; clear ho2 hb2 hcells hg1 hg1l))
  have HROW1 : Aside0 (w2.ownsRow X.heap.size 5 1 (.slice (some ⟨g1, 0, none⟩) bs.length cap1) bs.length (nums .u8 bs)) := ⟨by simpa [encs, nums] using Kd.own_of_R HO2.out⟩
  obtain ⟨W1, hW1⟩ : ∃ W1, w2.alloc (.cells #[.int .u64 base, .slice (some ⟨g1, 0, none⟩) bs.length cap1] 108) = W1 := ⟨_, rfl⟩
  obtain ⟨mb, hmb⟩ : ∃ mb, w2.heap.size = mb := ⟨_, rfl⟩
  have HMB : Aside0 (W1.heap[mb]? = some (.cells #[.int .u64 base, .slice (some ⟨g1, 0, none⟩) bs.length cap1] 108 (0, 0))) := ⟨by rw [← hW1, ← hmb]; exact heap_alloc_new w2 _⟩
  have HWW : Aside0 (Below w2.heap.size w2 W1) := ⟨by rw [← hW1]; exact Below.alloc (Below.refl _ _) (Nat.le_refl _) _⟩
  have HXW : Aside0 (Below X.heap.size X W1) := ⟨HBX2.out.trans (HWW.out.mono HBX2.out.size)⟩
  have HRW1 : Aside0 (W1.ownsRow X.heap.size 5 1 (.slice (some ⟨g1, 0, none⟩) bs.length cap1) bs.length (nums .u8 bs)) := ⟨pw_own_below HROW1.out HWW.out⟩
  have HCAP := Aside0.mk (cap_of_row HROW1.out)
  have HMBX : Aside0 (X.heap.size ≤ mb) := ⟨by rw [← hmb]; exact HBX2.out.size⟩
  rw [hW1, hmb]
  clear hW1 hmb HO1 HO2 HB1 HR0
  go_loopw [8] (fun v8 wr => ∃ k : Nat, k ≤ R.length ∧ v8 = .int .i64 k ∧ Aside0 (Below W1.heap.size W1 wr) ∧ Aside0 (∀ (j : Nat) (q : Reg), j < k → R[j]? = some q → insB q base = false ∧ ¬ (base ≤ q.base ∧ q.base < base + bs.length))) (fun v8 _ => R.length - (intOf v8).toNat)
  case atStart => exact ⟨0, Nat.zero_le _, rfl, ⟨Below.refl _ _⟩, ⟨fun j q hj => by omega⟩⟩
  case round =>
    obtain ⟨k, hk, rfl, HB, HJ⟩ := hrel
    have HXr : Aside0 (Below X.heap.size X wr) := ⟨below_then HXW.out HXW.out.size HB.out⟩
    have HMr := Aside0.mk (HM.out.below HXr.out)
    have hm0 := (blk1 HMr.out.blk).1
    have hmb0 := pw_cell_below HB.out (blk2 HMB.out).1
    have hmb1 := pw_cell_below HB.out (blk2 HMB.out).2.1
    by_cases hlt : k < R.length
    · obtain ⟨p, r, g, cap, hp, hr, hv, hc0, hc1, hcap, hcm, hop, hro⟩ := HMr.out.get hlt
      cases hv
      have HOK := Aside0.mk (HW.out r (List.mem_of_getElem? hr))
      have HR := Aside0.mk hr
      have HBD : Aside0 (Below W1.heap.size W1 wr.drew) := ⟨below_drew HB.out⟩
      have hmd : wr.drew.cell? ⟨b, 0, none⟩ = some (.slice (some ⟨g, 0, none⟩) R.length c) := hm0
      have hcd0 : wr.drew.cell? ⟨g, k * 2, none⟩ = some (.int .u64 r.base) := hc0
      have hcd1 : wr.drew.cell? ⟨g, k * 2 + 1, none⟩ = some (.slice (some ⟨p.1, 0, none⟩) r.data.length p.2) := hc1
      have hmd0 : wr.drew.cell? ⟨mb, 0, none⟩ = some (.int .u64 base) := hmb0
      have hmd1 : wr.drew.cell? ⟨mb, 1, none⟩ = some (.slice (some ⟨g1, 0, none⟩) bs.length cap1) := hmb1
      have hcap2 := cap_of_row hro
      have hro1 := HM.out.reg k p r hp hr
      have hbb : base < 18446744073709551616 := by have := HB2.out; omega
      have HINS : Aside0 (∀ w, (w.cell? ⟨b, 0, none⟩ = some (.slice (some ⟨g, 0, none⟩) R.length c) ∧ w.cell? ⟨g, k * 2, none⟩ = some (.int .u64 r.base) ∧ w.cell? ⟨g, k * 2 + 1, none⟩ = some (.slice (some ⟨p.1, 0, none⟩) r.data.length p.2) ∧ w.cell? ⟨mb, 0, none⟩ = some (.int .u64 base) ∧ w.cell? ⟨mb, 1, none⟩ = some (.slice (some ⟨g1, 0, none⟩) bs.length cap1) ∧ Below W1.heap.size W1 w) → ∀ (s : Reg) (x : Int) (A : Option Addr) (cc : Nat), 0 ≤ s.base → 0 ≤ x → x < 18446744073709551616 → s.data.length ≤ 4294967296 → s.data.length ≤ cc → Kd.C (Kd.int .u8) w A s.data.length s.data →
          Calls Tryd.prog 38 #[.agg #[.int .u64 s.base, .slice A s.data.length cc], .int .u64 x] w fun e w' => e = .returned (.bool (insB s x)) ∧ (w'.cell? ⟨b, 0, none⟩ = some (.slice (some ⟨g, 0, none⟩) R.length c) ∧ w'.cell? ⟨g, k * 2, none⟩ = some (.int .u64 r.base) ∧ w'.cell? ⟨g, k * 2 + 1, none⟩ = some (.slice (some ⟨p.1, 0, none⟩) r.data.length p.2) ∧ w'.cell? ⟨mb, 0, none⟩ = some (.int .u64 base) ∧ w'.cell? ⟨mb, 1, none⟩ = some (.slice (some ⟨g1, 0, none⟩) bs.length cap1) ∧ Below W1.heap.size W1 w')) := ⟨fun w ⟨s1, s2, s3, s4, s5, hb⟩ s x A cc q0 q1 q2 q3 q4 hC => by
        refine (inside_c s x A cc w q0 q1 q2 q3 hC q4).mono ?_
        rintro e w' ⟨he, hb'⟩
        exact ⟨he, pw_cell_below hb' s1, pw_cell_below hb' s2, pw_cell_below hb' s3, pw_cell_below hb' s4, pw_cell_below hb' s5, below_then hb hb.size hb'⟩⟩
      have HINS1 : Aside0 (∀ w, (w.cell? ⟨b, 0, none⟩ = some (.slice (some ⟨g, 0, none⟩) R.length c) ∧ w.cell? ⟨g, k * 2, none⟩ = some (.int .u64 r.base) ∧ w.cell? ⟨g, k * 2 + 1, none⟩ = some (.slice (some ⟨p.1, 0, none⟩) r.data.length p.2) ∧ w.cell? ⟨mb, 0, none⟩ = some (.int .u64 base) ∧ w.cell? ⟨mb, 1, none⟩ = some (.slice (some ⟨g1, 0, none⟩) bs.length cap1) ∧ Below W1.heap.size W1 w) → Calls Tryd.prog 38 #[.agg #[.int .u64 r.base, .slice (some ⟨p.1, 0, none⟩) r.data.length p.2], .int .u64 base] w fun e w' => e = .returned (.bool (insB r base)) ∧ (w'.cell? ⟨b, 0, none⟩ = some (.slice (some ⟨g, 0, none⟩) R.length c) ∧ w'.cell? ⟨g, k * 2, none⟩ = some (.int .u64 r.base) ∧ w'.cell? ⟨g, k * 2 + 1, none⟩ = some (.slice (some ⟨p.1, 0, none⟩) r.data.length p.2) ∧ w'.cell? ⟨mb, 0, none⟩ = some (.int .u64 base) ∧ w'.cell? ⟨mb, 1, none⟩ = some (.slice (some ⟨g1, 0, none⟩) bs.length cap1) ∧ Below W1.heap.size W1 w')) := ⟨fun w hS => by
        obtain ⟨s1, s2, s3, s4, s5, hb⟩ := hS
        obtain ⟨A2, c2, he2, _, _, hC2⟩ := row_C (row_keep hro1.2 (X' := w) (fun q hq => by cases hq; exact (below_then HXW.out HXW.out.size hb).block p.1 (own_lt hro1.2 p.1 rfl)))
        obtain ⟨rfl, rfl⟩ : A2 = some ⟨p.1, 0, none⟩ ∧ c2 = p.2 := by
          have := he2
          simp only [Value.slice.injEq] at this
          exact ⟨this.1.symm, this.2.2.symm⟩
        exact HINS.out w ⟨s1, s2, s3, s4, s5, hb⟩ r base _ _ HOK.out.lo HA0.out hbb HOK.out.short hcap2.1 hC2⟩
      have HINS2 : Aside0 (∀ w, (w.cell? ⟨b, 0, none⟩ = some (.slice (some ⟨g, 0, none⟩) R.length c) ∧ w.cell? ⟨g, k * 2, none⟩ = some (.int .u64 r.base) ∧ w.cell? ⟨g, k * 2 + 1, none⟩ = some (.slice (some ⟨p.1, 0, none⟩) r.data.length p.2) ∧ w.cell? ⟨mb, 0, none⟩ = some (.int .u64 base) ∧ w.cell? ⟨mb, 1, none⟩ = some (.slice (some ⟨g1, 0, none⟩) bs.length cap1) ∧ Below W1.heap.size W1 w) → Calls Tryd.prog 38 #[.agg #[.int .u64 base, .slice (some ⟨g1, 0, none⟩) bs.length cap1], .int .u64 r.base] w fun e w' => e = .returned (.bool (insB ⟨base, bs⟩ r.base)) ∧ (w'.cell? ⟨b, 0, none⟩ = some (.slice (some ⟨g, 0, none⟩) R.length c) ∧ w'.cell? ⟨g, k * 2, none⟩ = some (.int .u64 r.base) ∧ w'.cell? ⟨g, k * 2 + 1, none⟩ = some (.slice (some ⟨p.1, 0, none⟩) r.data.length p.2) ∧ w'.cell? ⟨mb, 0, none⟩ = some (.int .u64 base) ∧ w'.cell? ⟨mb, 1, none⟩ = some (.slice (some ⟨g1, 0, none⟩) bs.length cap1) ∧ Below W1.heap.size W1 w')) := ⟨fun w hS => by
        obtain ⟨s1, s2, s3, s4, s5, hb⟩ := hS
        obtain ⟨A2, c2, he2, _, _, hC2⟩ := row_C (row_keep HRW1.out (X' := w) (fun q hq => by cases hq; exact hb.block g1 (own_lt HRW1.out g1 rfl)))
        obtain ⟨rfl, rfl⟩ : A2 = some ⟨g1, 0, none⟩ ∧ c2 = cap1 := by
          have := he2
          simp only [Value.slice.injEq] at this
          exact ⟨this.1.symm, this.2.2.symm⟩
        have h1 := HOK.out.hi
        have h2 := HOK.out.pos
        exact HINS.out w ⟨s1, s2, s3, s4, s5, hb⟩ ⟨base, bs⟩ r.base _ _ HA0.out HOK.out.lo (by omega) hbl HCAP.out.1 hC2⟩
      clear HINS hr hp hro hro1 hop hcap hcm hcap2 hbb
      cases hins : insB r base with
      | true =>
        have HNO := Aside0.mk (addOk_false (base := base) (n := bs.length) HR.out HOK.out.pos (.inl hins))
        rw [hins] at HINS1
        clear hins
        go_wp2_with fail
        refine wp_region_held_drew (S := (fun w' => w'.cell? ⟨b, 0, none⟩ = some (.slice (some ⟨g, 0, none⟩) R.length c) ∧ w'.cell? ⟨g, k * 2, none⟩ = some (.int .u64 r.base) ∧ w'.cell? ⟨g, k * 2 + 1, none⟩ = some (.slice (some ⟨p.1, 0, none⟩) r.data.length p.2) ∧ w'.cell? ⟨mb, 0, none⟩ = some (.int .u64 base) ∧ w'.cell? ⟨mb, 1, none⟩ = some (.slice (some ⟨g1, 0, none⟩) bs.length cap1) ∧ Below W1.heap.size W1 w')) (by kernel_rfl) ⟨hmd, hcd0, hcd1, hmd0, hmd1, HBD.out⟩ (fun hHeld => ?_)
        refine wpAnyH_take (i := 0) (oi := { dst := some 36, op := Op.move (Operand.tmp 0), type := 48, pos := "ref.go:33", after := #[], guard := none }) (v := ?va0) rfl (by kernel_rfl) (by kernel_rfl) (by kernel_rfl) (fun _ _ _ h => h) (Or.inl ⟨by rfl, ?hya0⟩) (by assumption) ?resta0
        case hya0 => (intro w hSw; (try dsimp only at hSw); first | (go_simp; done) | (go_simp; with_reducible rfl))
        try simp only [Act.put, List.setIfInBounds_toArray, List.set_cons_zero, List.set_cons_succ]
        refine wpAnyH_take (i := 1) (oi := { dst := some 37, op := Op.nilCheck (Operand.tmp 36), type := 0, pos := "ref.go:33", after := #[{ on := 0, ground := Ground.data }], guard := none }) (v := ?va1) rfl (by kernel_rfl) (by kernel_rfl) (by kernel_rfl) (fun _ _ _ h => h) (Or.inl ⟨by rfl, ?hya1⟩) (by assumption) ?resta1
        case hya1 => (intro w hSw; (try dsimp only at hSw); first | (go_simp; done) | (go_simp; with_reducible rfl))
        try simp only [Act.put, List.setIfInBounds_toArray, List.set_cons_zero, List.set_cons_succ]
        refine wpAnyH_take (i := 2) (oi := { dst := some 38, op := Op.fieldAddr 51 (Operand.tmp 37) 0, type := 0, pos := "ref.go:33", after := #[{ on := 1, ground := Ground.data }], guard := none }) (v := ?va2) rfl (by kernel_rfl) (by kernel_rfl) (by kernel_rfl) (fun _ _ _ h => h) (Or.inl ⟨by rfl, ?hya2⟩) (by assumption) ?resta2
        case hya2 => (intro w hSw; (try dsimp only at hSw); first | (go_simp; done) | (go_simp; with_reducible rfl))
        try simp only [Act.put, List.setIfInBounds_toArray, List.set_cons_zero, List.set_cons_succ]
        refine wpAnyH_take (i := 3) (oi := { dst := some 39, op := Op.load 49 (Operand.tmp 38), type := 49, pos := "ref.go:33", after := #[{ on := 2, ground := Ground.data }], guard := none }) (v := ?va3) rfl (by kernel_rfl) (by kernel_rfl) (by kernel_rfl) (fun _ _ _ h => h) (Or.inl ⟨by rfl, ?hya3⟩) (by assumption) ?resta3
        case hya3 => (intro w hSw; (try dsimp only at hSw); first | (go_simp; done) | (go_simp; with_reducible rfl))
        try simp only [Act.put, List.setIfInBounds_toArray, List.set_cons_zero, List.set_cons_succ]
        refine wpAnyH_take (i := 4) (oi := { dst := some 40, op := Op.move (Operand.tmp 8), type := 3, pos := "ref.go:33", after := #[], guard := none }) (v := ?va4) rfl (by kernel_rfl) (by kernel_rfl) (by kernel_rfl) (fun _ _ _ h => h) (Or.inl ⟨by rfl, ?hya4⟩) (by assumption) ?resta4
        case hya4 => (intro w hSw; (try dsimp only at hSw); first | (go_simp; done) | (go_simp; with_reducible rfl))
        try simp only [Act.put, List.setIfInBounds_toArray, List.set_cons_zero, List.set_cons_succ]
        refine wpAnyH_take (i := 5) (oi := { dst := some 41, op := Op.indexAddr 49 (Operand.tmp 39) (Operand.tmp 40), type := 0, pos := "ref.go:33", after := #[{ on := 3, ground := Ground.data }, { on := 4, ground := Ground.data }], guard := none }) (v := ?va5) rfl (by kernel_rfl) (by kernel_rfl) (by kernel_rfl) (fun _ _ _ h => h) (Or.inl ⟨by rfl, ?hya5⟩) (by assumption) ?resta5
        case hya5 => (intro w hSw; (try dsimp only at hSw); first | (go_simp; done) | (go_simp; with_reducible rfl))
        try simp only [Act.put, List.setIfInBounds_toArray, List.set_cons_zero, List.set_cons_succ]
        refine wpAnyH_take (i := 6) (oi := { dst := some 42, op := Op.load 108 (Operand.tmp 41), type := 108, pos := "ref.go:33", after := #[{ on := 5, ground := Ground.data }], guard := none }) (v := ?va6) rfl (by kernel_rfl) (by kernel_rfl) (by kernel_rfl) (fun _ _ _ h => h) (Or.inl ⟨by rfl, ?hya6⟩) (by assumption) ?resta6
        case hya6 => (intro w hSw; (try dsimp only at hSw); first | (go_simp; done) | (go_simp; with_reducible rfl))
        try simp only [Act.put, List.setIfInBounds_toArray, List.set_cons_zero, List.set_cons_succ]
        refine wpAnyH_take (i := 7) (oi := { dst := some 43, op := Op.move (Operand.tmp 1), type := 30, pos := "ref.go:33", after := #[], guard := none }) (v := ?va7) rfl (by kernel_rfl) (by kernel_rfl) (by kernel_rfl) (fun _ _ _ h => h) (Or.inl ⟨by rfl, ?hya7⟩) (by assumption) ?resta7
        case hya7 => (intro w hSw; (try dsimp only at hSw); first | (go_simp; done) | (go_simp; with_reducible rfl))
        try simp only [Act.put, List.setIfInBounds_toArray, List.set_cons_zero, List.set_cons_succ]
        refine wpAnyH_ready (rs := [8]) (by kernel_rfl) (by simp) (AllReadyH.cons (o := { dst := some 44, op := Op.call { callee := Callee.value (Operand.func 38), args := #[Operand.tmp 42, Operand.tmp 43], argTypes := #[108, 30] }, type := 4, pos := "ref.go:33", after := #[{ on := 6, ground := Ground.data }, { on := 7, ground := Ground.data }], guard := none }) rfl (fun K hK => ?stepa8) AllReadyH.nil)
        go_simp
        go_at_call 38
        refine (HINS1.out _ hHeld).mono ?_
        rintro e w3 ⟨rfl, hS3⟩
        try dsimp only
        refine hK.out _ _ hS3 (fun hHeld2 => ?_)
        clear hK K hHeld
        try simp only [Act.put, List.setIfInBounds_toArray, List.set_cons_zero, List.set_cons_succ]
        refine wpAnyH_take (i := 9) (oi := { dst := some 45, op := Op.move (Operand.tmp 44), type := 4, pos := "ref.go:33", after := #[{ on := 8, ground := Ground.data }, { on := 8, ground := Ground.chain }], guard := none }) (v := ?vb9) rfl (by kernel_rfl) (by kernel_rfl) (by kernel_rfl) (fun _ _ _ h => h) (Or.inl ⟨by rfl, ?hyb9⟩) (by assumption) ?restb9
        case hyb9 => (intro w hSw; (try dsimp only at hSw); first | (go_simp; done) | (go_simp; with_reducible rfl))
        try simp only [Act.put, List.setIfInBounds_toArray, List.set_cons_zero, List.set_cons_succ]
        refine wpAnyH_take (i := 10) (oi := { dst := some 46, op := Op.load 108 (Operand.tmp 7), type := 108, pos := "ref.go:33", after := #[{ on := 9, ground := Ground.guard }], guard := some (9, false) }) (v := undef) rfl (by kernel_rfl) (by kernel_rfl) (by kernel_rfl) (fun _ _ _ h => h) (Or.inr ⟨by rfl, rfl⟩) (by assumption) ?restb10
        try simp only [Act.put, List.setIfInBounds_toArray, List.set_cons_zero, List.set_cons_succ]
        refine wpAnyH_take (i := 11) (oi := { dst := some 47, op := Op.move (Operand.tmp 0), type := 48, pos := "ref.go:33", after := #[{ on := 9, ground := Ground.guard }], guard := some (9, false) }) (v := undef) rfl (by kernel_rfl) (by kernel_rfl) (by kernel_rfl) (fun _ _ _ h => h) (Or.inr ⟨by rfl, rfl⟩) (by assumption) ?restb11
        try simp only [Act.put, List.setIfInBounds_toArray, List.set_cons_zero, List.set_cons_succ]
        refine wpAnyH_take (i := 12) (oi := { dst := some 48, op := Op.nilCheck (Operand.tmp 47), type := 0, pos := "ref.go:33", after := #[{ on := 11, ground := Ground.data }, { on := 9, ground := Ground.guard }], guard := some (9, false) }) (v := undef) rfl (by kernel_rfl) (by kernel_rfl) (by kernel_rfl) (fun _ _ _ h => h) (Or.inr ⟨by rfl, rfl⟩) (by assumption) ?restb12
        try simp only [Act.put, List.setIfInBounds_toArray, List.set_cons_zero, List.set_cons_succ]
        refine wpAnyH_take (i := 13) (oi := { dst := some 49, op := Op.fieldAddr 51 (Operand.tmp 48) 0, type := 0, pos := "ref.go:33", after := #[{ on := 12, ground := Ground.data }, { on := 9, ground := Ground.guard }], guard := some (9, false) }) (v := undef) rfl (by kernel_rfl) (by kernel_rfl) (by kernel_rfl) (fun _ _ _ h => h) (Or.inr ⟨by rfl, rfl⟩) (by assumption) ?restb13
        try simp only [Act.put, List.setIfInBounds_toArray, List.set_cons_zero, List.set_cons_succ]
        refine wpAnyH_take (i := 14) (oi := { dst := some 50, op := Op.load 49 (Operand.tmp 49), type := 49, pos := "ref.go:33", after := #[{ on := 13, ground := Ground.data }, { on := 9, ground := Ground.guard }], guard := some (9, false) }) (v := undef) rfl (by kernel_rfl) (by kernel_rfl) (by kernel_rfl) (fun _ _ _ h => h) (Or.inr ⟨by rfl, rfl⟩) (by assumption) ?restb14
        try simp only [Act.put, List.setIfInBounds_toArray, List.set_cons_zero, List.set_cons_succ]
        refine wpAnyH_take (i := 15) (oi := { dst := some 51, op := Op.move (Operand.tmp 8), type := 3, pos := "ref.go:33", after := #[{ on := 9, ground := Ground.guard }], guard := some (9, false) }) (v := undef) rfl (by kernel_rfl) (by kernel_rfl) (by kernel_rfl) (fun _ _ _ h => h) (Or.inr ⟨by rfl, rfl⟩) (by assumption) ?restb15
        try simp only [Act.put, List.setIfInBounds_toArray, List.set_cons_zero, List.set_cons_succ]
        refine wpAnyH_take (i := 16) (oi := { dst := some 52, op := Op.indexAddr 49 (Operand.tmp 50) (Operand.tmp 51), type := 0, pos := "ref.go:33", after := #[{ on := 14, ground := Ground.data }, { on := 15, ground := Ground.data }, { on := 9, ground := Ground.guard }], guard := some (9, false) }) (v := undef) rfl (by kernel_rfl) (by kernel_rfl) (by kernel_rfl) (fun _ _ _ h => h) (Or.inr ⟨by rfl, rfl⟩) (by assumption) ?restb16
        try simp only [Act.put, List.setIfInBounds_toArray, List.set_cons_zero, List.set_cons_succ]
        refine wpAnyH_take (i := 17) (oi := { dst := some 53, op := Op.fieldAddr 108 (Operand.tmp 52) 0, type := 0, pos := "ref.go:33", after := #[{ on := 16, ground := Ground.data }, { on := 9, ground := Ground.guard }], guard := some (9, false) }) (v := undef) rfl (by kernel_rfl) (by kernel_rfl) (by kernel_rfl) (fun _ _ _ h => h) (Or.inr ⟨by rfl, rfl⟩) (by assumption) ?restb17
        try simp only [Act.put, List.setIfInBounds_toArray, List.set_cons_zero, List.set_cons_succ]
        refine wpAnyH_take (i := 18) (oi := { dst := some 54, op := Op.load 30 (Operand.tmp 53), type := 30, pos := "ref.go:33", after := #[{ on := 17, ground := Ground.data }, { on := 9, ground := Ground.guard }], guard := some (9, false) }) (v := undef) rfl (by kernel_rfl) (by kernel_rfl) (by kernel_rfl) (fun _ _ _ h => h) (Or.inr ⟨by rfl, rfl⟩) (by assumption) ?restb18
        try simp only [Act.put, List.setIfInBounds_toArray, List.set_cons_zero, List.set_cons_succ]
        refine wpAnyH_take (i := 19) (oi := { dst := some 55, op := Op.call { callee := Callee.value (Operand.func 38), args := #[Operand.tmp 46, Operand.tmp 54], argTypes := #[108, 30] }, type := 4, pos := "ref.go:33", after := #[{ on := 10, ground := Ground.data }, { on := 18, ground := Ground.data }, { on := 9, ground := Ground.chain }, { on := 9, ground := Ground.guard }], guard := some (9, false) }) (v := undef) rfl (by kernel_rfl) (by kernel_rfl) (by kernel_rfl) (fun _ _ _ h => h) (Or.inr ⟨by rfl, rfl⟩) (by assumption) ?restb19
        try simp only [Act.put, List.setIfInBounds_toArray, List.set_cons_zero, List.set_cons_succ]
        refine wpAnyH_take (i := 20) (oi := { dst := some 56, op := Op.pick (Operand.tmp 45) (Operand.const (Value.bool true)) (Operand.tmp 55), type := 4, pos := "ref.go:33", after := #[{ on := 9, ground := Ground.data }, { on := 19, ground := Ground.data }], guard := none }) (v := ?vb20) rfl (by kernel_rfl) (by kernel_rfl) (by kernel_rfl) (fun _ _ _ h => h) (Or.inl ⟨by rfl, ?hyb20⟩) (by assumption) ?restb20
        case hyb20 => (intro w hSw; (try dsimp only at hSw); first | (go_simp; done) | (go_simp; with_reducible rfl))
        try simp only [Act.put, List.setIfInBounds_toArray, List.set_cons_zero, List.set_cons_succ]
        refine wpAnyH_done (by kernel_rfl) ?_ _
        go_wp2_with fail
        have HQ : Aside0 (RAddPost X B own b R base bs (.returned (.bool false)) w3) := ⟨by
          unfold RAddPost
          rw [HNO.out]
          exact ⟨rfl, below_then HXW.out HXW.out.size hS3.2.2.2.2.2⟩⟩
        go_ret
        exact HQ.out
      | false =>
        rw [hins] at HINS1
        have HI1 := Aside0.mk hins
        clear hins
        cases hins2 : insB ⟨base, bs⟩ r.base with
        | true =>
          have HNO := Aside0.mk (addOk_false (base := base) (n := bs.length) HR.out HOK.out.pos (.inr (by unfold insB at hins2; rw [decide_eq_true_eq] at hins2; exact hins2)))
          rw [hins2] at HINS2
          clear hins2
          go_wp2_with fail
          refine wp_region_held_drew (S := (fun w' => w'.cell? ⟨b, 0, none⟩ = some (.slice (some ⟨g, 0, none⟩) R.length c) ∧ w'.cell? ⟨g, k * 2, none⟩ = some (.int .u64 r.base) ∧ w'.cell? ⟨g, k * 2 + 1, none⟩ = some (.slice (some ⟨p.1, 0, none⟩) r.data.length p.2) ∧ w'.cell? ⟨mb, 0, none⟩ = some (.int .u64 base) ∧ w'.cell? ⟨mb, 1, none⟩ = some (.slice (some ⟨g1, 0, none⟩) bs.length cap1) ∧ Below W1.heap.size W1 w')) (by kernel_rfl) ⟨hmd, hcd0, hcd1, hmd0, hmd1, HBD.out⟩ (fun hHeld => ?_)
          refine wpAnyH_take (i := 0) (oi := { dst := some 36, op := Op.move (Operand.tmp 0), type := 48, pos := "ref.go:33", after := #[], guard := none }) (v := ?vta0) rfl (by kernel_rfl) (by kernel_rfl) (by kernel_rfl) (fun _ _ _ h => h) (Or.inl ⟨by rfl, ?hyta0⟩) (by assumption) ?restta0
          case hyta0 => (intro w hSw; (try dsimp only at hSw); first | (go_simp; done) | (go_simp; with_reducible rfl))
          try simp only [Act.put, List.setIfInBounds_toArray, List.set_cons_zero, List.set_cons_succ]
          refine wpAnyH_take (i := 1) (oi := { dst := some 37, op := Op.nilCheck (Operand.tmp 36), type := 0, pos := "ref.go:33", after := #[{ on := 0, ground := Ground.data }], guard := none }) (v := ?vta1) rfl (by kernel_rfl) (by kernel_rfl) (by kernel_rfl) (fun _ _ _ h => h) (Or.inl ⟨by rfl, ?hyta1⟩) (by assumption) ?restta1
          case hyta1 => (intro w hSw; (try dsimp only at hSw); first | (go_simp; done) | (go_simp; with_reducible rfl))
          try simp only [Act.put, List.setIfInBounds_toArray, List.set_cons_zero, List.set_cons_succ]
          refine wpAnyH_take (i := 2) (oi := { dst := some 38, op := Op.fieldAddr 51 (Operand.tmp 37) 0, type := 0, pos := "ref.go:33", after := #[{ on := 1, ground := Ground.data }], guard := none }) (v := ?vta2) rfl (by kernel_rfl) (by kernel_rfl) (by kernel_rfl) (fun _ _ _ h => h) (Or.inl ⟨by rfl, ?hyta2⟩) (by assumption) ?restta2
          case hyta2 => (intro w hSw; (try dsimp only at hSw); first | (go_simp; done) | (go_simp; with_reducible rfl))
          try simp only [Act.put, List.setIfInBounds_toArray, List.set_cons_zero, List.set_cons_succ]
          refine wpAnyH_take (i := 3) (oi := { dst := some 39, op := Op.load 49 (Operand.tmp 38), type := 49, pos := "ref.go:33", after := #[{ on := 2, ground := Ground.data }], guard := none }) (v := ?vta3) rfl (by kernel_rfl) (by kernel_rfl) (by kernel_rfl) (fun _ _ _ h => h) (Or.inl ⟨by rfl, ?hyta3⟩) (by assumption) ?restta3
          case hyta3 => (intro w hSw; (try dsimp only at hSw); first | (go_simp; done) | (go_simp; with_reducible rfl))
          try simp only [Act.put, List.setIfInBounds_toArray, List.set_cons_zero, List.set_cons_succ]
          refine wpAnyH_take (i := 4) (oi := { dst := some 40, op := Op.move (Operand.tmp 8), type := 3, pos := "ref.go:33", after := #[], guard := none }) (v := ?vta4) rfl (by kernel_rfl) (by kernel_rfl) (by kernel_rfl) (fun _ _ _ h => h) (Or.inl ⟨by rfl, ?hyta4⟩) (by assumption) ?restta4
          case hyta4 => (intro w hSw; (try dsimp only at hSw); first | (go_simp; done) | (go_simp; with_reducible rfl))
          try simp only [Act.put, List.setIfInBounds_toArray, List.set_cons_zero, List.set_cons_succ]
          refine wpAnyH_take (i := 5) (oi := { dst := some 41, op := Op.indexAddr 49 (Operand.tmp 39) (Operand.tmp 40), type := 0, pos := "ref.go:33", after := #[{ on := 3, ground := Ground.data }, { on := 4, ground := Ground.data }], guard := none }) (v := ?vta5) rfl (by kernel_rfl) (by kernel_rfl) (by kernel_rfl) (fun _ _ _ h => h) (Or.inl ⟨by rfl, ?hyta5⟩) (by assumption) ?restta5
          case hyta5 => (intro w hSw; (try dsimp only at hSw); first | (go_simp; done) | (go_simp; with_reducible rfl))
          try simp only [Act.put, List.setIfInBounds_toArray, List.set_cons_zero, List.set_cons_succ]
          refine wpAnyH_take (i := 6) (oi := { dst := some 42, op := Op.load 108 (Operand.tmp 41), type := 108, pos := "ref.go:33", after := #[{ on := 5, ground := Ground.data }], guard := none }) (v := ?vta6) rfl (by kernel_rfl) (by kernel_rfl) (by kernel_rfl) (fun _ _ _ h => h) (Or.inl ⟨by rfl, ?hyta6⟩) (by assumption) ?restta6
          case hyta6 => (intro w hSw; (try dsimp only at hSw); first | (go_simp; done) | (go_simp; with_reducible rfl))
          try simp only [Act.put, List.setIfInBounds_toArray, List.set_cons_zero, List.set_cons_succ]
          refine wpAnyH_take (i := 7) (oi := { dst := some 43, op := Op.move (Operand.tmp 1), type := 30, pos := "ref.go:33", after := #[], guard := none }) (v := ?vta7) rfl (by kernel_rfl) (by kernel_rfl) (by kernel_rfl) (fun _ _ _ h => h) (Or.inl ⟨by rfl, ?hyta7⟩) (by assumption) ?restta7
          case hyta7 => (intro w hSw; (try dsimp only at hSw); first | (go_simp; done) | (go_simp; with_reducible rfl))
          try simp only [Act.put, List.setIfInBounds_toArray, List.set_cons_zero, List.set_cons_succ]
          refine wpAnyH_ready (rs := [8]) (by kernel_rfl) (by simp) (AllReadyH.cons (o := { dst := some 44, op := Op.call { callee := Callee.value (Operand.func 38), args := #[Operand.tmp 42, Operand.tmp 43], argTypes := #[108, 30] }, type := 4, pos := "ref.go:33", after := #[{ on := 6, ground := Ground.data }, { on := 7, ground := Ground.data }], guard := none }) rfl (fun K hK => ?stepta8) AllReadyH.nil)
          go_simp
          go_at_call 38
          refine (HINS1.out _ hHeld).mono ?_
          rintro e w3 ⟨rfl, hS3⟩
          try dsimp only
          refine hK.out _ _ hS3 (fun hHeld2 => ?_)
          clear hK K hHeld
          try simp only [Act.put, List.setIfInBounds_toArray, List.set_cons_zero, List.set_cons_succ]
          refine wpAnyH_take (i := 9) (oi := { dst := some 45, op := Op.move (Operand.tmp 44), type := 4, pos := "ref.go:33", after := #[{ on := 8, ground := Ground.data }, { on := 8, ground := Ground.chain }], guard := none }) (v := ?vtb9) rfl (by kernel_rfl) (by kernel_rfl) (by kernel_rfl) (fun _ _ _ h => h) (Or.inl ⟨by rfl, ?hytb9⟩) (by assumption) ?resttb9
          case hytb9 => (intro w hSw; (try dsimp only at hSw); first | (go_simp; done) | (go_simp; with_reducible rfl))
          try simp only [Act.put, List.setIfInBounds_toArray, List.set_cons_zero, List.set_cons_succ]
          refine wpAnyH_take (i := 10) (oi := { dst := some 46, op := Op.load 108 (Operand.tmp 7), type := 108, pos := "ref.go:33", after := #[{ on := 9, ground := Ground.guard }], guard := some (9, false) }) (v := ?vtb10) rfl (by kernel_rfl) (by kernel_rfl) (by kernel_rfl) (fun _ _ _ h => h) (Or.inl ⟨by rfl, ?hytb10⟩) (by assumption) ?resttb10
          case hytb10 => (intro w hSw; (try dsimp only at hSw); first | (go_simp; done) | (go_simp; with_reducible rfl))
          try simp only [Act.put, List.setIfInBounds_toArray, List.set_cons_zero, List.set_cons_succ]
          refine wpAnyH_take (i := 11) (oi := { dst := some 47, op := Op.move (Operand.tmp 0), type := 48, pos := "ref.go:33", after := #[{ on := 9, ground := Ground.guard }], guard := some (9, false) }) (v := ?vtb11) rfl (by kernel_rfl) (by kernel_rfl) (by kernel_rfl) (fun _ _ _ h => h) (Or.inl ⟨by rfl, ?hytb11⟩) (by assumption) ?resttb11
          case hytb11 => (intro w hSw; (try dsimp only at hSw); first | (go_simp; done) | (go_simp; with_reducible rfl))
          try simp only [Act.put, List.setIfInBounds_toArray, List.set_cons_zero, List.set_cons_succ]
          refine wpAnyH_take (i := 12) (oi := { dst := some 48, op := Op.nilCheck (Operand.tmp 47), type := 0, pos := "ref.go:33", after := #[{ on := 11, ground := Ground.data }, { on := 9, ground := Ground.guard }], guard := some (9, false) }) (v := ?vtb12) rfl (by kernel_rfl) (by kernel_rfl) (by kernel_rfl) (fun _ _ _ h => h) (Or.inl ⟨by rfl, ?hytb12⟩) (by assumption) ?resttb12
          case hytb12 => (intro w hSw; (try dsimp only at hSw); first | (go_simp; done) | (go_simp; with_reducible rfl))
          try simp only [Act.put, List.setIfInBounds_toArray, List.set_cons_zero, List.set_cons_succ]
          refine wpAnyH_take (i := 13) (oi := { dst := some 49, op := Op.fieldAddr 51 (Operand.tmp 48) 0, type := 0, pos := "ref.go:33", after := #[{ on := 12, ground := Ground.data }, { on := 9, ground := Ground.guard }], guard := some (9, false) }) (v := ?vtb13) rfl (by kernel_rfl) (by kernel_rfl) (by kernel_rfl) (fun _ _ _ h => h) (Or.inl ⟨by rfl, ?hytb13⟩) (by assumption) ?resttb13
          case hytb13 => (intro w hSw; (try dsimp only at hSw); first | (go_simp; done) | (go_simp; with_reducible rfl))
          try simp only [Act.put, List.setIfInBounds_toArray, List.set_cons_zero, List.set_cons_succ]
          refine wpAnyH_take (i := 14) (oi := { dst := some 50, op := Op.load 49 (Operand.tmp 49), type := 49, pos := "ref.go:33", after := #[{ on := 13, ground := Ground.data }, { on := 9, ground := Ground.guard }], guard := some (9, false) }) (v := ?vtb14) rfl (by kernel_rfl) (by kernel_rfl) (by kernel_rfl) (fun _ _ _ h => h) (Or.inl ⟨by rfl, ?hytb14⟩) (by assumption) ?resttb14
          case hytb14 => (intro w hSw; (try dsimp only at hSw); first | (go_simp; done) | (go_simp; with_reducible rfl))
          try simp only [Act.put, List.setIfInBounds_toArray, List.set_cons_zero, List.set_cons_succ]
          refine wpAnyH_take (i := 15) (oi := { dst := some 51, op := Op.move (Operand.tmp 8), type := 3, pos := "ref.go:33", after := #[{ on := 9, ground := Ground.guard }], guard := some (9, false) }) (v := ?vtb15) rfl (by kernel_rfl) (by kernel_rfl) (by kernel_rfl) (fun _ _ _ h => h) (Or.inl ⟨by rfl, ?hytb15⟩) (by assumption) ?resttb15
          case hytb15 => (intro w hSw; (try dsimp only at hSw); first | (go_simp; done) | (go_simp; with_reducible rfl))
          try simp only [Act.put, List.setIfInBounds_toArray, List.set_cons_zero, List.set_cons_succ]
          refine wpAnyH_take (i := 16) (oi := { dst := some 52, op := Op.indexAddr 49 (Operand.tmp 50) (Operand.tmp 51), type := 0, pos := "ref.go:33", after := #[{ on := 14, ground := Ground.data }, { on := 15, ground := Ground.data }, { on := 9, ground := Ground.guard }], guard := some (9, false) }) (v := ?vtb16) rfl (by kernel_rfl) (by kernel_rfl) (by kernel_rfl) (fun _ _ _ h => h) (Or.inl ⟨by rfl, ?hytb16⟩) (by assumption) ?resttb16
          case hytb16 => (intro w hSw; (try dsimp only at hSw); first | (go_simp; done) | (go_simp; with_reducible rfl))
          try simp only [Act.put, List.setIfInBounds_toArray, List.set_cons_zero, List.set_cons_succ]
          refine wpAnyH_take (i := 17) (oi := { dst := some 53, op := Op.fieldAddr 108 (Operand.tmp 52) 0, type := 0, pos := "ref.go:33", after := #[{ on := 16, ground := Ground.data }, { on := 9, ground := Ground.guard }], guard := some (9, false) }) (v := ?vtb17) rfl (by kernel_rfl) (by kernel_rfl) (by kernel_rfl) (fun _ _ _ h => h) (Or.inl ⟨by rfl, ?hytb17⟩) (by assumption) ?resttb17
          case hytb17 => (intro w hSw; (try dsimp only at hSw); first | (go_simp; done) | (go_simp; with_reducible rfl))
          try simp only [Act.put, List.setIfInBounds_toArray, List.set_cons_zero, List.set_cons_succ]
          refine wpAnyH_take (i := 18) (oi := { dst := some 54, op := Op.load 30 (Operand.tmp 53), type := 30, pos := "ref.go:33", after := #[{ on := 17, ground := Ground.data }, { on := 9, ground := Ground.guard }], guard := some (9, false) }) (v := ?vtb18) rfl (by kernel_rfl) (by kernel_rfl) (by kernel_rfl) (fun _ _ _ h => h) (Or.inl ⟨by rfl, ?hytb18⟩) (by assumption) ?resttb18
          case hytb18 => (intro w hSw; (try dsimp only at hSw); first | (go_simp; done) | (go_simp; with_reducible rfl))
          try simp only [Act.put, List.setIfInBounds_toArray, List.set_cons_zero, List.set_cons_succ]
          refine wpAnyH_ready (rs := [19]) (by kernel_rfl) (by simp) (AllReadyH.cons (o := { dst := some 55, op := Op.call { callee := Callee.value (Operand.func 38), args := #[Operand.tmp 46, Operand.tmp 54], argTypes := #[108, 30] }, type := 4, pos := "ref.go:33", after := #[{ on := 10, ground := Ground.data }, { on := 18, ground := Ground.data }, { on := 9, ground := Ground.chain }, { on := 9, ground := Ground.guard }], guard := some (9, false) }) rfl (fun K hK => ?steptb19) AllReadyH.nil)
          go_simp
          go_at_call 38
          refine (HINS2.out _ hHeld2).mono ?_
          rintro e w4 ⟨rfl, hS4⟩
          try dsimp only
          refine hK.out _ _ hS4 (fun hHeld3 => ?_)
          clear hK K hHeld2
          try simp only [Act.put, List.setIfInBounds_toArray, List.set_cons_zero, List.set_cons_succ]
          refine wpAnyH_take (i := 20) (oi := { dst := some 56, op := Op.pick (Operand.tmp 45) (Operand.const (Value.bool true)) (Operand.tmp 55), type := 4, pos := "ref.go:33", after := #[{ on := 9, ground := Ground.data }, { on := 19, ground := Ground.data }], guard := none }) (v := ?vtc20) rfl (by kernel_rfl) (by kernel_rfl) (by kernel_rfl) (fun _ _ _ h => h) (Or.inl ⟨by rfl, ?hytc20⟩) (by assumption) ?resttc20
          case hytc20 => (intro w hSw; (try dsimp only at hSw); first | (go_simp; done) | (go_simp; with_reducible rfl))
          try simp only [Act.put, List.setIfInBounds_toArray, List.set_cons_zero, List.set_cons_succ]
          refine wpAnyH_done (by kernel_rfl) ?_ _
          go_wp2_with fail
          have HQ : Aside0 (RAddPost X B own b R base bs (.returned (.bool false)) w4) := ⟨by
            unfold RAddPost
            rw [HNO.out]
            exact ⟨rfl, below_then HXW.out HXW.out.size hS4.2.2.2.2.2⟩⟩
          go_ret
          exact HQ.out
        | false =>
          have HNXT : Aside0 (∀ (j : Nat) (q : Reg), j < k + 1 → R[j]? = some q → insB q base = false ∧ ¬ (base ≤ q.base ∧ q.base < base + bs.length)) := ⟨fun j q hj hq => by
            rcases Nat.lt_or_eq_of_le (Nat.le_of_lt_succ hj) with h | h
            · exact HJ.out j q h hq
            · subst h
              rw [HR.out] at hq
              cases hq
              refine ⟨HI1.out, ?_⟩
              unfold insB at hins2
              rw [decide_eq_false_iff_not] at hins2
              exact hins2⟩
          rw [hins2] at HINS2
          clear hins2
          go_wp2_with fail
          refine wp_region_held_drew (S := (fun w' => w'.cell? ⟨b, 0, none⟩ = some (.slice (some ⟨g, 0, none⟩) R.length c) ∧ w'.cell? ⟨g, k * 2, none⟩ = some (.int .u64 r.base) ∧ w'.cell? ⟨g, k * 2 + 1, none⟩ = some (.slice (some ⟨p.1, 0, none⟩) r.data.length p.2) ∧ w'.cell? ⟨mb, 0, none⟩ = some (.int .u64 base) ∧ w'.cell? ⟨mb, 1, none⟩ = some (.slice (some ⟨g1, 0, none⟩) bs.length cap1) ∧ Below W1.heap.size W1 w')) (by kernel_rfl) ⟨hmd, hcd0, hcd1, hmd0, hmd1, HBD.out⟩ (fun hHeld => ?_)
          refine wpAnyH_take (i := 0) (oi := { dst := some 36, op := Op.move (Operand.tmp 0), type := 48, pos := "ref.go:33", after := #[], guard := none }) (v := ?vua0) rfl (by kernel_rfl) (by kernel_rfl) (by kernel_rfl) (fun _ _ _ h => h) (Or.inl ⟨by rfl, ?hyua0⟩) (by assumption) ?restua0
          case hyua0 => (intro w hSw; (try dsimp only at hSw); first | (go_simp; done) | (go_simp; with_reducible rfl))
          try simp only [Act.put, List.setIfInBounds_toArray, List.set_cons_zero, List.set_cons_succ]
          refine wpAnyH_take (i := 1) (oi := { dst := some 37, op := Op.nilCheck (Operand.tmp 36), type := 0, pos := "ref.go:33", after := #[{ on := 0, ground := Ground.data }], guard := none }) (v := ?vua1) rfl (by kernel_rfl) (by kernel_rfl) (by kernel_rfl) (fun _ _ _ h => h) (Or.inl ⟨by rfl, ?hyua1⟩) (by assumption) ?restua1
          case hyua1 => (intro w hSw; (try dsimp only at hSw); first | (go_simp; done) | (go_simp; with_reducible rfl))
          try simp only [Act.put, List.setIfInBounds_toArray, List.set_cons_zero, List.set_cons_succ]
          refine wpAnyH_take (i := 2) (oi := { dst := some 38, op := Op.fieldAddr 51 (Operand.tmp 37) 0, type := 0, pos := "ref.go:33", after := #[{ on := 1, ground := Ground.data }], guard := none }) (v := ?vua2) rfl (by kernel_rfl) (by kernel_rfl) (by kernel_rfl) (fun _ _ _ h => h) (Or.inl ⟨by rfl, ?hyua2⟩) (by assumption) ?restua2
          case hyua2 => (intro w hSw; (try dsimp only at hSw); first | (go_simp; done) | (go_simp; with_reducible rfl))
          try simp only [Act.put, List.setIfInBounds_toArray, List.set_cons_zero, List.set_cons_succ]
          refine wpAnyH_take (i := 3) (oi := { dst := some 39, op := Op.load 49 (Operand.tmp 38), type := 49, pos := "ref.go:33", after := #[{ on := 2, ground := Ground.data }], guard := none }) (v := ?vua3) rfl (by kernel_rfl) (by kernel_rfl) (by kernel_rfl) (fun _ _ _ h => h) (Or.inl ⟨by rfl, ?hyua3⟩) (by assumption) ?restua3
          case hyua3 => (intro w hSw; (try dsimp only at hSw); first | (go_simp; done) | (go_simp; with_reducible rfl))
          try simp only [Act.put, List.setIfInBounds_toArray, List.set_cons_zero, List.set_cons_succ]
          refine wpAnyH_take (i := 4) (oi := { dst := some 40, op := Op.move (Operand.tmp 8), type := 3, pos := "ref.go:33", after := #[], guard := none }) (v := ?vua4) rfl (by kernel_rfl) (by kernel_rfl) (by kernel_rfl) (fun _ _ _ h => h) (Or.inl ⟨by rfl, ?hyua4⟩) (by assumption) ?restua4
          case hyua4 => (intro w hSw; (try dsimp only at hSw); first | (go_simp; done) | (go_simp; with_reducible rfl))
          try simp only [Act.put, List.setIfInBounds_toArray, List.set_cons_zero, List.set_cons_succ]
          refine wpAnyH_take (i := 5) (oi := { dst := some 41, op := Op.indexAddr 49 (Operand.tmp 39) (Operand.tmp 40), type := 0, pos := "ref.go:33", after := #[{ on := 3, ground := Ground.data }, { on := 4, ground := Ground.data }], guard := none }) (v := ?vua5) rfl (by kernel_rfl) (by kernel_rfl) (by kernel_rfl) (fun _ _ _ h => h) (Or.inl ⟨by rfl, ?hyua5⟩) (by assumption) ?restua5
          case hyua5 => (intro w hSw; (try dsimp only at hSw); first | (go_simp; done) | (go_simp; with_reducible rfl))
          try simp only [Act.put, List.setIfInBounds_toArray, List.set_cons_zero, List.set_cons_succ]
          refine wpAnyH_take (i := 6) (oi := { dst := some 42, op := Op.load 108 (Operand.tmp 41), type := 108, pos := "ref.go:33", after := #[{ on := 5, ground := Ground.data }], guard := none }) (v := ?vua6) rfl (by kernel_rfl) (by kernel_rfl) (by kernel_rfl) (fun _ _ _ h => h) (Or.inl ⟨by rfl, ?hyua6⟩) (by assumption) ?restua6
          case hyua6 => (intro w hSw; (try dsimp only at hSw); first | (go_simp; done) | (go_simp; with_reducible rfl))
          try simp only [Act.put, List.setIfInBounds_toArray, List.set_cons_zero, List.set_cons_succ]
          refine wpAnyH_take (i := 7) (oi := { dst := some 43, op := Op.move (Operand.tmp 1), type := 30, pos := "ref.go:33", after := #[], guard := none }) (v := ?vua7) rfl (by kernel_rfl) (by kernel_rfl) (by kernel_rfl) (fun _ _ _ h => h) (Or.inl ⟨by rfl, ?hyua7⟩) (by assumption) ?restua7
          case hyua7 => (intro w hSw; (try dsimp only at hSw); first | (go_simp; done) | (go_simp; with_reducible rfl))
          try simp only [Act.put, List.setIfInBounds_toArray, List.set_cons_zero, List.set_cons_succ]
          refine wpAnyH_ready (rs := [8]) (by kernel_rfl) (by simp) (AllReadyH.cons (o := { dst := some 44, op := Op.call { callee := Callee.value (Operand.func 38), args := #[Operand.tmp 42, Operand.tmp 43], argTypes := #[108, 30] }, type := 4, pos := "ref.go:33", after := #[{ on := 6, ground := Ground.data }, { on := 7, ground := Ground.data }], guard := none }) rfl (fun K hK => ?stepua8) AllReadyH.nil)
          go_simp
          go_at_call 38
          refine (HINS1.out _ hHeld).mono ?_
          rintro e w3 ⟨rfl, hS3⟩
          try dsimp only
          refine hK.out _ _ hS3 (fun hHeld2 => ?_)
          clear hK K hHeld
          try simp only [Act.put, List.setIfInBounds_toArray, List.set_cons_zero, List.set_cons_succ]
          refine wpAnyH_take (i := 9) (oi := { dst := some 45, op := Op.move (Operand.tmp 44), type := 4, pos := "ref.go:33", after := #[{ on := 8, ground := Ground.data }, { on := 8, ground := Ground.chain }], guard := none }) (v := ?vub9) rfl (by kernel_rfl) (by kernel_rfl) (by kernel_rfl) (fun _ _ _ h => h) (Or.inl ⟨by rfl, ?hyub9⟩) (by assumption) ?restub9
          case hyub9 => (intro w hSw; (try dsimp only at hSw); first | (go_simp; done) | (go_simp; with_reducible rfl))
          try simp only [Act.put, List.setIfInBounds_toArray, List.set_cons_zero, List.set_cons_succ]
          refine wpAnyH_take (i := 10) (oi := { dst := some 46, op := Op.load 108 (Operand.tmp 7), type := 108, pos := "ref.go:33", after := #[{ on := 9, ground := Ground.guard }], guard := some (9, false) }) (v := ?vub10) rfl (by kernel_rfl) (by kernel_rfl) (by kernel_rfl) (fun _ _ _ h => h) (Or.inl ⟨by rfl, ?hyub10⟩) (by assumption) ?restub10
          case hyub10 => (intro w hSw; (try dsimp only at hSw); first | (go_simp; done) | (go_simp; with_reducible rfl))
          try simp only [Act.put, List.setIfInBounds_toArray, List.set_cons_zero, List.set_cons_succ]
          refine wpAnyH_take (i := 11) (oi := { dst := some 47, op := Op.move (Operand.tmp 0), type := 48, pos := "ref.go:33", after := #[{ on := 9, ground := Ground.guard }], guard := some (9, false) }) (v := ?vub11) rfl (by kernel_rfl) (by kernel_rfl) (by kernel_rfl) (fun _ _ _ h => h) (Or.inl ⟨by rfl, ?hyub11⟩) (by assumption) ?restub11
          case hyub11 => (intro w hSw; (try dsimp only at hSw); first | (go_simp; done) | (go_simp; with_reducible rfl))
          try simp only [Act.put, List.setIfInBounds_toArray, List.set_cons_zero, List.set_cons_succ]
          refine wpAnyH_take (i := 12) (oi := { dst := some 48, op := Op.nilCheck (Operand.tmp 47), type := 0, pos := "ref.go:33", after := #[{ on := 11, ground := Ground.data }, { on := 9, ground := Ground.guard }], guard := some (9, false) }) (v := ?vub12) rfl (by kernel_rfl) (by kernel_rfl) (by kernel_rfl) (fun _ _ _ h => h) (Or.inl ⟨by rfl, ?hyub12⟩) (by assumption) ?restub12
          case hyub12 => (intro w hSw; (try dsimp only at hSw); first | (go_simp; done) | (go_simp; with_reducible rfl))
          try simp only [Act.put, List.setIfInBounds_toArray, List.set_cons_zero, List.set_cons_succ]
          refine wpAnyH_take (i := 13) (oi := { dst := some 49, op := Op.fieldAddr 51 (Operand.tmp 48) 0, type := 0, pos := "ref.go:33", after := #[{ on := 12, ground := Ground.data }, { on := 9, ground := Ground.guard }], guard := some (9, false) }) (v := ?vub13) rfl (by kernel_rfl) (by kernel_rfl) (by kernel_rfl) (fun _ _ _ h => h) (Or.inl ⟨by rfl, ?hyub13⟩) (by assumption) ?restub13
          case hyub13 => (intro w hSw; (try dsimp only at hSw); first | (go_simp; done) | (go_simp; with_reducible rfl))
          try simp only [Act.put, List.setIfInBounds_toArray, List.set_cons_zero, List.set_cons_succ]
          refine wpAnyH_take (i := 14) (oi := { dst := some 50, op := Op.load 49 (Operand.tmp 49), type := 49, pos := "ref.go:33", after := #[{ on := 13, ground := Ground.data }, { on := 9, ground := Ground.guard }], guard := some (9, false) }) (v := ?vub14) rfl (by kernel_rfl) (by kernel_rfl) (by kernel_rfl) (fun _ _ _ h => h) (Or.inl ⟨by rfl, ?hyub14⟩) (by assumption) ?restub14
          case hyub14 => (intro w hSw; (try dsimp only at hSw); first | (go_simp; done) | (go_simp; with_reducible rfl))
          try simp only [Act.put, List.setIfInBounds_toArray, List.set_cons_zero, List.set_cons_succ]
          refine wpAnyH_take (i := 15) (oi := { dst := some 51, op := Op.move (Operand.tmp 8), type := 3, pos := "ref.go:33", after := #[{ on := 9, ground := Ground.guard }], guard := some (9, false) }) (v := ?vub15) rfl (by kernel_rfl) (by kernel_rfl) (by kernel_rfl) (fun _ _ _ h => h) (Or.inl ⟨by rfl, ?hyub15⟩) (by assumption) ?restub15
          case hyub15 => (intro w hSw; (try dsimp only at hSw); first | (go_simp; done) | (go_simp; with_reducible rfl))
          try simp only [Act.put, List.setIfInBounds_toArray, List.set_cons_zero, List.set_cons_succ]
          refine wpAnyH_take (i := 16) (oi := { dst := some 52, op := Op.indexAddr 49 (Operand.tmp 50) (Operand.tmp 51), type := 0, pos := "ref.go:33", after := #[{ on := 14, ground := Ground.data }, { on := 15, ground := Ground.data }, { on := 9, ground := Ground.guard }], guard := some (9, false) }) (v := ?vub16) rfl (by kernel_rfl) (by kernel_rfl) (by kernel_rfl) (fun _ _ _ h => h) (Or.inl ⟨by rfl, ?hyub16⟩) (by assumption) ?restub16
          case hyub16 => (intro w hSw; (try dsimp only at hSw); first | (go_simp; done) | (go_simp; with_reducible rfl))
          try simp only [Act.put, List.setIfInBounds_toArray, List.set_cons_zero, List.set_cons_succ]
          refine wpAnyH_take (i := 17) (oi := { dst := some 53, op := Op.fieldAddr 108 (Operand.tmp 52) 0, type := 0, pos := "ref.go:33", after := #[{ on := 16, ground := Ground.data }, { on := 9, ground := Ground.guard }], guard := some (9, false) }) (v := ?vub17) rfl (by kernel_rfl) (by kernel_rfl) (by kernel_rfl) (fun _ _ _ h => h) (Or.inl ⟨by rfl, ?hyub17⟩) (by assumption) ?restub17
          case hyub17 => (intro w hSw; (try dsimp only at hSw); first | (go_simp; done) | (go_simp; with_reducible rfl))
          try simp only [Act.put, List.setIfInBounds_toArray, List.set_cons_zero, List.set_cons_succ]
          refine wpAnyH_take (i := 18) (oi := { dst := some 54, op := Op.load 30 (Operand.tmp 53), type := 30, pos := "ref.go:33", after := #[{ on := 17, ground := Ground.data }, { on := 9, ground := Ground.guard }], guard := some (9, false) }) (v := ?vub18) rfl (by kernel_rfl) (by kernel_rfl) (by kernel_rfl) (fun _ _ _ h => h) (Or.inl ⟨by rfl, ?hyub18⟩) (by assumption) ?restub18
          case hyub18 => (intro w hSw; (try dsimp only at hSw); first | (go_simp; done) | (go_simp; with_reducible rfl))
          try simp only [Act.put, List.setIfInBounds_toArray, List.set_cons_zero, List.set_cons_succ]
          refine wpAnyH_ready (rs := [19]) (by kernel_rfl) (by simp) (AllReadyH.cons (o := { dst := some 55, op := Op.call { callee := Callee.value (Operand.func 38), args := #[Operand.tmp 46, Operand.tmp 54], argTypes := #[108, 30] }, type := 4, pos := "ref.go:33", after := #[{ on := 10, ground := Ground.data }, { on := 18, ground := Ground.data }, { on := 9, ground := Ground.chain }, { on := 9, ground := Ground.guard }], guard := some (9, false) }) rfl (fun K hK => ?stepub19) AllReadyH.nil)
          go_simp
          go_at_call 38
          refine (HINS2.out _ hHeld2).mono ?_
          rintro e w4 ⟨rfl, hS4⟩
          try dsimp only
          refine hK.out _ _ hS4 (fun hHeld3 => ?_)
          clear hK K hHeld2
          try simp only [Act.put, List.setIfInBounds_toArray, List.set_cons_zero, List.set_cons_succ]
          refine wpAnyH_take (i := 20) (oi := { dst := some 56, op := Op.pick (Operand.tmp 45) (Operand.const (Value.bool true)) (Operand.tmp 55), type := 4, pos := "ref.go:33", after := #[{ on := 9, ground := Ground.data }, { on := 19, ground := Ground.data }], guard := none }) (v := ?vuc20) rfl (by kernel_rfl) (by kernel_rfl) (by kernel_rfl) (fun _ _ _ h => h) (Or.inl ⟨by rfl, ?hyuc20⟩) (by assumption) ?restuc20
          case hyuc20 => (intro w hSw; (try dsimp only at hSw); first | (go_simp; done) | (go_simp; with_reducible rfl))
          try simp only [Act.put, List.setIfInBounds_toArray, List.set_cons_zero, List.set_cons_succ]
          refine wpAnyH_done (by kernel_rfl) ?_ _
          have HB4 := Aside0.mk hS4.2.2.2.2.2
          go_wp2_with fail
          exact ⟨⟨k + 1, by omega, by congr 1, HB4, HNXT⟩, by simp [intOf]; omega⟩
    · obtain rfl : k = R.length := by omega
      have HOKT : Aside0 (addOk R base bs.length = true) := ⟨addOk_true HL0.out HB2.out (fun r hr => (HW.out r hr).pos) (fun k r hk hr => HJ.out k r hk hr)⟩
      obtain ⟨i0, hi, hz0, hz1, hz2⟩ := info_parts infoReg
      have hmd : wr.drew.cell? ⟨b, 0, none⟩ = some (.slice A R.length c) := hm0
      have hmd0 : wr.drew.cell? ⟨mb, 0, none⟩ = some (.int .u64 base) := hmb0
      have hmd1 : wr.drew.cell? ⟨mb, 1, none⟩ = some (.slice (some ⟨g1, 0, none⟩) bs.length cap1) := hmb1
      have hfro : wr.drew.frozen? ⟨b, 0, none⟩ = false := (blk1 HMr.out.blk).2
      have HROWD : Aside0 (wr.drew.ownsRow B 108 2 (.slice A R.length c) R.length (cells2 R ps)) := ⟨HMr.out.row⟩
      have hBX2 : B ≤ wr.heap.size := Nat.le_trans hBX HXr.out.size
      have hnb : (Value.slice A R.length c).ownBlock ≠ some b := fun e => by
        rcases HMr.out.row.2 with ⟨h', _⟩ | ⟨g', cap', cur', h', _, hh', _⟩
        · rw [h'] at e; simp [Value.ownBlock] at e
        · rw [h'] at e
          obtain rfl : g' = b := by simpa [Value.ownBlock] using e
          exact two_blocks hh' HMr.out.blk (by decide) rfl
      have HNB := Aside0.mk hnb
      have hbl' : b < wr.heap.size := (Array.getElem?_eq_some_iff.1 HMr.out.blk).1
      have HK5 : Aside0 (∀ (o : Obj) (w5 : World), (wr.drew.alloc o).grownBy w5 (Value.slice A R.length c).ownBlock → w5.heap[b]? = some (.cells #[.slice A R.length c] 51 (0, 0))) := ⟨fun o w5 hg => by
        rw [hg.block b (Nat.lt_of_lt_of_le hbl' (below_alloc (Below.refl _ _) o).size) (fun e => HNB.out e.symm)]
        exact ((below_alloc (Below.refl wr.drew.heap.size _) o).block b hbl').trans HMr.out.blk⟩
      have HFIN : Aside0 (∀ (o : Obj) (w5 : World) (g2 cap2 : Nat), w5.ownsRow B 108 2 (.slice (some ⟨g2, 0, none⟩) (R.length + 1) cap2) (R.length + 1) (cells2 R ps ++ cell2 ⟨base, bs⟩ (g1, cap1)) → w5.heap[b]? = some (.cells #[.slice A R.length c] 51 (0, 0)) →
          (wr.drew.alloc o).grownBy w5 (Value.slice A R.length c).ownBlock → ((Value.slice A R.length c).ownBlock = some g2 ∨ g2 = (wr.drew.alloc o).heap.size) →
          Aside0 (RAddPost X B own b R base bs (.returned (.bool true)) (w5.setCell ⟨b, 0, none⟩ (.slice (some ⟨g2, 0, none⟩) (R.length + 1) cap2)))) := ⟨fun o w5 g2 cap2 hown hb5 hgr hat => by
        refine ⟨?_⟩
        unfold RAddPost
        rw [if_pos HOKT.out]
        have hblk2 : ∀ {g : Nat}, (Value.slice A R.length c).ownBlock = some g → ∃ cur, wr.heap[g]? = some (.cells cur 108 (0, 0)) := fun {g} e => by
          rcases HMr.out.row.2 with ⟨h', _⟩ | ⟨g', cap', cur', h', _, hh', _⟩
          · rw [h'] at e; simp [Value.ownBlock] at e
          · rw [h'] at e
            obtain rfl : g' = g := by simpa [Value.ownBlock] using e
            exact ⟨cur', hh'⟩
        have hset : ∀ k, k ≠ b → (w5.setCell ⟨b, 0, none⟩ (.slice (some ⟨g2, 0, none⟩) (R.length + 1) cap2)).heap[k]? = w5.heap[k]? := fun k hk => Below.heap_setCell w5 ⟨b, 0, none⟩ _ k hk
        have h5 : ∀ k, k < wr.heap.size → (Value.slice A R.length c).ownBlock ≠ some k → w5.heap[k]? = wr.heap[k]? := fun k hk hn => by
          rw [hgr.block k (Nat.lt_of_lt_of_le hk (below_alloc (Below.refl wr.drew.heap.size _) o).size) (fun e => hn e.symm)]
          exact (below_alloc (Below.refl wr.drew.heap.size _) o).block k hk
        have hg2b : g2 ≠ b := by
          rcases hown.2 with ⟨h', _⟩ | ⟨g', cap', cur', h', _, hh', _⟩
          · cases h'
          · cases h'
            exact two_blocks hh' hb5 (by decide)
        have hg1 : g1 < wr.heap.size := Nat.lt_of_lt_of_le (own_lt HRW1.out g1 rfl) HB.out.size
        obtain ⟨cg, hcg⟩ := row_block HRW1.out rfl
        have hcg2 : wr.heap[g1]? = some (.cells cg 5 (0, 0)) := (HB.out.block g1 (own_lt HRW1.out g1 rfl)).trans hcg
        have hg1b : g1 ≠ b := two_blocks hcg2 HMr.out.blk (by decide)
        have hg1v : (Value.slice A R.length c).ownBlock ≠ some g1 := fun e => by
          obtain ⟨c2, hc2⟩ := hblk2 e
          exact two_blocks hcg2 hc2 (by decide) rfl
        refine ⟨rfl, ⟨_, _, HM.out.push ⟨base, bs⟩ (g1, cap1) (fun k hk => .inl hk) (fun k hk hkb hkv => ?_) (blk_put hb5 0 _ rfl) ?_ ?_ (.inr HG1.out) ?_ HG1.out⟩, ?_⟩
        · rw [hset k hkb, h5 k (Nat.lt_of_lt_of_le hk HXr.out.size) hkv]
          exact HXr.out.block k hk
        · exact row_keep hown (fun k hk => by cases hk; exact hset g2 hg2b)
        · intro k hk
          obtain rfl : g2 = k := by simpa [Value.ownBlock] using hk
          rcases hat with h | h
          · exact .inl (HM.out.orow _ h)
          · right
            have := (below_alloc (Below.refl wr.drew.heap.size _) o).size
            have := HXr.out.size
            show X.heap.size ≤ g2
            rw [h]
            exact Nat.le_trans HXr.out.size (below_alloc (Below.refl wr.drew.heap.size wr.drew) o).size
        · refine own_weaken (row_keep HRW1.out (fun k hk => by cases hk; rw [hset g1 hg1b, h5 g1 hg1 hg1v]; exact HB.out.block g1 (own_lt HRW1.out g1 rfl))) hBX
        · refine (((below_out HXr.out own).trans (below_out (below_alloc (below_drew (Below.refl _ _)) o) own) (fun _ _ h => h)).trans (grown_out hgr) (fun k _ hk => HM.out.orow k hk)).trans (set_out w5 b 0 _) (fun k _ hk => by rw [hk]; exact HM.out.ob)⟩
      have hmd9 : (wr.alloc (.cells #[.int .u64 base, .slice (some ⟨g1, 0, none⟩) bs.length cap1] 108)).drew.cell? ⟨b, 0, none⟩ = some (.slice A R.length c) := pw_cell_below (below_alloc (Below.refl wr.drew.heap.size wr.drew) _) hmd
      clear hnb hbl'
      go_wp2_with fail
      go_region_law ((refine step_append_lies _ (by rfl) _ _ 49 (by rfl) B 108 i0 _ 2 32 Tryd.underlying49 hi hz0 hz1 hz2 (by rfl) (by decide) (.slice A R.length c) R.length (cells2 R ps) (by rfl) (HROWD.out.alloc _) ⟨wr.heap.size, 0, none⟩ 1 1 (cell2 ⟨base, bs⟩ (g1, cap1)) (by rfl) (by rfl) (World.news_of_block (heap_alloc_new wr.drew _)) cell2_one (by decide) (by unfold maxLen; omega) (by omega) (Nat.le_trans hBX2 (by simp)) _ rfl ?_; intro g2 cap2 w5 hown5 hgrow5 hat5 hlt5; have HB5 := Aside0.mk (HK5.out _ _ hgrow5); have hm5 := (blk1 HB5.out).1; have hf5 := (blk1 HB5.out).2; have HOWN5 := Aside0.mk hown5; have HGROW5 := Aside0.mk hgrow5; have HAT5 := Aside0.mk hat5; clear hown5 hgrow5 hat5 hlt5))
      all_goals
        have HQ := HFIN.out _ _ _ _ HOWN5.out HB5.out HGROW5.out HAT5.out
        go_wp2_with fail
        go_ret
        exact HQ.out
end Go.Proofs.YtomnfkihieinbaaDoor.PAll
/- The reference's Remove. -/
set_option linter.unusedVariables false
set_option linter.unusedSimpArgs false
namespace Go.Proofs.YtomnfkihieinbaaDoor.PAll
open Go.RowKit Go.Shelf Go.Proofs.YtomnfkihieinbaaDoorW.PrintWords Go.Proofs.YtomnfkihieinbaaDoorW.PrintLast Go.Proofs.YtomnfkihieinbaaDoorW.PrintMore
def remR (R : List Reg) (base : Int) : List Reg := R.filter (fun r => decide (r.base ≠ base))
def keptZ (base : Int) (z : Reg × (Nat × Nat)) : Bool := decide (z.1.base ≠ base)
def zk (R : List Reg) (ps : List (Nat × Nat)) (base : Int) (k : Nat) : List (Reg × (Nat × Nat)) := ((R.zip ps).take k).filter (keptZ base)
theorem zk_at {R : List Reg} {ps : List (Nat × Nat)} {base : Int} {k : Nat} {r : Reg} {p : Nat × Nat} (hr : R[k]? = some r) (hp : ps[k]? = some p) : zk R ps base (k + 1) = zk R ps base k ++ (if r.base ≠ base then [(r, p)] else []) := by
  unfold zk
  have e : (R.zip ps)[k]? = some (r, p) := by rw [List.getElem?_zip_eq_some]; exact ⟨hr, hp⟩
  rw [List.take_add_one, e, List.filter_append]
  congr 1
  by_cases h : r.base = base
  · simp [keptZ, h]
  · simp [keptZ, h]
theorem zk_all {R : List Reg} {ps : List (Nat × Nat)} {base : Int} (hl : ps.length = R.length) : (zk R ps base R.length).map (·.1) = remR R base := by
  unfold zk remR
  rw [List.take_of_length_le (by rw [List.length_zip]; omega)]
  have : ∀ (R : List Reg) (ps : List (Nat × Nat)), ps.length = R.length → ((R.zip ps).filter (keptZ base)).map (·.1) = R.filter (fun r => decide (r.base ≠ base)) := by
    intro R
    induction R with
    | nil => intro ps _; simp
    | cons r R ih =>
      intro ps hl
      cases ps with
      | nil => simp at hl
      | cons p ps =>
        have := ih ps (by simpa using hl)
        by_cases h : r.base = base
        · simpa [keptZ, h] using this
        · simpa [keptZ, h] using this
  exact this R ps hl
theorem zk_mem {R : List Reg} {ps : List (Nat × Nat)} {base : Int} {k i : Nat} {z : Reg × (Nat × Nat)} (h : (zk R ps base k)[i]? = some z) : ∃ j : Nat, R[j]? = some z.1 ∧ ps[j]? = some z.2 := by
  have hm : z ∈ zk R ps base k := List.mem_of_getElem? h
  unfold zk at hm
  have hm2 := List.mem_of_mem_take (List.mem_filter.1 hm |>.1)
  obtain ⟨j, hj⟩ := List.mem_iff_getElem?.1 hm2
  rw [List.getElem?_zip_eq_some] at hj
  exact ⟨j, hj⟩
theorem zk_len {R : List Reg} {ps : List (Nat × Nat)} {base : Int} (k : Nat) : (zk R ps base k).length ≤ k := by
  unfold zk
  exact Nat.le_trans (List.length_filter_le _ _) (by rw [List.length_take]; omega)
theorem zk_nd {R : List Reg} {ps : List (Nat × Nat)} {base : Int} (hl : ps.length = R.length) (h : (ps.map (·.1)).Nodup) : (((zk R ps base R.length).map (·.2)).map (·.1)).Nodup := by
  have e : ps = (R.zip ps).map (·.2) := by rw [List.map_snd_zip (by omega)]
  unfold zk
  rw [List.take_of_length_le (by rw [List.length_zip]; omega)]
  refine List.Nodup.sublist ?_ h
  rw [show (ps.map (·.1)) = ((R.zip ps).map (·.2)).map (·.1) by rw [← e]]
  exact (List.filter_sublist.map _).map _
def RemRPost (X : World) (B : Nat) (own : Nat → Prop) (b : Nat) (R : List Reg) (base : Int) (e : Ending) (X' : World) : Prop :=
  e = .returned (.bool (decide ((remR R base).length < R.length))) ∧ RefAt X' B (orNew own X) b (remR R base) ∧ Out own X X'
set_option maxHeartbeats 4000000 in
set_option maxRecDepth 100000 in
theorem ref_Remove (X : World) (B : Nat) (own : Nat → Prop) (b : Nat) (R : List Reg) (base : Int) (h : RefAt X B own b R) (hl : R.length ≤ 1000000) (hBX : B ≤ X.heap.size) :
    Calls Tryd.prog 63 #[.pointer (some ⟨b, 0, none⟩), .int .u64 base] X (RemRPost X B own b R base) := by
  obtain ⟨v, ps, hM⟩ := h
  obtain ⟨A, c, rfl⟩ := own_slice hM.row
  have HM := Aside0.mk hM
  obtain ⟨i0, hi, hz0, hz1, hz2⟩ := info_parts infoReg
  clear hM
  go_enter Tryd.func63, Tryd.ntmps63
  go_wp2_with fail
  go_loopw [5, 6] (fun v5 v6 wr => ∃ k : Nat, k ≤ R.length ∧ v6 = .int .i64 k ∧ Aside0 (Below X.heap.size X wr) ∧ Aside0 (wr.ownsRow X.heap.size 108 2 v5 (zk R ps base k).length (cells2 ((zk R ps base k).map (·.1)) ((zk R ps base k).map (·.2))))) (fun _ v6 _ => R.length - (intOf v6).toNat)
  case atStart => exact ⟨0, Nat.zero_le _, rfl, ⟨Below.refl _ _⟩, ⟨World.ownsRow_nil _ _ _ _⟩⟩
  case round =>
    obtain ⟨k, hk, rfl, HB, HO⟩ := hrel
    have HMr := Aside0.mk (HM.out.below HB.out)
    have hm0 := (blk1 HMr.out.blk).1
    by_cases hlt : k < R.length
    · obtain ⟨p, r, g, cap, hp, hr, hv, hc0, hc1, hcap, hcm, hop, hro⟩ := HMr.out.get hlt
      cases hv
      have HZ := Aside0.mk (zk_at (base := base) hr hp)
      have HZL := Aside0.mk (zk_len (R := R) (ps := ps) (base := base) k)
      clear hr hp hro hop hcap hcm
      by_cases hne : r.base = base
      · have hnb : (r.base != base) = false := by simp [hne]
        have HZ2 : Aside0 (zk R ps base (k + 1) = zk R ps base k) := ⟨by rw [HZ.out, if_neg (by simp [hne])]; simp⟩
        clear hne
        go_wp2_with fail
        refine ⟨⟨k + 1, by omega, by congr 1, HB, ⟨?_⟩⟩, by simp [intOf]; omega⟩
        rw [HZ2.out]
        exact HO.out
      · have hnb : (r.base != base) = true := by simp [hne]
        have HZ2 : Aside0 (zk R ps base (k + 1) = zk R ps base k ++ [(r, p)]) := ⟨by rw [HZ.out, if_pos hne]⟩
        clear hne
        have HALL : Aside0 (X.heap.size ≤ (wr.alloc (.cells (cell2 r p).toArray 108)).heap.size) := ⟨Nat.le_trans HB.out.size (below_alloc (Below.refl _ _) _).size⟩
        obtain ⟨zn, hzn⟩ : ∃ zn, (zk R ps base k).length = zn := ⟨_, rfl⟩
        have HZN := Aside0.mk hzn
        rw [hzn] at HO
        have hzl : zn ≤ 1000000 := by have := HZL.out; omega
        clear hzn
        go_wp2_with (at_builtin; refine wpList_append_own_at _ rfl _ _ 49 rfl X.heap.size 108 i0 _ 2 32 Tryd.underlying49 hi hz0 hz1 hz2 rfl (by decide) _ zn _ rfl (HO.out.alloc _) ⟨wr.heap.size, 0, none⟩ 1 1 (cell2 r p) rfl rfl (World.news_of_block (heap_alloc_new _ _)) cell2_one (by unfold maxLen; omega) (by omega) HALL.out ?_; intro v' w2 hown' hgrow hnil hloc)
        have HB2 : Below X.heap.size X w2 := (HB.out.alloc HB.out.size _).grown hgrow HALL.out (fun z hz => own_base HO.out z hz)
        refine ⟨⟨k + 1, by omega, by congr 1, ⟨HB2⟩, ⟨?_⟩⟩, by simp [intOf]; omega⟩
        rw [HZ2.out, List.map_append, List.map_append, List.length_append, HZN.out]
        show w2.ownsRow _ _ _ _ _ (cells2 (_ ++ [r]) (_ ++ [p]))
        rw [cells2_append _ _ _ _ (by rw [List.length_map, List.length_map])]
        exact hown'
    · obtain rfl : k = R.length := by omega
      have HREM := Aside0.mk (zk_all (base := base) HM.out.len)
      have HRL : Aside0 ((zk R ps base R.length).length = (remR R base).length) := ⟨by rw [← HREM.out, List.length_map]⟩
      rw [HRL.out] at HO
      have HO2 := HO.out
      obtain ⟨A5, c5, rfl⟩ := own_slice HO2
      have hfro := (blk1 HMr.out.blk).2
      clear HO2
      go_wp2_with fail
      have HQ : Aside0 (RemRPost X B own b R base (.returned (.bool (decide ((remR R base).length < R.length)))) (wr.setCell ⟨b, 0, none⟩ (.slice A5 (remR R base).length c5))) := ⟨by
        have hset : ∀ k, k ≠ b → (wr.setCell ⟨b, 0, none⟩ (.slice A5 (remR R base).length c5)).heap[k]? = wr.heap[k]? := fun k hk => Below.heap_setCell wr ⟨b, 0, none⟩ _ k hk
        have hv5 : ∀ k, (Value.slice A5 (remR R base).length c5).ownBlock = some k → X.heap.size ≤ k ∧ k ≠ b := fun k hk => by
          refine ⟨own_base HO.out k hk, ?_⟩
          have := own_base HO.out k hk
          have := (Array.getElem?_eq_some_iff.1 HM.out.blk).1
          omega
        refine ⟨rfl, ⟨_, (zk R ps base R.length).map (·.2), blk_put HMr.out.blk 0 _ rfl, .inl HM.out.ob, HM.out.bb, ?_, fun k hk => .inr (hv5 k hk).1, by rw [List.length_map, HRL.out], ?_, zk_nd HM.out.len HM.out.nd⟩, ?_⟩
        · refine own_weaken (row_keep ?_ (fun k hk => hset k (hv5 k hk).2)) hBX
          rw [← HREM.out]
          rw [← HREM.out] at HO
          exact HO.out
        · intro i p r hp hr
          rw [← HREM.out] at hr
          rw [List.getElem?_map] at hp hr
          cases hz : (zk R ps base R.length)[i]? with
          | none => rw [hz] at hp; cases hp
          | some z =>
            rw [hz] at hp hr
            cases hp; cases hr
            obtain ⟨j, hj1, hj2⟩ := zk_mem hz
            obtain ⟨g1, g2⟩ := HMr.out.reg j _ _ hj2 hj1
            refine ⟨.inl g1, row_keep g2 (fun k hk => by
              cases hk
              refine hset _ ?_
              obtain ⟨c, hc⟩ := row_block g2 rfl
              exact two_blocks hc HMr.out.blk (by decide))⟩
        · exact (below_out HB.out own).trans (set_out wr b 0 _) (fun k _ hk => by rw [hk]; exact HM.out.ob)⟩
      go_ret
      exact HQ.out
end Go.Proofs.YtomnfkihieinbaaDoor.PAll
/- Memories as lists of regions in any order: what the operations leave, and that the order does not matter. -/
set_option linter.unusedVariables false
set_option linter.unusedSimpArgs false
namespace Go.Proofs.YtomnfkihieinbaaDoor.PAll
open Go.RowKit Go.Shelf Go.Proofs.YtomnfkihieinbaaDoorW.PrintWords Go.Proofs.YtomnfkihieinbaaDoorW.PrintLast Go.Proofs.YtomnfkihieinbaaDoorW.PrintMore
def Apart (r s : Reg) : Prop := r.base + r.data.length ≤ s.base ∨ s.base + s.data.length ≤ r.base
theorem Apart.symm {r s : Reg} (h : Apart r s) : Apart s r := Or.symm h
structure DL (K : List Reg) : Prop where
  ok : ∀ r ∈ K, Ok r
  pw : K.Pairwise Apart
theorem inv_DL {L : List Reg} (h : Inv L) : DL L :=
  ⟨fun r hr => ⟨h.pos r hr, h.lo r hr, h.hi r hr, h.wf r hr, h.short r hr⟩, List.pairwise_iff_getElem.2 (fun i j hi hj hij => .inl (h.apart i j _ _ hij (List.getElem?_eq_getElem hi) (List.getElem?_eq_getElem hj)))⟩
theorem DL.perm {K K' : List Reg} (h : DL K) (hp : K.Perm K') : DL K' :=
  ⟨fun r hr => h.ok r (hp.mem_iff.2 hr), (hp.pairwise_iff (fun h => Apart.symm h)).1 h.pw⟩
theorem DL.nil : DL [] := ⟨by simp, List.Pairwise.nil⟩
theorem DL.uniq {K : List Reg} (h : DL K) {i j : Nat} {r s : Reg} (hr : K[i]? = some r) (hs : K[j]? = some s) {x : Int} (hx : insB r x = true) (hy : insB s x = true) : i = j := by
  unfold insB at hx hy
  rw [decide_eq_true_eq] at hx hy
  obtain ⟨hi, rfl⟩ := List.getElem?_eq_some_iff.1 hr
  obtain ⟨hj, rfl⟩ := List.getElem?_eq_some_iff.1 hs
  rcases Nat.lt_trichotomy i j with hij | hij | hij
  · have := List.pairwise_iff_getElem.1 h.pw i j hi hj hij
    unfold Apart at this
    omega
  · exact hij
  · have := List.pairwise_iff_getElem.1 h.pw j i hj hi hij
    unfold Apart at this
    omega
theorem hit_insB {a n : Int} {r : Reg} (h : hitR a n r = true) : insB r a = true := (hit_ins.1 h).2.1
theorem DL.hit_uniq {K : List Reg} (h : DL K) {i j : Nat} {r s : Reg} (hr : K[i]? = some r) (hs : K[j]? = some s) {a n : Int} (hx : hitR a n r = true) (hy : hitR a n s = true) : i = j := h.uniq hr hs (hit_insB hx) (hit_insB hy)
theorem DL.base_uniq {K : List Reg} (h : DL K) {i j : Nat} {r s : Reg} (hr : K[i]? = some r) (hs : K[j]? = some s) (he : r.base = s.base) : i = j := by
  have h1 := (h.ok r (List.mem_of_getElem? hr)).pos
  have h2 := (h.ok s (List.mem_of_getElem? hs)).pos
  exact h.uniq (x := r.base) hr hs (by unfold insB; rw [decide_eq_true_eq]; omega) (by unfold insB; rw [decide_eq_true_eq]; omega)
/-! ### Bytes -/
theorem bytesF_iff {K : List Reg} (h : DL K) {a n : Int} {bs : List Int} : bytesF K a n = some bs ↔ ∃ r ∈ K, hitR a n r = true ∧ bs = (r.data.drop (a - r.base).toNat).take n.toNat := by
  unfold bytesF
  constructor
  · intro hb
    cases hf : K.findIdx? (hitR a n) with
    | none => rw [hf] at hb; cases hb
    | some k =>
      rw [hf] at hb
      dsimp only at hb
      obtain ⟨hk, hh, _⟩ := List.findIdx?_eq_some_iff_getElem.1 hf
      rw [List.getElem?_eq_getElem hk] at hb
      dsimp only at hb
      exact ⟨_, List.getElem_mem hk, hh, (Option.some.inj hb).symm⟩
  · rintro ⟨r, hr, hh, rfl⟩
    obtain ⟨j, hj⟩ := List.mem_iff_getElem?.1 hr
    cases hf : K.findIdx? (hitR a n) with
    | none => rw [List.findIdx?_eq_none_iff] at hf; rw [hf r hr] at hh; cases hh
    | some k =>
      obtain ⟨hk, hh2, _⟩ := List.findIdx?_eq_some_iff_getElem.1 hf
      have hk' : K[k]? = some K[k] := List.getElem?_eq_getElem hk
      obtain rfl := h.hit_uniq hj hk' hh hh2
      dsimp only
      rw [hj]
theorem bytesF_perm {K K' : List Reg} (h : DL K) (hp : K.Perm K') (a n : Int) : bytesF K a n = bytesF K' a n := by
  apply Option.ext
  intro bs
  rw [bytesF_iff h, bytesF_iff (h.perm hp)]
  constructor
  · rintro ⟨r, hr, hh⟩; exact ⟨r, hp.mem_iff.1 hr, hh⟩
  · rintro ⟨r, hr, hh⟩; exact ⟨r, hp.mem_iff.2 hr, hh⟩
/-! ### Put -/
def putR (a : Int) (bs : List Int) (r : Reg) : Reg := if hitR a bs.length r then { r with data := splice r.data (a - r.base).toNat bs } else r
def putG (K : List Reg) (a : Int) (bs : List Int) : List Reg := K.map (putR a bs)
theorem putF_some {K : List Reg} (h : DL K) {a : Int} {bs : List Int} {K' : List Reg} (hf : putF K a bs = some K') : K.any (hitR a bs.length) = true ∧ K' = putG K a bs := by
  unfold putF at hf
  cases hi : K.findIdx? (hitR a bs.length) with
  | none => rw [hi] at hf; cases hf
  | some k =>
    rw [hi] at hf
    dsimp only at hf
    obtain ⟨hk, hh, _⟩ := List.findIdx?_eq_some_iff_getElem.1 hi
    have hr : K[k]? = some K[k] := List.getElem?_eq_getElem hk
    rw [hr] at hf
    dsimp only at hf
    refine ⟨List.any_eq_true.2 ⟨_, List.getElem_mem hk, hh⟩, ?_⟩
    rw [← Option.some.inj hf]
    apply List.ext_getElem?
    intro j
    unfold putG
    rw [List.getElem?_map, List.getElem?_set]
    by_cases hj : k = j
    · subst hj
      rw [if_pos rfl, if_pos hk, hr]
      show _ = some (putR a bs K[k])
      unfold putR
      rw [if_pos hh]
    · rw [if_neg hj]
      cases hs : K[j]? with
      | none => rfl
      | some s =>
        show _ = some (putR a bs s)
        unfold putR
        rw [if_neg (fun hh2 => hj (h.hit_uniq hr hs hh hh2))]
theorem putF_none {K : List Reg} {a : Int} {bs : List Int} (hf : putF K a bs = none) : K.any (hitR a bs.length) = false ∧ K = putG K a bs := by
  unfold putF at hf
  cases hi : K.findIdx? (hitR a bs.length) with
  | none =>
    rw [List.findIdx?_eq_none_iff] at hi
    refine ⟨by rw [List.any_eq_false]; intro r hr; simp [hi r hr], ?_⟩
    unfold putG
    conv => lhs; rw [← List.map_id K]
    refine List.map_congr_left (fun r hr => ?_)
    unfold putR
    rw [hi r hr]
    rfl
  | some k =>
    rw [hi] at hf
    dsimp only at hf
    obtain ⟨hk, hh, _⟩ := List.findIdx?_eq_some_iff_getElem.1 hi
    rw [List.getElem?_eq_getElem hk] at hf
    cases hf
theorem putR_len {a : Int} {bs : List Int} {r : Reg} (h : Ok r) : (putR a bs r).data.length = r.data.length ∧ (putR a bs r).base = r.base := by
  unfold putR
  by_cases hh : hitR a bs.length r = true
  · rw [if_pos hh]
    obtain ⟨h1, h2, h3⟩ := hit_iff.1 hh
    exact ⟨length_splice _ _ _ (by omega), rfl⟩
  · rw [if_neg hh]; exact ⟨rfl, rfl⟩
theorem mem_splice {l cs : List Int} {off : Nat} {x : Int} (h : x ∈ splice l off cs) : x ∈ l ∨ x ∈ cs := by
  unfold splice at h
  rcases List.mem_append.1 h with h | h
  · exact .inl (List.mem_of_mem_take h)
  · rcases List.mem_append.1 h with h | h
    · exact .inr h
    · exact .inl (List.mem_of_mem_drop h)
theorem putR_ok {a : Int} {bs : List Int} {r : Reg} (h : Ok r) (hw : ∀ x ∈ bs, 0 ≤ x ∧ x < 256) : Ok (putR a bs r) := by
  obtain ⟨e1, e2⟩ := putR_len (a := a) (bs := bs) h
  refine ⟨by rw [e1]; exact h.pos, by rw [e2]; exact h.lo, by rw [e1, e2]; exact h.hi, ?_, by rw [e1]; exact h.short⟩
  intro x hx
  unfold putR at hx
  by_cases hh : hitR a bs.length r = true
  · rw [if_pos hh] at hx
    rcases mem_splice hx with hx | hx
    · exact h.wf x hx
    · exact hw x hx
  · rw [if_neg hh] at hx; exact h.wf x hx
theorem inv_put {L : List Reg} (h : Inv L) {a : Int} {bs : List Int} (hw : ∀ x ∈ bs, 0 ≤ x ∧ x < 256) : Inv (putG L a bs) := by
  have hD := inv_DL h
  have hm : ∀ r ∈ putG L a bs, Ok r := fun r hr => by
    obtain ⟨s, hs, rfl⟩ := List.mem_map.1 hr
    exact putR_ok (hD.ok s hs) hw
  refine ⟨fun r hr => (hm r hr).pos, fun r hr => (hm r hr).lo, fun r hr => (hm r hr).hi, fun r hr => (hm r hr).wf, fun r hr => (hm r hr).short, ?_⟩
  intro i j r s hij hr hs
  unfold putG at hr hs
  rw [List.getElem?_map] at hr hs
  obtain ⟨r0, hr0, rfl⟩ := Option.map_eq_some_iff.1 hr
  obtain ⟨s0, hs0, rfl⟩ := Option.map_eq_some_iff.1 hs
  obtain ⟨e1, e2⟩ := putR_len (a := a) (bs := bs) (hD.ok r0 (List.mem_of_getElem? hr0))
  obtain ⟨e3, e4⟩ := putR_len (a := a) (bs := bs) (hD.ok s0 (List.mem_of_getElem? hs0))
  rw [e1, e2, e4]
  exact h.apart i j r0 s0 hij hr0 hs0
/-! ### Add -/
def addG (K : List Reg) (base : Int) (bs : List Int) : List Reg := if addOk K base bs.length then ⟨base, bs⟩ :: K else K
theorem addOk_perm {K K' : List Reg} (hp : K.Perm K') (base : Int) (n : Nat) : addOk K base n = addOk K' base n := by
  unfold addOk
  refine decide_eq_decide.2 ⟨fun h => ⟨h.1, h.2.1, fun r hr => h.2.2 r (hp.mem_iff.2 hr)⟩, fun h => ⟨h.1, h.2.1, fun r hr => h.2.2 r (hp.mem_iff.1 hr)⟩⟩
theorem inv_insert {L : List Reg} (h : Inv L) {base : Int} {bs : List Int} (ho : addOk L base bs.length = true) (h0 : 0 ≤ base) (hw : ∀ x ∈ bs, 0 ≤ x ∧ x < 256) (hs : bs.length ≤ 4294967296) {i : Nat} (hi : IsAt L (base + bs.length - 1) i) : Inv (L.take i ++ [⟨base, bs⟩] ++ L.drop i) := by
  obtain ⟨o1, o2, o3⟩ := of_decide_eq_true ho
  have hm : ∀ r ∈ L.take i ++ [⟨base, bs⟩] ++ L.drop i, r ∈ L ∨ r = ⟨base, bs⟩ := fun r hr => by
    rcases List.mem_append.1 hr with hr | hr
    · rcases List.mem_append.1 hr with hr | hr
      · exact .inl (List.mem_of_mem_take hr)
      · exact .inr (List.mem_singleton.1 hr)
    · exact .inl (List.mem_of_mem_drop hr)
  refine ⟨fun r hr => ?_, fun r hr => ?_, fun r hr => ?_, fun r hr => ?_, fun r hr => ?_, ?_⟩
  · rcases hm r hr with hr | rfl; exact h.pos r hr; exact o1
  · rcases hm r hr with hr | rfl; exact h.lo r hr; exact h0
  · rcases hm r hr with hr | rfl; exact h.hi r hr; exact o2
  · rcases hm r hr with hr | rfl; exact h.wf r hr; exact hw
  · rcases hm r hr with hr | rfl; exact h.short r hr; exact hs
  · intro j k r s hjk hr hs'
    rw [ins_get _ _ _ hi.1] at hr hs'
    have hbef : ∀ (j : Nat) (r : Reg), j < i → L[j]? = some r → r.base + r.data.length ≤ base := fun j r hj hr => by
      have h1 := hi.2.1 j r hj hr
      have h2 := h.pos r (List.mem_of_getElem? hr)
      rcases o3 r (List.mem_of_getElem? hr) with h3 | h3 <;> omega
    have haft : ∀ (j : Nat) (r : Reg), i ≤ j → L[j]? = some r → base + bs.length ≤ r.base := fun j r hj hr => by
      have h1 := hi.2.2 j r hj hr
      have h2 := h.pos r (List.mem_of_getElem? hr)
      rcases o3 r (List.mem_of_getElem? hr) with h3 | h3 <;> omega
    by_cases hj : j < i
    · rw [if_pos hj] at hr
      by_cases hk : k < i
      · rw [if_pos hk] at hs'; exact h.apart j k r s hjk hr hs'
      · rw [if_neg hk] at hs'
        by_cases hk2 : k = i
        · rw [if_pos hk2] at hs'; cases hs'; exact hbef j r hj hr
        · rw [if_neg hk2] at hs'; exact h.apart j (k - 1) r s (by omega) hr hs'
    · rw [if_neg hj] at hr
      have hk : ¬ k < i := by omega
      have hk2 : ¬ k = i := by omega
      rw [if_neg hk, if_neg hk2] at hs'
      by_cases hj2 : j = i
      · rw [if_pos hj2] at hr; cases hr; exact haft (k - 1) s (by omega) hs'
      · rw [if_neg hj2] at hr; exact h.apart (j - 1) (k - 1) r s (by omega) hr hs'
theorem ins_perm (L : List Reg) (s : Reg) (i : Nat) : (L.take i ++ [s] ++ L.drop i).Perm (s :: L) := by
  have := List.perm_middle (a := s) (l₁ := L.take i) (l₂ := L.drop i)
  rw [List.take_append_drop] at this
  rw [List.append_assoc]
  exact this
/-! ### Remove -/
theorem remF_eq {L : List Reg} (h : Inv L) (a : Int) : (remF L a).isSome = L.any (fun r => r.base == a) ∧ (remF L a).getD L = remR L a := by
  have hD := inv_DL h
  unfold remF
  cases hi : L.findIdx? (fun r => r.base == a) with
  | none =>
    rw [List.findIdx?_eq_none_iff] at hi
    refine ⟨?_, ?_⟩
    · symm
      show _ = false
      rw [List.any_eq_false]
      intro r hr; simp [hi r hr]
    · show L = remR L a
      unfold remR
      symm
      rw [List.filter_eq_self]
      intro r hr
      have := hi r hr
      simpa using this
  | some k =>
    obtain ⟨hk, hh, _⟩ := List.findIdx?_eq_some_iff_getElem.1 hi
    have hb : L[k].base = a := by simpa using hh
    refine ⟨?_, ?_⟩
    · symm
      show _ = true
      rw [List.any_eq_true]
      exact ⟨_, List.getElem_mem hk, hh⟩
    · show L.take k ++ L.drop (k + 1) = remR L a
      unfold remR
      have e : L = L.take k ++ (L[k] :: L.drop (k + 1)) := by rw [← List.drop_eq_getElem_cons hk, List.take_append_drop]
      have hr : L[k]? = some L[k] := List.getElem?_eq_getElem hk
      have h1 : (L.take k).filter (fun r => decide (r.base ≠ a)) = L.take k := by
        rw [List.filter_eq_self]
        intro r hr2
        obtain ⟨j, hj⟩ := List.mem_iff_getElem?.1 hr2
        rw [List.getElem?_take] at hj
        by_cases hjk : j < k
        · rw [if_pos hjk] at hj
          simp only [decide_eq_true_eq]
          intro hc
          have := hD.base_uniq hj hr (by rw [hc, hb])
          omega
        · rw [if_neg hjk] at hj; cases hj
      have h2 : (L.drop (k + 1)).filter (fun r => decide (r.base ≠ a)) = L.drop (k + 1) := by
        rw [List.filter_eq_self]
        intro r hr2
        obtain ⟨j, hj⟩ := List.mem_iff_getElem?.1 hr2
        rw [List.getElem?_drop] at hj
        simp only [decide_eq_true_eq]
        intro hc
        have := hD.base_uniq hj hr (by rw [hc, hb])
        omega
      conv => rhs; rw [e]
      rw [List.filter_append, List.filter_cons, h1, h2, if_neg (by simp [hb])]
theorem inv_rem {L : List Reg} (h : Inv L) (a : Int) : Inv (remR L a) := by
  have hm : ∀ r ∈ remR L a, r ∈ L := fun r hr => (List.mem_filter.1 hr).1
  refine ⟨fun r hr => h.pos r (hm r hr), fun r hr => h.lo r (hm r hr), fun r hr => h.hi r (hm r hr), fun r hr => h.wf r (hm r hr), fun r hr => h.short r (hm r hr), ?_⟩
  have hp : (remR L a).Pairwise (fun (r s : Reg) => r.base + (r.data.length : Int) ≤ s.base) :=
    (List.pairwise_iff_getElem.2 (fun i j hi hj hij => h.apart i j _ _ hij (List.getElem?_eq_getElem hi) (List.getElem?_eq_getElem hj))).sublist List.filter_sublist
  intro i j r s hij hr hs
  obtain ⟨hi, rfl⟩ := List.getElem?_eq_some_iff.1 hr
  obtain ⟨hj, rfl⟩ := List.getElem?_eq_some_iff.1 hs
  exact List.pairwise_iff_getElem.1 hp i j hi hj hij
theorem rem_lt (R : List Reg) (a : Int) : decide ((remR R a).length < R.length) = R.any (fun r => r.base == a) := by
  rw [Bool.eq_iff_iff, decide_eq_true_eq, List.any_eq_true]
  constructor
  · intro h
    apply Classical.byContradiction
    intro hc
    have : remR R a = R := by
      unfold remR
      rw [List.filter_eq_self]
      intro r hr
      simp only [decide_eq_true_eq]
      intro he
      exact hc ⟨r, hr, by simpa using he⟩
    rw [this] at h
    omega
  · rintro ⟨r, hr, he⟩
    refine Nat.lt_of_le_of_ne (List.length_filter_le _ _) (fun hl => ?_)
    have := List.length_filter_eq_length_iff.1 hl r hr
    simp at this he
    exact this he
theorem any_perm {K K' : List Reg} (hp : K.Perm K') (p : Reg → Bool) : K.any p = K'.any p := by
  rw [Bool.eq_iff_iff, List.any_eq_true, List.any_eq_true]
  exact ⟨fun ⟨r, hr, h⟩ => ⟨r, hp.mem_iff.1 hr, h⟩, fun ⟨r, hr, h⟩ => ⟨r, hp.mem_iff.2 hr, h⟩⟩
end Go.Proofs.YtomnfkihieinbaaDoor.PAll
/- The program's memory and the reference's side by side: what each operation does to the two. -/
set_option linter.unusedVariables false
set_option linter.unusedSimpArgs false
namespace Go.Proofs.YtomnfkihieinbaaDoor.PAll
open Go.RowKit Go.Shelf Go.Proofs.YtomnfkihieinbaaDoorW.PrintWords Go.Proofs.YtomnfkihieinbaaDoorW.PrintLast Go.Proofs.YtomnfkihieinbaaDoorW.PrintMore
/-- The program's memory in block m holds the regions K, the reference's in block b the regions R; no block belongs to both; none of the blocks fr belongs to either. -/
def Two (X : World) (n0 : Nat) (fr : Nat → Prop) (m b : Nat) (K R : List Reg) : Prop := ∃ (own own' : Nat → Prop) (L : List Reg), n0 ≤ X.heap.size ∧ (∀ k, fr k → k < X.heap.size) ∧ (∀ k, own k → ¬ fr k ∧ k < X.heap.size ∧ ¬ own' k) ∧ (∀ k, own' k → ¬ fr k ∧ k < X.heap.size) ∧ MemAt X n0 own m L ∧ Inv L ∧ L.Perm K ∧ RefAt X n0 own' b R ∧ DL R
theorem Two.below {X X' : World} {n0 : Nat} {fr : Nat → Prop} {m b : Nat} {K R : List Reg} (h : Two X n0 fr m b K R) (hb : Below X.heap.size X X') : Two X' n0 fr m b K R := by
  obtain ⟨o, o', L, h1, hf0, h2, h3, h4, h5, h6, h7, h8⟩ := h
  exact ⟨o, o', L, Nat.le_trans h1 hb.size, fun k hk => Nat.lt_of_lt_of_le (hf0 k hk) hb.size, fun k hk => ⟨(h2 k hk).1, Nat.lt_of_lt_of_le (h2 k hk).2.1 hb.size, (h2 k hk).2.2⟩, fun k hk => ⟨(h3 k hk).1, Nat.lt_of_lt_of_le (h3 k hk).2 hb.size⟩, h4.below hb, h5, h6, h7.below hb, h8⟩
/-- A block more that is let alone. -/
theorem Two.alloc {X : World} {n0 : Nat} {fr : Nat → Prop} {m b : Nat} {K R : List Reg} (h : Two X n0 fr m b K R) (o : Obj) : Two (X.alloc o) n0 (fun k => fr k ∨ k = X.heap.size) m b K R := by
  have hb : Below X.heap.size X (X.alloc o) := below_alloc (Below.refl _ _) o
  have hs : X.heap.size < (X.alloc o).heap.size := by simp
  obtain ⟨o1, o', L, h1, hf0, h2, h3, h4, h5, h6, h7, h8⟩ := h.below hb
  obtain ⟨p1, p', L', k1, kf0, k2, k3, k4, k5, k6, k7, k8⟩ := h
  refine ⟨p1, p', L', h1, ?_, ?_, ?_, k4.below hb, k5, k6, k7.below hb, k8⟩
  · rintro k (hk | rfl)
    · exact hf0 k hk
    · exact hs
  · intro k hk
    refine ⟨?_, Nat.lt_trans (k2 k hk).2.1 hs, (k2 k hk).2.2⟩
    rintro (h | rfl)
    · exact (k2 k hk).1 h
    · have := (k2 _ hk).2.1; omega
  · intro k hk
    refine ⟨?_, Nat.lt_trans (k3 k hk).2 hs⟩
    rintro (h | rfl)
    · exact (k3 k hk).1 h
    · have := (k3 _ hk).2; omega
theorem Two.weaken {X : World} {n0 : Nat} {fr fr' : Nat → Prop} {m b : Nat} {K R : List Reg} (h : Two X n0 fr m b K R) (hf : ∀ k, fr' k → fr k) : Two X n0 fr' m b K R := by
  obtain ⟨o, o', L, h1, hf0, h2, h3, h4, h5, h6, h7, h8⟩ := h
  exact ⟨o, o', L, h1, fun k hk => hf0 k (hf k hk), fun k hk => ⟨fun h => (h2 k hk).1 (hf k h), (h2 k hk).2⟩, fun k hk => ⟨fun h => (h3 k hk).1 (hf k h), (h3 k hk).2⟩, h4, h5, h6, h7, h8⟩
theorem Two.size {X : World} {n0 : Nat} {fr : Nat → Prop} {m b : Nat} {K R : List Reg} (h : Two X n0 fr m b K R) : n0 ≤ X.heap.size := by
  obtain ⟨o, o', L, h1, _⟩ := h; exact h1
theorem Two.dl {X : World} {n0 : Nat} {fr : Nat → Prop} {m b : Nat} {K R : List Reg} (h : Two X n0 fr m b K R) : DL K ∧ DL R := by
  obtain ⟨o, o', L, h1, hf0, h2, h3, h4, h5, h6, h7, h8⟩ := h
  exact ⟨(inv_DL h5).perm h6, h8⟩
/-- The program's memory turns. -/
theorem Two.mem {X X' : World} {n0 : Nat} {fr : Nat → Prop} {m b : Nat} {own own' : Nat → Prop} {R L' : List Reg} (h1 : n0 ≤ X.heap.size) (hf0 : ∀ k, fr k → k < X.heap.size) (h2 : ∀ k, own k → ¬ fr k ∧ k < X.heap.size ∧ ¬ own' k) (h3 : ∀ k, own' k → ¬ fr k ∧ k < X.heap.size) (h7 : RefAt X n0 own' b R) (h8 : DL R)
    (hm : MemAt X' n0 (orNew own X) m L') (ho : Out own X X') (hI : Inv L') {K' : List Reg} (hp : L'.Perm K') : Two X' n0 fr m b K' R ∧ Out (fun k => ¬ fr k) X X' := by
  have hr : ∀ k, k < X.heap.size → own' k → ¬ own k := fun k _ hk ho => (h2 k ho).2.2 hk
  refine ⟨⟨fun k => orNew own X k ∧ k < X'.heap.size, own', L', Nat.le_trans h1 ho.size, fun k hk => Nat.lt_of_lt_of_le (hf0 k hk) ho.size, ?_, fun k hk => ⟨(h3 k hk).1, Nat.lt_of_lt_of_le (h3 k hk).2 ho.size⟩, hm.bound, hI, hp, h7.out ho hr, h8⟩, ho.mono (fun k _ hk => (h2 k hk).1)⟩
  rintro k ⟨hk, hlt⟩
  rcases hk with hk | hk
  · exact ⟨(h2 k hk).1, hlt, (h2 k hk).2.2⟩
  · exact ⟨fun h => by have := hf0 k h; omega, hlt, fun h => by have := (h3 k h).2; omega⟩
/-- The reference's memory turns. -/
theorem Two.ref {X X' : World} {n0 : Nat} {fr : Nat → Prop} {m b : Nat} {own own' : Nat → Prop} {K L R' : List Reg} (h1 : n0 ≤ X.heap.size) (hf0 : ∀ k, fr k → k < X.heap.size) (h2 : ∀ k, own k → ¬ fr k ∧ k < X.heap.size ∧ ¬ own' k) (h3 : ∀ k, own' k → ¬ fr k ∧ k < X.heap.size) (h4 : MemAt X n0 own m L) (h5 : Inv L) (h6 : L.Perm K)
    (hm : RefAt X' n0 (orNew own' X) b R') (ho : Out own' X X') (hI : DL R') : Two X' n0 fr m b K R' ∧ Out (fun k => ¬ fr k) X X' := by
  refine ⟨⟨own, fun k => orNew own' X k ∧ k < X'.heap.size, L, Nat.le_trans h1 ho.size, fun k hk => Nat.lt_of_lt_of_le (hf0 k hk) ho.size, fun k hk => ⟨(h2 k hk).1, Nat.lt_of_lt_of_le (h2 k hk).2.1 ho.size, ?_⟩, ?_, h4.out ho (fun k _ hk => (h2 k hk).2.2), h5, h6, hm.bound, hI⟩, ho.mono (fun k _ hk => (h3 k hk).1)⟩
  · rintro ⟨h | h, _⟩
    · exact (h2 k hk).2.2 h
    · have := (h2 k hk).2.1; omega
  · rintro k ⟨hk, hlt⟩
    rcases hk with hk | hk
    · exact ⟨(h3 k hk).1, hlt⟩
    · exact ⟨fun h => by have := hf0 k h; omega, hlt⟩
theorem DL.add {R : List Reg} (h : DL R) {base : Int} {bs : List Int} (h0 : 0 ≤ base) (hw : ∀ x ∈ bs, 0 ≤ x ∧ x < 256) (hs : bs.length ≤ 4294967296) (ho : addOk R base bs.length = true) : DL (⟨base, bs⟩ :: R) := by
  obtain ⟨o1, o2, o3⟩ := of_decide_eq_true ho
  refine ⟨fun r hr => ?_, List.pairwise_cons.2 ⟨fun r hr => ?_, h.pw⟩⟩
  · rcases List.mem_cons.1 hr with rfl | hr
    · exact ⟨o1, h0, o2, hw, hs⟩
    · exact h.ok r hr
  · rcases o3 r hr with h | h
    · exact .inr h
    · exact .inl h
theorem DL.put {R : List Reg} (h : DL R) {a : Int} {bs : List Int} (hw : ∀ x ∈ bs, 0 ≤ x ∧ x < 256) : DL (putG R a bs) := by
  refine ⟨fun r hr => ?_, ?_⟩
  · obtain ⟨s, hs, rfl⟩ := List.mem_map.1 hr
    exact putR_ok (h.ok s hs) hw
  · unfold putG
    rw [List.pairwise_map]
    refine h.pw.imp_of_mem (fun {r s} hr hs hap => ?_)
    obtain ⟨e1, e2⟩ := putR_len (a := a) (bs := bs) (h.ok r hr)
    obtain ⟨e3, e4⟩ := putR_len (a := a) (bs := bs) (h.ok s hs)
    unfold Apart at hap ⊢
    rw [e1, e2, e3, e4]
    exact hap
theorem DL.rem {R : List Reg} (h : DL R) (a : Int) : DL (remR R a) := ⟨fun r hr => h.ok r (List.mem_filter.1 hr).1, h.pw.sublist List.filter_sublist⟩
theorem rem_perm {K K' : List Reg} (hp : K.Perm K') (a : Int) : (remR K a).Perm (remR K' a) := hp.filter _
theorem put_perm {K K' : List Reg} (hp : K.Perm K') (a : Int) (bs : List Int) : (putG K a bs).Perm (putG K' a bs) := hp.map _
theorem MemAt.len {X : World} {B : Nat} {own : Nat → Prop} {m : Nat} {L : List Reg} (h : MemAt X B own m L) : True := trivial
end Go.Proofs.YtomnfkihieinbaaDoor.PAll
