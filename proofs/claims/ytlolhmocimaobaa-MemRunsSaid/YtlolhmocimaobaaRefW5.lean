/- The reference's Add. -/
import Derived.Test.YtlolhmocimaobaaRefW4
import Derived.Deep.RegionLaw
set_option linter.unusedVariables false
set_option linter.unusedSimpArgs false
namespace Go.Proofs.Ytlolhmocimaobaa.PAll
open Go.RowKit Go.Shelf Go.Proofs.YtlolhmocimaobaaW.PrintWords Go.Proofs.YtlolhmocimaobaaW.PrintLast Go.Proofs.YtlolhmocimaobaaW.PrintMore
theorem infoReg : (Try.prog.info? 82).map (fun i => (i.zero, i.size, i.bytes)) = some (some (.agg #[.int .u64 0, .slice none 0 0]), 2, 32) := by kernel_rfl
/-- A region is added behind the others. -/
theorem RefIn.push {X Y : World} {B : Nat} {own own' : Nat → Prop} {b : Nat} {R : List Reg} {v v' : Value} {ps : List (Nat × Nat)} (h : RefIn X B own b R v ps) (s : Reg) (q : Nat × Nat) (hown : ∀ k, own k → own' k)
    (hk : ∀ k, k < X.heap.size → k ≠ b → v.ownBlock ≠ some k → Y.heap[k]? = X.heap[k]?) (hb : Y.heap[b]? = some (.cells #[v'] 30 (0, 0)))
    (hrow : Y.ownsRow B 82 2 v' (R.length + 1) (cells2 R ps ++ cell2 s q)) (hvo : ∀ k, v'.ownBlock = some k → own' k)
    (hq : own' q.1) (hqr : Y.ownsRow B 5 1 (.slice (some ⟨q.1, 0, none⟩) s.data.length q.2) s.data.length (nums .u8 s.data)) (hnew : X.heap.size ≤ q.1) :
    RefIn Y B own' b (R ++ [s]) v' (ps ++ [q]) := by
  refine ⟨hb, hown _ h.ob, h.bb, ?_, hvo, by simp [h.len], ?_, ?_⟩
  · rw [cells2_append _ _ _ _ h.len, List.length_append]; exact hrow
  · intro i p r hp hr
    by_cases hi : i < R.length
    · rw [List.getElem?_append_left (by rw [h.len]; exact hi)] at hp
      rw [List.getElem?_append_left hi] at hr
      obtain ⟨g1, g2⟩ := h.reg i p r hp hr
      have n1 : p.1 ≠ b := by
        intro e
        obtain ⟨c, hc⟩ := row_block g2 rfl
        exact two_blocks hc h.blk (by decide) e
      have n2 : v.ownBlock ≠ some p.1 := by
        intro e
        obtain ⟨c, hc⟩ := row_block g2 rfl
        rcases h.row.2 with ⟨rfl, _⟩ | ⟨g', cap, cur, rfl, _, hh, _⟩
        · simp [Value.ownBlock] at e
        · obtain rfl : g' = p.1 := by simpa [Value.ownBlock] using e
          exact two_blocks hc hh (by decide) rfl
      exact ⟨hown _ g1, row_keep g2 (fun z hz => by cases hz; exact hk p.1 (own_lt g2 p.1 rfl) n1 n2)⟩
    · have hlt := (List.getElem?_eq_some_iff.1 hr).1
      rw [List.length_append, List.length_singleton] at hlt
      obtain rfl : i = R.length := by omega
      rw [List.getElem?_append_right (by rw [h.len]; exact Nat.le_refl _), h.len, Nat.sub_self] at hp
      rw [List.getElem?_append_right (Nat.le_refl _), Nat.sub_self] at hr
      cases hp; cases hr
      exact ⟨hq, hqr⟩
  · rw [List.map_append, List.nodup_append]
    refine ⟨h.nd, by simp, ?_⟩
    intro x hx y hy e
    obtain ⟨p, hp, rfl⟩ := List.mem_map.1 hx
    obtain ⟨i, hi⟩ := List.mem_iff_getElem?.1 hp
    have hil := (List.getElem?_eq_some_iff.1 hi).1
    rw [h.len] at hil
    have := own_lt (h.reg i p _ hi (List.getElem?_eq_getElem hil)).2 p.1 rfl
    simp at hy
    omega
theorem cell2_one {r : Reg} {q : Nat × Nat} : ∀ u ∈ cell2 r q, u.oneCell' = true := by
  intro u hu
  simp only [cell2, List.mem_cons, List.not_mem_nil, or_false] at hu
  rcases hu with rfl | rfl <;> rfl
theorem addOk_false {R : List Reg} {base : Int} {n : Nat} {k : Nat} {r : Reg} (hr : R[k]? = some r) (hp : 0 < r.data.length) (h : insB r base = true ∨ (base ≤ r.base ∧ r.base < base + n)) : addOk R base n = false := by
  unfold addOk
  refine decide_eq_false (fun hh => ?_)
  have := hh.2.2 r (List.mem_of_getElem? hr)
  have h0 := hh.1
  unfold insB at h
  rw [decide_eq_true_eq] at h
  omega
theorem addOk_true {R : List Reg} {base : Int} {n : Nat} (h0 : 0 < n) (h1 : base + n ≤ 18446744073709551616) (hp : ∀ r ∈ R, 0 < r.data.length) (h : ∀ (k : Nat) (r : Reg), k < R.length → R[k]? = some r → insB r base = false ∧ ¬ (base ≤ r.base ∧ r.base < base + n)) : addOk R base n = true := by
  unfold addOk
  refine decide_eq_true ⟨h0, h1, fun r hr => ?_⟩
  obtain ⟨k, hk⟩ := List.mem_iff_getElem?.1 hr
  obtain ⟨h2, h3⟩ := h k r (List.getElem?_eq_some_iff.1 hk).1 hk
  have := hp r hr
  unfold insB at h2
  rw [decide_eq_false_iff_not] at h2
  omega
def RAddPost (X : World) (B : Nat) (own : Nat → Prop) (b : Nat) (R : List Reg) (base : Int) (bs : List Int) (e : Ending) (X' : World) : Prop :=
  if addOk R base bs.length = true then e = .returned (.bool true) ∧ RefAt X' B (orNew own X) b (R ++ [⟨base, bs⟩]) ∧ Out own X X'
  else e = .returned (.bool false) ∧ Below X.heap.size X X'
set_option maxHeartbeats 4000000 in
set_option maxRecDepth 100000 in
theorem ref_Add (X : World) (B : Nat) (own : Nat → Prop) (b : Nat) (R : List Reg) (base : Int) (A0 : Option Addr) (c0 : Nat) (bs : List Int) (h : RefAt X B own b R) (hW : ∀ r ∈ R, Ok r) (hl : R.length ≤ 999999) (hBX : B ≤ X.heap.size) (ha0 : 0 ≤ base) (ha1 : base < 18446744073709551616) (hr0 : Kd.C (Kd.int .u8) X A0 bs.length bs) (hc0 : bs.length ≤ c0) (hbl : bs.length ≤ 4294967296) :
    Calls Try.prog 22 #[.pointer (some ⟨b, 0, none⟩), .int .u64 base, .slice A0 bs.length c0] X (RAddPost X B own b R base bs) := by
  obtain ⟨v, ps, hM⟩ := h
  have HM := Aside0.mk hM
  have HW := Aside0.mk hW
  have hu : IntKind.u64.wrap ((bs.length : Int) - 1) = (bs.length : Int) - 1 ∨ bs.length = 0 := by rw [u64_mod]; rcases Nat.eq_zero_or_pos bs.length with h | h; exact .inr h; exact .inl (Int.emod_eq_of_lt (by omega) (by omega))
  by_cases h0 : bs.length = 0
  · have HF : Aside0 (RAddPost X B own b R base bs (.returned (.bool false)) X) := ⟨by
      have hF : addOk R base bs.length = false := by unfold addOk; simp [h0]
      unfold RAddPost; rw [hF]; exact ⟨rfl, Below.refl _ _⟩⟩
    rw [h0]
    clear hu ha0 ha1 hbl hc0 h0 hM hW hr0
    go_enter Try.func22, Try.ntmps22
    go_wp2_with fail
    go_ret
    exact HF.out
  replace hu := hu.resolve_right h0
  have hl0 : ((bs.length : Int) == 0) = false := beq_eq_false_iff_ne.mpr (by omega)
  obtain ⟨s, hs⟩ : ∃ s, IntKind.u64.wrap (base + ((bs.length : Int) - 1)) = s := ⟨_, rfl⟩
  rw [u64_mod] at hs
  by_cases h2 : base + bs.length ≤ 18446744073709551616
  case neg =>
    have HF : Aside0 (RAddPost X B own b R base bs (.returned (.bool false)) X) := ⟨by
      have hF : addOk R base bs.length = false := by unfold addOk; simp; intro _ h; exact absurd h (by omega)
      unfold RAddPost; rw [hF]; exact ⟨rfl, Below.refl _ _⟩⟩
    have hlt : decide (s < base) = true := decide_eq_true (by omega)
    have hpos : 0 < bs.length := by omega
    rw [← u64_mod] at hs
    clear h2 ha0 ha1 hc0 h0 hM hW hr0
    go_enter Try.func22, Try.ntmps22
    go_wp2_with fail
    go_ret
    exact HF.out
  have hlt : decide (s < base) = false := decide_eq_false (by omega)
  rw [← u64_mod] at hs
  obtain ⟨A, c, rfl⟩ := own_slice hM.row
  have HL0 : Aside0 (0 < bs.length) := ⟨by omega⟩
  have HB2 := Aside0.mk h2
  have HBL := Aside0.mk hbl
  have hpos : 0 < bs.length := HL0.out
  have HA0 := Aside0.mk ha0
  have HR0 := Aside0.mk hr0
  have HC0 := Aside0.mk hc0
  clear ha0 ha1 hc0 h0 h2 hM hW hr0
  go_enter Try.func22, Try.ntmps22
  go_wp2_with (first | ((with_reducible refine gate_dst (N := 23) rfl ?_); refine Kd.R_lit (Kd.int .u8) _ 5 ?hg (N := 23) ?hd (xs := ([] : List Int)) (inner := []) (ok := fun _ => True) (okp := fun _ => True) ?hr ?hp (fun _ hk => hk) trivial (Below.refl _ _) (Nat.le_refl _) (by simp) ?_; (case hd => rfl); (case hg => rfl); (case hr => first | (go_simp; done) | (go_simp; rfl)); (case hp => exact (Reps.none _ _)); intro v1 w1 ho1 hb1 hg1 hnew1; clear hg1 hnew1; have HO1 := Aside0.mk ho1; have HB1 := Aside0.mk hb1; clear ho1 hb1) | ((with_reducible refine gate_builtin (b := .append) (xs := #[.tmp 23, .tmp 24]) rfl ?_); at_builtin; refine Kd.R_append_rows (Kd.int .u8) (w0 := X) X.heap.size rfl (.tmp 23) (.tmp 24) 32 5 (.int .u8 0) 1 rfl Try.underlying32 infoU8 rfl (by decide) (by omega) v1 [] bs _ _ _ (fun _ => True) (fun _ => False) rfl rfl ?aO ?aR (fun _ _ h => h) (fun _ h => h.elim) ?aF ?aB ?aS ?aL ?_; (case aR => exact Kd.C_below HR0.out HB1.out); (case aB => exact HB1.out); (case aF => exact (fun _ _ => trivial)); (case aO => exact HO1.out); (case aS => exact HB1.out.size); (case aL => have := HBL.out; simp only [List.length_nil]; omega); intro v2 w2 ho2 hb2 hg2 hat2; clear hg2 hat2; rw [List.nil_append] at ho2; obtain ⟨g1, cap1, rfl, hg1, hg1l, cells, hcells⟩ := Kd.R_form ho2 HL0.out; have HO2 := Aside0.mk ho2; have HBX2 := Aside0.mk hb2; have HG1 := Aside0.mk hg1; clear ho2 hb2 hcells hg1 hg1l))
  have HROW1 : Aside0 (w2.ownsRow X.heap.size 5 1 (.slice (some ⟨g1, 0, none⟩) bs.length cap1) bs.length (nums .u8 bs)) := ⟨by simpa [encs, nums] using Kd.own_of_R HO2.out⟩
  obtain ⟨W1, hW1⟩ : ∃ W1, w2.alloc (.cells #[.int .u64 base, .slice (some ⟨g1, 0, none⟩) bs.length cap1] 82) = W1 := ⟨_, rfl⟩
  obtain ⟨mb, hmb⟩ : ∃ mb, w2.heap.size = mb := ⟨_, rfl⟩
  have HMB : Aside0 (W1.heap[mb]? = some (.cells #[.int .u64 base, .slice (some ⟨g1, 0, none⟩) bs.length cap1] 82 (0, 0))) := ⟨by rw [← hW1, ← hmb]; exact heap_alloc_new w2 _⟩
  have HWW : Aside0 (Below w2.heap.size w2 W1) := ⟨by rw [← hW1]; exact Below.alloc (Below.refl _ _) (Nat.le_refl _) _⟩
  have HXW : Aside0 (Below X.heap.size X W1) := ⟨HBX2.out.trans (HWW.out.mono HBX2.out.size)⟩
  have HRW1 : Aside0 (W1.ownsRow X.heap.size 5 1 (.slice (some ⟨g1, 0, none⟩) bs.length cap1) bs.length (nums .u8 bs)) := ⟨pw_own_below HROW1.out HWW.out⟩
  have HCAP := Aside0.mk (cap_of_row HROW1.out)
  have HMBX : Aside0 (X.heap.size ≤ mb) := ⟨by rw [← hmb]; exact HBX2.out.size⟩
  rw [hW1, hmb]
  clear hW1 hmb HO1 HO2 HB1 HR0
  go_loopw [8] (fun v8 wr => ∃ k : Nat, k ≤ R.length ∧ v8 = .int .i64 k ∧ Aside0 (Below W1.heap.size W1 wr) ∧ Aside0 (∀ (j : Nat) (q : Reg), j < k → R[j]? = some q → insB q base = false ∧ ¬ (base ≤ q.base ∧ q.base < base + bs.length))) (fun v8 _ => R.length - (intOf v8).toNat)
  case atStart => exact ⟨0, Nat.zero_le _, rfl, ⟨Below.refl _ _⟩, ⟨fun j q hj => by omega⟩⟩
  case round =>
    obtain ⟨k, hk, rfl, HB, HJ⟩ := hrel
    have HXr : Aside0 (Below X.heap.size X wr) := ⟨below_then HXW.out HXW.out.size HB.out⟩
    have HMr := Aside0.mk (HM.out.below HXr.out)
    have hm0 := (blk1 HMr.out.blk).1
    have hmb0 := pw_cell_below HB.out (blk2 HMB.out).1
    have hmb1 := pw_cell_below HB.out (blk2 HMB.out).2.1
    by_cases hlt : k < R.length
    · obtain ⟨p, r, g, cap, hp, hr, hv, hc0, hc1, hcap, hcm, hop, hro⟩ := HMr.out.get hlt
      cases hv
      have HOK := Aside0.mk (HW.out r (List.mem_of_getElem? hr))
      have HR := Aside0.mk hr
      have HBD : Aside0 (Below W1.heap.size W1 wr.drew) := ⟨below_drew HB.out⟩
      have hmd : wr.drew.cell? ⟨b, 0, none⟩ = some (.slice (some ⟨g, 0, none⟩) R.length c) := hm0
      have hcd0 : wr.drew.cell? ⟨g, k * 2, none⟩ = some (.int .u64 r.base) := hc0
      have hcd1 : wr.drew.cell? ⟨g, k * 2 + 1, none⟩ = some (.slice (some ⟨p.1, 0, none⟩) r.data.length p.2) := hc1
      have hmd0 : wr.drew.cell? ⟨mb, 0, none⟩ = some (.int .u64 base) := hmb0
      have hmd1 : wr.drew.cell? ⟨mb, 1, none⟩ = some (.slice (some ⟨g1, 0, none⟩) bs.length cap1) := hmb1
      have hcap2 := cap_of_row hro
      have hro1 := HM.out.reg k p r hp hr
      have hbb : base < 18446744073709551616 := by have := HB2.out; omega
      have HINS : Aside0 (∀ w, (w.cell? ⟨b, 0, none⟩ = some (.slice (some ⟨g, 0, none⟩) R.length c) ∧ w.cell? ⟨g, k * 2, none⟩ = some (.int .u64 r.base) ∧ w.cell? ⟨g, k * 2 + 1, none⟩ = some (.slice (some ⟨p.1, 0, none⟩) r.data.length p.2) ∧ w.cell? ⟨mb, 0, none⟩ = some (.int .u64 base) ∧ w.cell? ⟨mb, 1, none⟩ = some (.slice (some ⟨g1, 0, none⟩) bs.length cap1) ∧ Below W1.heap.size W1 w) → ∀ (s : Reg) (x : Int) (A : Option Addr) (cc : Nat), 0 ≤ s.base → 0 ≤ x → x < 18446744073709551616 → s.data.length ≤ 4294967296 → s.data.length ≤ cc → Kd.C (Kd.int .u8) w A s.data.length s.data →
          Calls Try.prog 36 #[.agg #[.int .u64 s.base, .slice A s.data.length cc], .int .u64 x] w fun e w' => e = .returned (.bool (insB s x)) ∧ (w'.cell? ⟨b, 0, none⟩ = some (.slice (some ⟨g, 0, none⟩) R.length c) ∧ w'.cell? ⟨g, k * 2, none⟩ = some (.int .u64 r.base) ∧ w'.cell? ⟨g, k * 2 + 1, none⟩ = some (.slice (some ⟨p.1, 0, none⟩) r.data.length p.2) ∧ w'.cell? ⟨mb, 0, none⟩ = some (.int .u64 base) ∧ w'.cell? ⟨mb, 1, none⟩ = some (.slice (some ⟨g1, 0, none⟩) bs.length cap1) ∧ Below W1.heap.size W1 w')) := ⟨fun w ⟨s1, s2, s3, s4, s5, hb⟩ s x A cc q0 q1 q2 q3 q4 hC => by
        refine (inside_c s x A cc w q0 q1 q2 q3 hC q4).mono ?_
        rintro e w' ⟨he, hb'⟩
        exact ⟨he, pw_cell_below hb' s1, pw_cell_below hb' s2, pw_cell_below hb' s3, pw_cell_below hb' s4, pw_cell_below hb' s5, below_then hb hb.size hb'⟩⟩
      have HINS1 : Aside0 (∀ w, (w.cell? ⟨b, 0, none⟩ = some (.slice (some ⟨g, 0, none⟩) R.length c) ∧ w.cell? ⟨g, k * 2, none⟩ = some (.int .u64 r.base) ∧ w.cell? ⟨g, k * 2 + 1, none⟩ = some (.slice (some ⟨p.1, 0, none⟩) r.data.length p.2) ∧ w.cell? ⟨mb, 0, none⟩ = some (.int .u64 base) ∧ w.cell? ⟨mb, 1, none⟩ = some (.slice (some ⟨g1, 0, none⟩) bs.length cap1) ∧ Below W1.heap.size W1 w) → Calls Try.prog 36 #[.agg #[.int .u64 r.base, .slice (some ⟨p.1, 0, none⟩) r.data.length p.2], .int .u64 base] w fun e w' => e = .returned (.bool (insB r base)) ∧ (w'.cell? ⟨b, 0, none⟩ = some (.slice (some ⟨g, 0, none⟩) R.length c) ∧ w'.cell? ⟨g, k * 2, none⟩ = some (.int .u64 r.base) ∧ w'.cell? ⟨g, k * 2 + 1, none⟩ = some (.slice (some ⟨p.1, 0, none⟩) r.data.length p.2) ∧ w'.cell? ⟨mb, 0, none⟩ = some (.int .u64 base) ∧ w'.cell? ⟨mb, 1, none⟩ = some (.slice (some ⟨g1, 0, none⟩) bs.length cap1) ∧ Below W1.heap.size W1 w')) := ⟨fun w hS => by
        obtain ⟨s1, s2, s3, s4, s5, hb⟩ := hS
        obtain ⟨A2, c2, he2, _, _, hC2⟩ := row_C (row_keep hro1.2 (X' := w) (fun q hq => by cases hq; exact (below_then HXW.out HXW.out.size hb).block p.1 (own_lt hro1.2 p.1 rfl)))
        obtain ⟨rfl, rfl⟩ : A2 = some ⟨p.1, 0, none⟩ ∧ c2 = p.2 := by
          have := he2
          simp only [Value.slice.injEq] at this
          exact ⟨this.1.symm, this.2.2.symm⟩
        exact HINS.out w ⟨s1, s2, s3, s4, s5, hb⟩ r base _ _ HOK.out.lo HA0.out hbb HOK.out.short hcap2.1 hC2⟩
      have HINS2 : Aside0 (∀ w, (w.cell? ⟨b, 0, none⟩ = some (.slice (some ⟨g, 0, none⟩) R.length c) ∧ w.cell? ⟨g, k * 2, none⟩ = some (.int .u64 r.base) ∧ w.cell? ⟨g, k * 2 + 1, none⟩ = some (.slice (some ⟨p.1, 0, none⟩) r.data.length p.2) ∧ w.cell? ⟨mb, 0, none⟩ = some (.int .u64 base) ∧ w.cell? ⟨mb, 1, none⟩ = some (.slice (some ⟨g1, 0, none⟩) bs.length cap1) ∧ Below W1.heap.size W1 w) → Calls Try.prog 36 #[.agg #[.int .u64 base, .slice (some ⟨g1, 0, none⟩) bs.length cap1], .int .u64 r.base] w fun e w' => e = .returned (.bool (insB ⟨base, bs⟩ r.base)) ∧ (w'.cell? ⟨b, 0, none⟩ = some (.slice (some ⟨g, 0, none⟩) R.length c) ∧ w'.cell? ⟨g, k * 2, none⟩ = some (.int .u64 r.base) ∧ w'.cell? ⟨g, k * 2 + 1, none⟩ = some (.slice (some ⟨p.1, 0, none⟩) r.data.length p.2) ∧ w'.cell? ⟨mb, 0, none⟩ = some (.int .u64 base) ∧ w'.cell? ⟨mb, 1, none⟩ = some (.slice (some ⟨g1, 0, none⟩) bs.length cap1) ∧ Below W1.heap.size W1 w')) := ⟨fun w hS => by
        obtain ⟨s1, s2, s3, s4, s5, hb⟩ := hS
        obtain ⟨A2, c2, he2, _, _, hC2⟩ := row_C (row_keep HRW1.out (X' := w) (fun q hq => by cases hq; exact hb.block g1 (own_lt HRW1.out g1 rfl)))
        obtain ⟨rfl, rfl⟩ : A2 = some ⟨g1, 0, none⟩ ∧ c2 = cap1 := by
          have := he2
          simp only [Value.slice.injEq] at this
          exact ⟨this.1.symm, this.2.2.symm⟩
        have h1 := HOK.out.hi
        have h2 := HOK.out.pos
        exact HINS.out w ⟨s1, s2, s3, s4, s5, hb⟩ ⟨base, bs⟩ r.base _ _ HA0.out HOK.out.lo (by omega) hbl HCAP.out.1 hC2⟩
      clear HINS hr hp hro hro1 hop hcap hcm hcap2 hbb
      cases hins : insB r base with
      | true =>
        have HNO := Aside0.mk (addOk_false (base := base) (n := bs.length) HR.out HOK.out.pos (.inl hins))
        rw [hins] at HINS1
        clear hins
        go_wp2_with fail
        refine wp_region_held_drew (S := (fun w' => w'.cell? ⟨b, 0, none⟩ = some (.slice (some ⟨g, 0, none⟩) R.length c) ∧ w'.cell? ⟨g, k * 2, none⟩ = some (.int .u64 r.base) ∧ w'.cell? ⟨g, k * 2 + 1, none⟩ = some (.slice (some ⟨p.1, 0, none⟩) r.data.length p.2) ∧ w'.cell? ⟨mb, 0, none⟩ = some (.int .u64 base) ∧ w'.cell? ⟨mb, 1, none⟩ = some (.slice (some ⟨g1, 0, none⟩) bs.length cap1) ∧ Below W1.heap.size W1 w')) (by kernel_rfl) ⟨hmd, hcd0, hcd1, hmd0, hmd1, HBD.out⟩ (fun hHeld => ?_)
        refine wpAnyH_take (i := 0) (oi := { dst := some 36, op := Op.move (Operand.tmp 0), type := 27, pos := "ref.go:33", after := #[], guard := none }) (v := ?va0) rfl (by kernel_rfl) (by kernel_rfl) (by kernel_rfl) (fun _ _ _ h => h) (Or.inl ⟨by rfl, ?hya0⟩) (by assumption) ?resta0
        case hya0 => (intro w hSw; (try dsimp only at hSw); first | (go_simp; done) | (go_simp; with_reducible rfl))
        try simp only [Act.put, List.setIfInBounds_toArray, List.set_cons_zero, List.set_cons_succ]
        refine wpAnyH_take (i := 1) (oi := { dst := some 37, op := Op.nilCheck (Operand.tmp 36), type := 0, pos := "ref.go:33", after := #[{ on := 0, ground := Ground.data }], guard := none }) (v := ?va1) rfl (by kernel_rfl) (by kernel_rfl) (by kernel_rfl) (fun _ _ _ h => h) (Or.inl ⟨by rfl, ?hya1⟩) (by assumption) ?resta1
        case hya1 => (intro w hSw; (try dsimp only at hSw); first | (go_simp; done) | (go_simp; with_reducible rfl))
        try simp only [Act.put, List.setIfInBounds_toArray, List.set_cons_zero, List.set_cons_succ]
        refine wpAnyH_take (i := 2) (oi := { dst := some 38, op := Op.fieldAddr 30 (Operand.tmp 37) 0, type := 0, pos := "ref.go:33", after := #[{ on := 1, ground := Ground.data }], guard := none }) (v := ?va2) rfl (by kernel_rfl) (by kernel_rfl) (by kernel_rfl) (fun _ _ _ h => h) (Or.inl ⟨by rfl, ?hya2⟩) (by assumption) ?resta2
        case hya2 => (intro w hSw; (try dsimp only at hSw); first | (go_simp; done) | (go_simp; with_reducible rfl))
        try simp only [Act.put, List.setIfInBounds_toArray, List.set_cons_zero, List.set_cons_succ]
        refine wpAnyH_take (i := 3) (oi := { dst := some 39, op := Op.load 28 (Operand.tmp 38), type := 28, pos := "ref.go:33", after := #[{ on := 2, ground := Ground.data }], guard := none }) (v := ?va3) rfl (by kernel_rfl) (by kernel_rfl) (by kernel_rfl) (fun _ _ _ h => h) (Or.inl ⟨by rfl, ?hya3⟩) (by assumption) ?resta3
        case hya3 => (intro w hSw; (try dsimp only at hSw); first | (go_simp; done) | (go_simp; with_reducible rfl))
        try simp only [Act.put, List.setIfInBounds_toArray, List.set_cons_zero, List.set_cons_succ]
        refine wpAnyH_take (i := 4) (oi := { dst := some 40, op := Op.move (Operand.tmp 8), type := 3, pos := "ref.go:33", after := #[], guard := none }) (v := ?va4) rfl (by kernel_rfl) (by kernel_rfl) (by kernel_rfl) (fun _ _ _ h => h) (Or.inl ⟨by rfl, ?hya4⟩) (by assumption) ?resta4
        case hya4 => (intro w hSw; (try dsimp only at hSw); first | (go_simp; done) | (go_simp; with_reducible rfl))
        try simp only [Act.put, List.setIfInBounds_toArray, List.set_cons_zero, List.set_cons_succ]
        refine wpAnyH_take (i := 5) (oi := { dst := some 41, op := Op.indexAddr 28 (Operand.tmp 39) (Operand.tmp 40), type := 0, pos := "ref.go:33", after := #[{ on := 3, ground := Ground.data }, { on := 4, ground := Ground.data }], guard := none }) (v := ?va5) rfl (by kernel_rfl) (by kernel_rfl) (by kernel_rfl) (fun _ _ _ h => h) (Or.inl ⟨by rfl, ?hya5⟩) (by assumption) ?resta5
        case hya5 => (intro w hSw; (try dsimp only at hSw); first | (go_simp; done) | (go_simp; with_reducible rfl))
        try simp only [Act.put, List.setIfInBounds_toArray, List.set_cons_zero, List.set_cons_succ]
        refine wpAnyH_take (i := 6) (oi := { dst := some 42, op := Op.load 82 (Operand.tmp 41), type := 82, pos := "ref.go:33", after := #[{ on := 5, ground := Ground.data }], guard := none }) (v := ?va6) rfl (by kernel_rfl) (by kernel_rfl) (by kernel_rfl) (fun _ _ _ h => h) (Or.inl ⟨by rfl, ?hya6⟩) (by assumption) ?resta6
        case hya6 => (intro w hSw; (try dsimp only at hSw); first | (go_simp; done) | (go_simp; with_reducible rfl))
        try simp only [Act.put, List.setIfInBounds_toArray, List.set_cons_zero, List.set_cons_succ]
        refine wpAnyH_take (i := 7) (oi := { dst := some 43, op := Op.move (Operand.tmp 1), type := 31, pos := "ref.go:33", after := #[], guard := none }) (v := ?va7) rfl (by kernel_rfl) (by kernel_rfl) (by kernel_rfl) (fun _ _ _ h => h) (Or.inl ⟨by rfl, ?hya7⟩) (by assumption) ?resta7
        case hya7 => (intro w hSw; (try dsimp only at hSw); first | (go_simp; done) | (go_simp; with_reducible rfl))
        try simp only [Act.put, List.setIfInBounds_toArray, List.set_cons_zero, List.set_cons_succ]
        refine wpAnyH_ready (rs := [8]) (by kernel_rfl) (by simp) (AllReadyH.cons (o := { dst := some 44, op := Op.call { callee := Callee.value (Operand.func 36), args := #[Operand.tmp 42, Operand.tmp 43], argTypes := #[82, 31] }, type := 4, pos := "ref.go:33", after := #[{ on := 6, ground := Ground.data }, { on := 7, ground := Ground.data }], guard := none }) rfl (fun K hK => ?stepa8) AllReadyH.nil)
        go_simp
        go_at_call 36
        refine (HINS1.out _ hHeld).mono ?_
        rintro e w3 ⟨rfl, hS3⟩
        try dsimp only
        refine hK.out _ _ hS3 (fun hHeld2 => ?_)
        clear hK K hHeld
        try simp only [Act.put, List.setIfInBounds_toArray, List.set_cons_zero, List.set_cons_succ]
        refine wpAnyH_take (i := 9) (oi := { dst := some 45, op := Op.move (Operand.tmp 44), type := 4, pos := "ref.go:33", after := #[{ on := 8, ground := Ground.data }, { on := 8, ground := Ground.chain }], guard := none }) (v := ?vb9) rfl (by kernel_rfl) (by kernel_rfl) (by kernel_rfl) (fun _ _ _ h => h) (Or.inl ⟨by rfl, ?hyb9⟩) (by assumption) ?restb9
        case hyb9 => (intro w hSw; (try dsimp only at hSw); first | (go_simp; done) | (go_simp; with_reducible rfl))
        try simp only [Act.put, List.setIfInBounds_toArray, List.set_cons_zero, List.set_cons_succ]
        refine wpAnyH_take (i := 10) (oi := { dst := some 46, op := Op.load 82 (Operand.tmp 7), type := 82, pos := "ref.go:33", after := #[{ on := 9, ground := Ground.guard }], guard := some (9, false) }) (v := undef) rfl (by kernel_rfl) (by kernel_rfl) (by kernel_rfl) (fun _ _ _ h => h) (Or.inr ⟨by rfl, rfl⟩) (by assumption) ?restb10
        try simp only [Act.put, List.setIfInBounds_toArray, List.set_cons_zero, List.set_cons_succ]
        refine wpAnyH_take (i := 11) (oi := { dst := some 47, op := Op.move (Operand.tmp 0), type := 27, pos := "ref.go:33", after := #[{ on := 9, ground := Ground.guard }], guard := some (9, false) }) (v := undef) rfl (by kernel_rfl) (by kernel_rfl) (by kernel_rfl) (fun _ _ _ h => h) (Or.inr ⟨by rfl, rfl⟩) (by assumption) ?restb11
        try simp only [Act.put, List.setIfInBounds_toArray, List.set_cons_zero, List.set_cons_succ]
        refine wpAnyH_take (i := 12) (oi := { dst := some 48, op := Op.nilCheck (Operand.tmp 47), type := 0, pos := "ref.go:33", after := #[{ on := 11, ground := Ground.data }, { on := 9, ground := Ground.guard }], guard := some (9, false) }) (v := undef) rfl (by kernel_rfl) (by kernel_rfl) (by kernel_rfl) (fun _ _ _ h => h) (Or.inr ⟨by rfl, rfl⟩) (by assumption) ?restb12
        try simp only [Act.put, List.setIfInBounds_toArray, List.set_cons_zero, List.set_cons_succ]
        refine wpAnyH_take (i := 13) (oi := { dst := some 49, op := Op.fieldAddr 30 (Operand.tmp 48) 0, type := 0, pos := "ref.go:33", after := #[{ on := 12, ground := Ground.data }, { on := 9, ground := Ground.guard }], guard := some (9, false) }) (v := undef) rfl (by kernel_rfl) (by kernel_rfl) (by kernel_rfl) (fun _ _ _ h => h) (Or.inr ⟨by rfl, rfl⟩) (by assumption) ?restb13
        try simp only [Act.put, List.setIfInBounds_toArray, List.set_cons_zero, List.set_cons_succ]
        refine wpAnyH_take (i := 14) (oi := { dst := some 50, op := Op.load 28 (Operand.tmp 49), type := 28, pos := "ref.go:33", after := #[{ on := 13, ground := Ground.data }, { on := 9, ground := Ground.guard }], guard := some (9, false) }) (v := undef) rfl (by kernel_rfl) (by kernel_rfl) (by kernel_rfl) (fun _ _ _ h => h) (Or.inr ⟨by rfl, rfl⟩) (by assumption) ?restb14
        try simp only [Act.put, List.setIfInBounds_toArray, List.set_cons_zero, List.set_cons_succ]
        refine wpAnyH_take (i := 15) (oi := { dst := some 51, op := Op.move (Operand.tmp 8), type := 3, pos := "ref.go:33", after := #[{ on := 9, ground := Ground.guard }], guard := some (9, false) }) (v := undef) rfl (by kernel_rfl) (by kernel_rfl) (by kernel_rfl) (fun _ _ _ h => h) (Or.inr ⟨by rfl, rfl⟩) (by assumption) ?restb15
        try simp only [Act.put, List.setIfInBounds_toArray, List.set_cons_zero, List.set_cons_succ]
        refine wpAnyH_take (i := 16) (oi := { dst := some 52, op := Op.indexAddr 28 (Operand.tmp 50) (Operand.tmp 51), type := 0, pos := "ref.go:33", after := #[{ on := 14, ground := Ground.data }, { on := 15, ground := Ground.data }, { on := 9, ground := Ground.guard }], guard := some (9, false) }) (v := undef) rfl (by kernel_rfl) (by kernel_rfl) (by kernel_rfl) (fun _ _ _ h => h) (Or.inr ⟨by rfl, rfl⟩) (by assumption) ?restb16
        try simp only [Act.put, List.setIfInBounds_toArray, List.set_cons_zero, List.set_cons_succ]
        refine wpAnyH_take (i := 17) (oi := { dst := some 53, op := Op.fieldAddr 82 (Operand.tmp 52) 0, type := 0, pos := "ref.go:33", after := #[{ on := 16, ground := Ground.data }, { on := 9, ground := Ground.guard }], guard := some (9, false) }) (v := undef) rfl (by kernel_rfl) (by kernel_rfl) (by kernel_rfl) (fun _ _ _ h => h) (Or.inr ⟨by rfl, rfl⟩) (by assumption) ?restb17
        try simp only [Act.put, List.setIfInBounds_toArray, List.set_cons_zero, List.set_cons_succ]
        refine wpAnyH_take (i := 18) (oi := { dst := some 54, op := Op.load 31 (Operand.tmp 53), type := 31, pos := "ref.go:33", after := #[{ on := 17, ground := Ground.data }, { on := 9, ground := Ground.guard }], guard := some (9, false) }) (v := undef) rfl (by kernel_rfl) (by kernel_rfl) (by kernel_rfl) (fun _ _ _ h => h) (Or.inr ⟨by rfl, rfl⟩) (by assumption) ?restb18
        try simp only [Act.put, List.setIfInBounds_toArray, List.set_cons_zero, List.set_cons_succ]
        refine wpAnyH_take (i := 19) (oi := { dst := some 55, op := Op.call { callee := Callee.value (Operand.func 36), args := #[Operand.tmp 46, Operand.tmp 54], argTypes := #[82, 31] }, type := 4, pos := "ref.go:33", after := #[{ on := 10, ground := Ground.data }, { on := 18, ground := Ground.data }, { on := 9, ground := Ground.chain }, { on := 9, ground := Ground.guard }], guard := some (9, false) }) (v := undef) rfl (by kernel_rfl) (by kernel_rfl) (by kernel_rfl) (fun _ _ _ h => h) (Or.inr ⟨by rfl, rfl⟩) (by assumption) ?restb19
        try simp only [Act.put, List.setIfInBounds_toArray, List.set_cons_zero, List.set_cons_succ]
        refine wpAnyH_take (i := 20) (oi := { dst := some 56, op := Op.pick (Operand.tmp 45) (Operand.const (Value.bool true)) (Operand.tmp 55), type := 4, pos := "ref.go:33", after := #[{ on := 9, ground := Ground.data }, { on := 19, ground := Ground.data }], guard := none }) (v := ?vb20) rfl (by kernel_rfl) (by kernel_rfl) (by kernel_rfl) (fun _ _ _ h => h) (Or.inl ⟨by rfl, ?hyb20⟩) (by assumption) ?restb20
        case hyb20 => (intro w hSw; (try dsimp only at hSw); first | (go_simp; done) | (go_simp; with_reducible rfl))
        try simp only [Act.put, List.setIfInBounds_toArray, List.set_cons_zero, List.set_cons_succ]
        refine wpAnyH_done (by kernel_rfl) ?_ _
        go_wp2_with fail
        have HQ : Aside0 (RAddPost X B own b R base bs (.returned (.bool false)) w3) := ⟨by
          unfold RAddPost
          rw [HNO.out]
          exact ⟨rfl, below_then HXW.out HXW.out.size hS3.2.2.2.2.2⟩⟩
        go_ret
        exact HQ.out
      | false =>
        rw [hins] at HINS1
        have HI1 := Aside0.mk hins
        clear hins
        cases hins2 : insB ⟨base, bs⟩ r.base with
        | true =>
          have HNO := Aside0.mk (addOk_false (base := base) (n := bs.length) HR.out HOK.out.pos (.inr (by unfold insB at hins2; rw [decide_eq_true_eq] at hins2; exact hins2)))
          rw [hins2] at HINS2
          clear hins2
          go_wp2_with fail
          refine wp_region_held_drew (S := (fun w' => w'.cell? ⟨b, 0, none⟩ = some (.slice (some ⟨g, 0, none⟩) R.length c) ∧ w'.cell? ⟨g, k * 2, none⟩ = some (.int .u64 r.base) ∧ w'.cell? ⟨g, k * 2 + 1, none⟩ = some (.slice (some ⟨p.1, 0, none⟩) r.data.length p.2) ∧ w'.cell? ⟨mb, 0, none⟩ = some (.int .u64 base) ∧ w'.cell? ⟨mb, 1, none⟩ = some (.slice (some ⟨g1, 0, none⟩) bs.length cap1) ∧ Below W1.heap.size W1 w')) (by kernel_rfl) ⟨hmd, hcd0, hcd1, hmd0, hmd1, HBD.out⟩ (fun hHeld => ?_)
          refine wpAnyH_take (i := 0) (oi := { dst := some 36, op := Op.move (Operand.tmp 0), type := 27, pos := "ref.go:33", after := #[], guard := none }) (v := ?vta0) rfl (by kernel_rfl) (by kernel_rfl) (by kernel_rfl) (fun _ _ _ h => h) (Or.inl ⟨by rfl, ?hyta0⟩) (by assumption) ?restta0
          case hyta0 => (intro w hSw; (try dsimp only at hSw); first | (go_simp; done) | (go_simp; with_reducible rfl))
          try simp only [Act.put, List.setIfInBounds_toArray, List.set_cons_zero, List.set_cons_succ]
          refine wpAnyH_take (i := 1) (oi := { dst := some 37, op := Op.nilCheck (Operand.tmp 36), type := 0, pos := "ref.go:33", after := #[{ on := 0, ground := Ground.data }], guard := none }) (v := ?vta1) rfl (by kernel_rfl) (by kernel_rfl) (by kernel_rfl) (fun _ _ _ h => h) (Or.inl ⟨by rfl, ?hyta1⟩) (by assumption) ?restta1
          case hyta1 => (intro w hSw; (try dsimp only at hSw); first | (go_simp; done) | (go_simp; with_reducible rfl))
          try simp only [Act.put, List.setIfInBounds_toArray, List.set_cons_zero, List.set_cons_succ]
          refine wpAnyH_take (i := 2) (oi := { dst := some 38, op := Op.fieldAddr 30 (Operand.tmp 37) 0, type := 0, pos := "ref.go:33", after := #[{ on := 1, ground := Ground.data }], guard := none }) (v := ?vta2) rfl (by kernel_rfl) (by kernel_rfl) (by kernel_rfl) (fun _ _ _ h => h) (Or.inl ⟨by rfl, ?hyta2⟩) (by assumption) ?restta2
          case hyta2 => (intro w hSw; (try dsimp only at hSw); first | (go_simp; done) | (go_simp; with_reducible rfl))
          try simp only [Act.put, List.setIfInBounds_toArray, List.set_cons_zero, List.set_cons_succ]
          refine wpAnyH_take (i := 3) (oi := { dst := some 39, op := Op.load 28 (Operand.tmp 38), type := 28, pos := "ref.go:33", after := #[{ on := 2, ground := Ground.data }], guard := none }) (v := ?vta3) rfl (by kernel_rfl) (by kernel_rfl) (by kernel_rfl) (fun _ _ _ h => h) (Or.inl ⟨by rfl, ?hyta3⟩) (by assumption) ?restta3
          case hyta3 => (intro w hSw; (try dsimp only at hSw); first | (go_simp; done) | (go_simp; with_reducible rfl))
          try simp only [Act.put, List.setIfInBounds_toArray, List.set_cons_zero, List.set_cons_succ]
          refine wpAnyH_take (i := 4) (oi := { dst := some 40, op := Op.move (Operand.tmp 8), type := 3, pos := "ref.go:33", after := #[], guard := none }) (v := ?vta4) rfl (by kernel_rfl) (by kernel_rfl) (by kernel_rfl) (fun _ _ _ h => h) (Or.inl ⟨by rfl, ?hyta4⟩) (by assumption) ?restta4
          case hyta4 => (intro w hSw; (try dsimp only at hSw); first | (go_simp; done) | (go_simp; with_reducible rfl))
          try simp only [Act.put, List.setIfInBounds_toArray, List.set_cons_zero, List.set_cons_succ]
          refine wpAnyH_take (i := 5) (oi := { dst := some 41, op := Op.indexAddr 28 (Operand.tmp 39) (Operand.tmp 40), type := 0, pos := "ref.go:33", after := #[{ on := 3, ground := Ground.data }, { on := 4, ground := Ground.data }], guard := none }) (v := ?vta5) rfl (by kernel_rfl) (by kernel_rfl) (by kernel_rfl) (fun _ _ _ h => h) (Or.inl ⟨by rfl, ?hyta5⟩) (by assumption) ?restta5
          case hyta5 => (intro w hSw; (try dsimp only at hSw); first | (go_simp; done) | (go_simp; with_reducible rfl))
          try simp only [Act.put, List.setIfInBounds_toArray, List.set_cons_zero, List.set_cons_succ]
          refine wpAnyH_take (i := 6) (oi := { dst := some 42, op := Op.load 82 (Operand.tmp 41), type := 82, pos := "ref.go:33", after := #[{ on := 5, ground := Ground.data }], guard := none }) (v := ?vta6) rfl (by kernel_rfl) (by kernel_rfl) (by kernel_rfl) (fun _ _ _ h => h) (Or.inl ⟨by rfl, ?hyta6⟩) (by assumption) ?restta6
          case hyta6 => (intro w hSw; (try dsimp only at hSw); first | (go_simp; done) | (go_simp; with_reducible rfl))
          try simp only [Act.put, List.setIfInBounds_toArray, List.set_cons_zero, List.set_cons_succ]
          refine wpAnyH_take (i := 7) (oi := { dst := some 43, op := Op.move (Operand.tmp 1), type := 31, pos := "ref.go:33", after := #[], guard := none }) (v := ?vta7) rfl (by kernel_rfl) (by kernel_rfl) (by kernel_rfl) (fun _ _ _ h => h) (Or.inl ⟨by rfl, ?hyta7⟩) (by assumption) ?restta7
          case hyta7 => (intro w hSw; (try dsimp only at hSw); first | (go_simp; done) | (go_simp; with_reducible rfl))
          try simp only [Act.put, List.setIfInBounds_toArray, List.set_cons_zero, List.set_cons_succ]
          refine wpAnyH_ready (rs := [8]) (by kernel_rfl) (by simp) (AllReadyH.cons (o := { dst := some 44, op := Op.call { callee := Callee.value (Operand.func 36), args := #[Operand.tmp 42, Operand.tmp 43], argTypes := #[82, 31] }, type := 4, pos := "ref.go:33", after := #[{ on := 6, ground := Ground.data }, { on := 7, ground := Ground.data }], guard := none }) rfl (fun K hK => ?stepta8) AllReadyH.nil)
          go_simp
          go_at_call 36
          refine (HINS1.out _ hHeld).mono ?_
          rintro e w3 ⟨rfl, hS3⟩
          try dsimp only
          refine hK.out _ _ hS3 (fun hHeld2 => ?_)
          clear hK K hHeld
          try simp only [Act.put, List.setIfInBounds_toArray, List.set_cons_zero, List.set_cons_succ]
          refine wpAnyH_take (i := 9) (oi := { dst := some 45, op := Op.move (Operand.tmp 44), type := 4, pos := "ref.go:33", after := #[{ on := 8, ground := Ground.data }, { on := 8, ground := Ground.chain }], guard := none }) (v := ?vtb9) rfl (by kernel_rfl) (by kernel_rfl) (by kernel_rfl) (fun _ _ _ h => h) (Or.inl ⟨by rfl, ?hytb9⟩) (by assumption) ?resttb9
          case hytb9 => (intro w hSw; (try dsimp only at hSw); first | (go_simp; done) | (go_simp; with_reducible rfl))
          try simp only [Act.put, List.setIfInBounds_toArray, List.set_cons_zero, List.set_cons_succ]
          refine wpAnyH_take (i := 10) (oi := { dst := some 46, op := Op.load 82 (Operand.tmp 7), type := 82, pos := "ref.go:33", after := #[{ on := 9, ground := Ground.guard }], guard := some (9, false) }) (v := ?vtb10) rfl (by kernel_rfl) (by kernel_rfl) (by kernel_rfl) (fun _ _ _ h => h) (Or.inl ⟨by rfl, ?hytb10⟩) (by assumption) ?resttb10
          case hytb10 => (intro w hSw; (try dsimp only at hSw); first | (go_simp; done) | (go_simp; with_reducible rfl))
          try simp only [Act.put, List.setIfInBounds_toArray, List.set_cons_zero, List.set_cons_succ]
          refine wpAnyH_take (i := 11) (oi := { dst := some 47, op := Op.move (Operand.tmp 0), type := 27, pos := "ref.go:33", after := #[{ on := 9, ground := Ground.guard }], guard := some (9, false) }) (v := ?vtb11) rfl (by kernel_rfl) (by kernel_rfl) (by kernel_rfl) (fun _ _ _ h => h) (Or.inl ⟨by rfl, ?hytb11⟩) (by assumption) ?resttb11
          case hytb11 => (intro w hSw; (try dsimp only at hSw); first | (go_simp; done) | (go_simp; with_reducible rfl))
          try simp only [Act.put, List.setIfInBounds_toArray, List.set_cons_zero, List.set_cons_succ]
          refine wpAnyH_take (i := 12) (oi := { dst := some 48, op := Op.nilCheck (Operand.tmp 47), type := 0, pos := "ref.go:33", after := #[{ on := 11, ground := Ground.data }, { on := 9, ground := Ground.guard }], guard := some (9, false) }) (v := ?vtb12) rfl (by kernel_rfl) (by kernel_rfl) (by kernel_rfl) (fun _ _ _ h => h) (Or.inl ⟨by rfl, ?hytb12⟩) (by assumption) ?resttb12
          case hytb12 => (intro w hSw; (try dsimp only at hSw); first | (go_simp; done) | (go_simp; with_reducible rfl))
          try simp only [Act.put, List.setIfInBounds_toArray, List.set_cons_zero, List.set_cons_succ]
          refine wpAnyH_take (i := 13) (oi := { dst := some 49, op := Op.fieldAddr 30 (Operand.tmp 48) 0, type := 0, pos := "ref.go:33", after := #[{ on := 12, ground := Ground.data }, { on := 9, ground := Ground.guard }], guard := some (9, false) }) (v := ?vtb13) rfl (by kernel_rfl) (by kernel_rfl) (by kernel_rfl) (fun _ _ _ h => h) (Or.inl ⟨by rfl, ?hytb13⟩) (by assumption) ?resttb13
          case hytb13 => (intro w hSw; (try dsimp only at hSw); first | (go_simp; done) | (go_simp; with_reducible rfl))
          try simp only [Act.put, List.setIfInBounds_toArray, List.set_cons_zero, List.set_cons_succ]
          refine wpAnyH_take (i := 14) (oi := { dst := some 50, op := Op.load 28 (Operand.tmp 49), type := 28, pos := "ref.go:33", after := #[{ on := 13, ground := Ground.data }, { on := 9, ground := Ground.guard }], guard := some (9, false) }) (v := ?vtb14) rfl (by kernel_rfl) (by kernel_rfl) (by kernel_rfl) (fun _ _ _ h => h) (Or.inl ⟨by rfl, ?hytb14⟩) (by assumption) ?resttb14
          case hytb14 => (intro w hSw; (try dsimp only at hSw); first | (go_simp; done) | (go_simp; with_reducible rfl))
          try simp only [Act.put, List.setIfInBounds_toArray, List.set_cons_zero, List.set_cons_succ]
          refine wpAnyH_take (i := 15) (oi := { dst := some 51, op := Op.move (Operand.tmp 8), type := 3, pos := "ref.go:33", after := #[{ on := 9, ground := Ground.guard }], guard := some (9, false) }) (v := ?vtb15) rfl (by kernel_rfl) (by kernel_rfl) (by kernel_rfl) (fun _ _ _ h => h) (Or.inl ⟨by rfl, ?hytb15⟩) (by assumption) ?resttb15
          case hytb15 => (intro w hSw; (try dsimp only at hSw); first | (go_simp; done) | (go_simp; with_reducible rfl))
          try simp only [Act.put, List.setIfInBounds_toArray, List.set_cons_zero, List.set_cons_succ]
          refine wpAnyH_take (i := 16) (oi := { dst := some 52, op := Op.indexAddr 28 (Operand.tmp 50) (Operand.tmp 51), type := 0, pos := "ref.go:33", after := #[{ on := 14, ground := Ground.data }, { on := 15, ground := Ground.data }, { on := 9, ground := Ground.guard }], guard := some (9, false) }) (v := ?vtb16) rfl (by kernel_rfl) (by kernel_rfl) (by kernel_rfl) (fun _ _ _ h => h) (Or.inl ⟨by rfl, ?hytb16⟩) (by assumption) ?resttb16
          case hytb16 => (intro w hSw; (try dsimp only at hSw); first | (go_simp; done) | (go_simp; with_reducible rfl))
          try simp only [Act.put, List.setIfInBounds_toArray, List.set_cons_zero, List.set_cons_succ]
          refine wpAnyH_take (i := 17) (oi := { dst := some 53, op := Op.fieldAddr 82 (Operand.tmp 52) 0, type := 0, pos := "ref.go:33", after := #[{ on := 16, ground := Ground.data }, { on := 9, ground := Ground.guard }], guard := some (9, false) }) (v := ?vtb17) rfl (by kernel_rfl) (by kernel_rfl) (by kernel_rfl) (fun _ _ _ h => h) (Or.inl ⟨by rfl, ?hytb17⟩) (by assumption) ?resttb17
          case hytb17 => (intro w hSw; (try dsimp only at hSw); first | (go_simp; done) | (go_simp; with_reducible rfl))
          try simp only [Act.put, List.setIfInBounds_toArray, List.set_cons_zero, List.set_cons_succ]
          refine wpAnyH_take (i := 18) (oi := { dst := some 54, op := Op.load 31 (Operand.tmp 53), type := 31, pos := "ref.go:33", after := #[{ on := 17, ground := Ground.data }, { on := 9, ground := Ground.guard }], guard := some (9, false) }) (v := ?vtb18) rfl (by kernel_rfl) (by kernel_rfl) (by kernel_rfl) (fun _ _ _ h => h) (Or.inl ⟨by rfl, ?hytb18⟩) (by assumption) ?resttb18
          case hytb18 => (intro w hSw; (try dsimp only at hSw); first | (go_simp; done) | (go_simp; with_reducible rfl))
          try simp only [Act.put, List.setIfInBounds_toArray, List.set_cons_zero, List.set_cons_succ]
          refine wpAnyH_ready (rs := [19]) (by kernel_rfl) (by simp) (AllReadyH.cons (o := { dst := some 55, op := Op.call { callee := Callee.value (Operand.func 36), args := #[Operand.tmp 46, Operand.tmp 54], argTypes := #[82, 31] }, type := 4, pos := "ref.go:33", after := #[{ on := 10, ground := Ground.data }, { on := 18, ground := Ground.data }, { on := 9, ground := Ground.chain }, { on := 9, ground := Ground.guard }], guard := some (9, false) }) rfl (fun K hK => ?steptb19) AllReadyH.nil)
          go_simp
          go_at_call 36
          refine (HINS2.out _ hHeld2).mono ?_
          rintro e w4 ⟨rfl, hS4⟩
          try dsimp only
          refine hK.out _ _ hS4 (fun hHeld3 => ?_)
          clear hK K hHeld2
          try simp only [Act.put, List.setIfInBounds_toArray, List.set_cons_zero, List.set_cons_succ]
          refine wpAnyH_take (i := 20) (oi := { dst := some 56, op := Op.pick (Operand.tmp 45) (Operand.const (Value.bool true)) (Operand.tmp 55), type := 4, pos := "ref.go:33", after := #[{ on := 9, ground := Ground.data }, { on := 19, ground := Ground.data }], guard := none }) (v := ?vtc20) rfl (by kernel_rfl) (by kernel_rfl) (by kernel_rfl) (fun _ _ _ h => h) (Or.inl ⟨by rfl, ?hytc20⟩) (by assumption) ?resttc20
          case hytc20 => (intro w hSw; (try dsimp only at hSw); first | (go_simp; done) | (go_simp; with_reducible rfl))
          try simp only [Act.put, List.setIfInBounds_toArray, List.set_cons_zero, List.set_cons_succ]
          refine wpAnyH_done (by kernel_rfl) ?_ _
          go_wp2_with fail
          have HQ : Aside0 (RAddPost X B own b R base bs (.returned (.bool false)) w4) := ⟨by
            unfold RAddPost
            rw [HNO.out]
            exact ⟨rfl, below_then HXW.out HXW.out.size hS4.2.2.2.2.2⟩⟩
          go_ret
          exact HQ.out
        | false =>
          have HNXT : Aside0 (∀ (j : Nat) (q : Reg), j < k + 1 → R[j]? = some q → insB q base = false ∧ ¬ (base ≤ q.base ∧ q.base < base + bs.length)) := ⟨fun j q hj hq => by
            rcases Nat.lt_or_eq_of_le (Nat.le_of_lt_succ hj) with h | h
            · exact HJ.out j q h hq
            · subst h
              rw [HR.out] at hq
              cases hq
              refine ⟨HI1.out, ?_⟩
              unfold insB at hins2
              rw [decide_eq_false_iff_not] at hins2
              exact hins2⟩
          rw [hins2] at HINS2
          clear hins2
          go_wp2_with fail
          refine wp_region_held_drew (S := (fun w' => w'.cell? ⟨b, 0, none⟩ = some (.slice (some ⟨g, 0, none⟩) R.length c) ∧ w'.cell? ⟨g, k * 2, none⟩ = some (.int .u64 r.base) ∧ w'.cell? ⟨g, k * 2 + 1, none⟩ = some (.slice (some ⟨p.1, 0, none⟩) r.data.length p.2) ∧ w'.cell? ⟨mb, 0, none⟩ = some (.int .u64 base) ∧ w'.cell? ⟨mb, 1, none⟩ = some (.slice (some ⟨g1, 0, none⟩) bs.length cap1) ∧ Below W1.heap.size W1 w')) (by kernel_rfl) ⟨hmd, hcd0, hcd1, hmd0, hmd1, HBD.out⟩ (fun hHeld => ?_)
          refine wpAnyH_take (i := 0) (oi := { dst := some 36, op := Op.move (Operand.tmp 0), type := 27, pos := "ref.go:33", after := #[], guard := none }) (v := ?vua0) rfl (by kernel_rfl) (by kernel_rfl) (by kernel_rfl) (fun _ _ _ h => h) (Or.inl ⟨by rfl, ?hyua0⟩) (by assumption) ?restua0
          case hyua0 => (intro w hSw; (try dsimp only at hSw); first | (go_simp; done) | (go_simp; with_reducible rfl))
          try simp only [Act.put, List.setIfInBounds_toArray, List.set_cons_zero, List.set_cons_succ]
          refine wpAnyH_take (i := 1) (oi := { dst := some 37, op := Op.nilCheck (Operand.tmp 36), type := 0, pos := "ref.go:33", after := #[{ on := 0, ground := Ground.data }], guard := none }) (v := ?vua1) rfl (by kernel_rfl) (by kernel_rfl) (by kernel_rfl) (fun _ _ _ h => h) (Or.inl ⟨by rfl, ?hyua1⟩) (by assumption) ?restua1
          case hyua1 => (intro w hSw; (try dsimp only at hSw); first | (go_simp; done) | (go_simp; with_reducible rfl))
          try simp only [Act.put, List.setIfInBounds_toArray, List.set_cons_zero, List.set_cons_succ]
          refine wpAnyH_take (i := 2) (oi := { dst := some 38, op := Op.fieldAddr 30 (Operand.tmp 37) 0, type := 0, pos := "ref.go:33", after := #[{ on := 1, ground := Ground.data }], guard := none }) (v := ?vua2) rfl (by kernel_rfl) (by kernel_rfl) (by kernel_rfl) (fun _ _ _ h => h) (Or.inl ⟨by rfl, ?hyua2⟩) (by assumption) ?restua2
          case hyua2 => (intro w hSw; (try dsimp only at hSw); first | (go_simp; done) | (go_simp; with_reducible rfl))
          try simp only [Act.put, List.setIfInBounds_toArray, List.set_cons_zero, List.set_cons_succ]
          refine wpAnyH_take (i := 3) (oi := { dst := some 39, op := Op.load 28 (Operand.tmp 38), type := 28, pos := "ref.go:33", after := #[{ on := 2, ground := Ground.data }], guard := none }) (v := ?vua3) rfl (by kernel_rfl) (by kernel_rfl) (by kernel_rfl) (fun _ _ _ h => h) (Or.inl ⟨by rfl, ?hyua3⟩) (by assumption) ?restua3
          case hyua3 => (intro w hSw; (try dsimp only at hSw); first | (go_simp; done) | (go_simp; with_reducible rfl))
          try simp only [Act.put, List.setIfInBounds_toArray, List.set_cons_zero, List.set_cons_succ]
          refine wpAnyH_take (i := 4) (oi := { dst := some 40, op := Op.move (Operand.tmp 8), type := 3, pos := "ref.go:33", after := #[], guard := none }) (v := ?vua4) rfl (by kernel_rfl) (by kernel_rfl) (by kernel_rfl) (fun _ _ _ h => h) (Or.inl ⟨by rfl, ?hyua4⟩) (by assumption) ?restua4
          case hyua4 => (intro w hSw; (try dsimp only at hSw); first | (go_simp; done) | (go_simp; with_reducible rfl))
          try simp only [Act.put, List.setIfInBounds_toArray, List.set_cons_zero, List.set_cons_succ]
          refine wpAnyH_take (i := 5) (oi := { dst := some 41, op := Op.indexAddr 28 (Operand.tmp 39) (Operand.tmp 40), type := 0, pos := "ref.go:33", after := #[{ on := 3, ground := Ground.data }, { on := 4, ground := Ground.data }], guard := none }) (v := ?vua5) rfl (by kernel_rfl) (by kernel_rfl) (by kernel_rfl) (fun _ _ _ h => h) (Or.inl ⟨by rfl, ?hyua5⟩) (by assumption) ?restua5
          case hyua5 => (intro w hSw; (try dsimp only at hSw); first | (go_simp; done) | (go_simp; with_reducible rfl))
          try simp only [Act.put, List.setIfInBounds_toArray, List.set_cons_zero, List.set_cons_succ]
          refine wpAnyH_take (i := 6) (oi := { dst := some 42, op := Op.load 82 (Operand.tmp 41), type := 82, pos := "ref.go:33", after := #[{ on := 5, ground := Ground.data }], guard := none }) (v := ?vua6) rfl (by kernel_rfl) (by kernel_rfl) (by kernel_rfl) (fun _ _ _ h => h) (Or.inl ⟨by rfl, ?hyua6⟩) (by assumption) ?restua6
          case hyua6 => (intro w hSw; (try dsimp only at hSw); first | (go_simp; done) | (go_simp; with_reducible rfl))
          try simp only [Act.put, List.setIfInBounds_toArray, List.set_cons_zero, List.set_cons_succ]
          refine wpAnyH_take (i := 7) (oi := { dst := some 43, op := Op.move (Operand.tmp 1), type := 31, pos := "ref.go:33", after := #[], guard := none }) (v := ?vua7) rfl (by kernel_rfl) (by kernel_rfl) (by kernel_rfl) (fun _ _ _ h => h) (Or.inl ⟨by rfl, ?hyua7⟩) (by assumption) ?restua7
          case hyua7 => (intro w hSw; (try dsimp only at hSw); first | (go_simp; done) | (go_simp; with_reducible rfl))
          try simp only [Act.put, List.setIfInBounds_toArray, List.set_cons_zero, List.set_cons_succ]
          refine wpAnyH_ready (rs := [8]) (by kernel_rfl) (by simp) (AllReadyH.cons (o := { dst := some 44, op := Op.call { callee := Callee.value (Operand.func 36), args := #[Operand.tmp 42, Operand.tmp 43], argTypes := #[82, 31] }, type := 4, pos := "ref.go:33", after := #[{ on := 6, ground := Ground.data }, { on := 7, ground := Ground.data }], guard := none }) rfl (fun K hK => ?stepua8) AllReadyH.nil)
          go_simp
          go_at_call 36
          refine (HINS1.out _ hHeld).mono ?_
          rintro e w3 ⟨rfl, hS3⟩
          try dsimp only
          refine hK.out _ _ hS3 (fun hHeld2 => ?_)
          clear hK K hHeld
          try simp only [Act.put, List.setIfInBounds_toArray, List.set_cons_zero, List.set_cons_succ]
          refine wpAnyH_take (i := 9) (oi := { dst := some 45, op := Op.move (Operand.tmp 44), type := 4, pos := "ref.go:33", after := #[{ on := 8, ground := Ground.data }, { on := 8, ground := Ground.chain }], guard := none }) (v := ?vub9) rfl (by kernel_rfl) (by kernel_rfl) (by kernel_rfl) (fun _ _ _ h => h) (Or.inl ⟨by rfl, ?hyub9⟩) (by assumption) ?restub9
          case hyub9 => (intro w hSw; (try dsimp only at hSw); first | (go_simp; done) | (go_simp; with_reducible rfl))
          try simp only [Act.put, List.setIfInBounds_toArray, List.set_cons_zero, List.set_cons_succ]
          refine wpAnyH_take (i := 10) (oi := { dst := some 46, op := Op.load 82 (Operand.tmp 7), type := 82, pos := "ref.go:33", after := #[{ on := 9, ground := Ground.guard }], guard := some (9, false) }) (v := ?vub10) rfl (by kernel_rfl) (by kernel_rfl) (by kernel_rfl) (fun _ _ _ h => h) (Or.inl ⟨by rfl, ?hyub10⟩) (by assumption) ?restub10
          case hyub10 => (intro w hSw; (try dsimp only at hSw); first | (go_simp; done) | (go_simp; with_reducible rfl))
          try simp only [Act.put, List.setIfInBounds_toArray, List.set_cons_zero, List.set_cons_succ]
          refine wpAnyH_take (i := 11) (oi := { dst := some 47, op := Op.move (Operand.tmp 0), type := 27, pos := "ref.go:33", after := #[{ on := 9, ground := Ground.guard }], guard := some (9, false) }) (v := ?vub11) rfl (by kernel_rfl) (by kernel_rfl) (by kernel_rfl) (fun _ _ _ h => h) (Or.inl ⟨by rfl, ?hyub11⟩) (by assumption) ?restub11
          case hyub11 => (intro w hSw; (try dsimp only at hSw); first | (go_simp; done) | (go_simp; with_reducible rfl))
          try simp only [Act.put, List.setIfInBounds_toArray, List.set_cons_zero, List.set_cons_succ]
          refine wpAnyH_take (i := 12) (oi := { dst := some 48, op := Op.nilCheck (Operand.tmp 47), type := 0, pos := "ref.go:33", after := #[{ on := 11, ground := Ground.data }, { on := 9, ground := Ground.guard }], guard := some (9, false) }) (v := ?vub12) rfl (by kernel_rfl) (by kernel_rfl) (by kernel_rfl) (fun _ _ _ h => h) (Or.inl ⟨by rfl, ?hyub12⟩) (by assumption) ?restub12
          case hyub12 => (intro w hSw; (try dsimp only at hSw); first | (go_simp; done) | (go_simp; with_reducible rfl))
          try simp only [Act.put, List.setIfInBounds_toArray, List.set_cons_zero, List.set_cons_succ]
          refine wpAnyH_take (i := 13) (oi := { dst := some 49, op := Op.fieldAddr 30 (Operand.tmp 48) 0, type := 0, pos := "ref.go:33", after := #[{ on := 12, ground := Ground.data }, { on := 9, ground := Ground.guard }], guard := some (9, false) }) (v := ?vub13) rfl (by kernel_rfl) (by kernel_rfl) (by kernel_rfl) (fun _ _ _ h => h) (Or.inl ⟨by rfl, ?hyub13⟩) (by assumption) ?restub13
          case hyub13 => (intro w hSw; (try dsimp only at hSw); first | (go_simp; done) | (go_simp; with_reducible rfl))
          try simp only [Act.put, List.setIfInBounds_toArray, List.set_cons_zero, List.set_cons_succ]
          refine wpAnyH_take (i := 14) (oi := { dst := some 50, op := Op.load 28 (Operand.tmp 49), type := 28, pos := "ref.go:33", after := #[{ on := 13, ground := Ground.data }, { on := 9, ground := Ground.guard }], guard := some (9, false) }) (v := ?vub14) rfl (by kernel_rfl) (by kernel_rfl) (by kernel_rfl) (fun _ _ _ h => h) (Or.inl ⟨by rfl, ?hyub14⟩) (by assumption) ?restub14
          case hyub14 => (intro w hSw; (try dsimp only at hSw); first | (go_simp; done) | (go_simp; with_reducible rfl))
          try simp only [Act.put, List.setIfInBounds_toArray, List.set_cons_zero, List.set_cons_succ]
          refine wpAnyH_take (i := 15) (oi := { dst := some 51, op := Op.move (Operand.tmp 8), type := 3, pos := "ref.go:33", after := #[{ on := 9, ground := Ground.guard }], guard := some (9, false) }) (v := ?vub15) rfl (by kernel_rfl) (by kernel_rfl) (by kernel_rfl) (fun _ _ _ h => h) (Or.inl ⟨by rfl, ?hyub15⟩) (by assumption) ?restub15
          case hyub15 => (intro w hSw; (try dsimp only at hSw); first | (go_simp; done) | (go_simp; with_reducible rfl))
          try simp only [Act.put, List.setIfInBounds_toArray, List.set_cons_zero, List.set_cons_succ]
          refine wpAnyH_take (i := 16) (oi := { dst := some 52, op := Op.indexAddr 28 (Operand.tmp 50) (Operand.tmp 51), type := 0, pos := "ref.go:33", after := #[{ on := 14, ground := Ground.data }, { on := 15, ground := Ground.data }, { on := 9, ground := Ground.guard }], guard := some (9, false) }) (v := ?vub16) rfl (by kernel_rfl) (by kernel_rfl) (by kernel_rfl) (fun _ _ _ h => h) (Or.inl ⟨by rfl, ?hyub16⟩) (by assumption) ?restub16
          case hyub16 => (intro w hSw; (try dsimp only at hSw); first | (go_simp; done) | (go_simp; with_reducible rfl))
          try simp only [Act.put, List.setIfInBounds_toArray, List.set_cons_zero, List.set_cons_succ]
          refine wpAnyH_take (i := 17) (oi := { dst := some 53, op := Op.fieldAddr 82 (Operand.tmp 52) 0, type := 0, pos := "ref.go:33", after := #[{ on := 16, ground := Ground.data }, { on := 9, ground := Ground.guard }], guard := some (9, false) }) (v := ?vub17) rfl (by kernel_rfl) (by kernel_rfl) (by kernel_rfl) (fun _ _ _ h => h) (Or.inl ⟨by rfl, ?hyub17⟩) (by assumption) ?restub17
          case hyub17 => (intro w hSw; (try dsimp only at hSw); first | (go_simp; done) | (go_simp; with_reducible rfl))
          try simp only [Act.put, List.setIfInBounds_toArray, List.set_cons_zero, List.set_cons_succ]
          refine wpAnyH_take (i := 18) (oi := { dst := some 54, op := Op.load 31 (Operand.tmp 53), type := 31, pos := "ref.go:33", after := #[{ on := 17, ground := Ground.data }, { on := 9, ground := Ground.guard }], guard := some (9, false) }) (v := ?vub18) rfl (by kernel_rfl) (by kernel_rfl) (by kernel_rfl) (fun _ _ _ h => h) (Or.inl ⟨by rfl, ?hyub18⟩) (by assumption) ?restub18
          case hyub18 => (intro w hSw; (try dsimp only at hSw); first | (go_simp; done) | (go_simp; with_reducible rfl))
          try simp only [Act.put, List.setIfInBounds_toArray, List.set_cons_zero, List.set_cons_succ]
          refine wpAnyH_ready (rs := [19]) (by kernel_rfl) (by simp) (AllReadyH.cons (o := { dst := some 55, op := Op.call { callee := Callee.value (Operand.func 36), args := #[Operand.tmp 46, Operand.tmp 54], argTypes := #[82, 31] }, type := 4, pos := "ref.go:33", after := #[{ on := 10, ground := Ground.data }, { on := 18, ground := Ground.data }, { on := 9, ground := Ground.chain }, { on := 9, ground := Ground.guard }], guard := some (9, false) }) rfl (fun K hK => ?stepub19) AllReadyH.nil)
          go_simp
          go_at_call 36
          refine (HINS2.out _ hHeld2).mono ?_
          rintro e w4 ⟨rfl, hS4⟩
          try dsimp only
          refine hK.out _ _ hS4 (fun hHeld3 => ?_)
          clear hK K hHeld2
          try simp only [Act.put, List.setIfInBounds_toArray, List.set_cons_zero, List.set_cons_succ]
          refine wpAnyH_take (i := 20) (oi := { dst := some 56, op := Op.pick (Operand.tmp 45) (Operand.const (Value.bool true)) (Operand.tmp 55), type := 4, pos := "ref.go:33", after := #[{ on := 9, ground := Ground.data }, { on := 19, ground := Ground.data }], guard := none }) (v := ?vuc20) rfl (by kernel_rfl) (by kernel_rfl) (by kernel_rfl) (fun _ _ _ h => h) (Or.inl ⟨by rfl, ?hyuc20⟩) (by assumption) ?restuc20
          case hyuc20 => (intro w hSw; (try dsimp only at hSw); first | (go_simp; done) | (go_simp; with_reducible rfl))
          try simp only [Act.put, List.setIfInBounds_toArray, List.set_cons_zero, List.set_cons_succ]
          refine wpAnyH_done (by kernel_rfl) ?_ _
          have HB4 := Aside0.mk hS4.2.2.2.2.2
          go_wp2_with fail
          exact ⟨⟨k + 1, by omega, by congr 1, HB4, HNXT⟩, by simp [intOf]; omega⟩
    · obtain rfl : k = R.length := by omega
      have HOKT : Aside0 (addOk R base bs.length = true) := ⟨addOk_true HL0.out HB2.out (fun r hr => (HW.out r hr).pos) (fun k r hk hr => HJ.out k r hk hr)⟩
      obtain ⟨i0, hi, hz0, hz1, hz2⟩ := info_parts infoReg
      have hmd : wr.drew.cell? ⟨b, 0, none⟩ = some (.slice A R.length c) := hm0
      have hmd0 : wr.drew.cell? ⟨mb, 0, none⟩ = some (.int .u64 base) := hmb0
      have hmd1 : wr.drew.cell? ⟨mb, 1, none⟩ = some (.slice (some ⟨g1, 0, none⟩) bs.length cap1) := hmb1
      have hfro : wr.drew.frozen? ⟨b, 0, none⟩ = false := (blk1 HMr.out.blk).2
      have HROWD : Aside0 (wr.drew.ownsRow B 82 2 (.slice A R.length c) R.length (cells2 R ps)) := ⟨HMr.out.row⟩
      have hBX2 : B ≤ wr.heap.size := Nat.le_trans hBX HXr.out.size
      have hnb : (Value.slice A R.length c).ownBlock ≠ some b := fun e => by
        rcases HMr.out.row.2 with ⟨h', _⟩ | ⟨g', cap', cur', h', _, hh', _⟩
        · rw [h'] at e; simp [Value.ownBlock] at e
        · rw [h'] at e
          obtain rfl : g' = b := by simpa [Value.ownBlock] using e
          exact two_blocks hh' HMr.out.blk (by decide) rfl
      have HNB := Aside0.mk hnb
      have hbl' : b < wr.heap.size := (Array.getElem?_eq_some_iff.1 HMr.out.blk).1
      have HK5 : Aside0 (∀ (o : Obj) (w5 : World), (wr.drew.alloc o).grownBy w5 (Value.slice A R.length c).ownBlock → w5.heap[b]? = some (.cells #[.slice A R.length c] 30 (0, 0))) := ⟨fun o w5 hg => by
        rw [hg.block b (Nat.lt_of_lt_of_le hbl' (below_alloc (Below.refl _ _) o).size) (fun e => HNB.out e.symm)]
        exact ((below_alloc (Below.refl wr.drew.heap.size _) o).block b hbl').trans HMr.out.blk⟩
      have HFIN : Aside0 (∀ (o : Obj) (w5 : World) (g2 cap2 : Nat), w5.ownsRow B 82 2 (.slice (some ⟨g2, 0, none⟩) (R.length + 1) cap2) (R.length + 1) (cells2 R ps ++ cell2 ⟨base, bs⟩ (g1, cap1)) → w5.heap[b]? = some (.cells #[.slice A R.length c] 30 (0, 0)) →
          (wr.drew.alloc o).grownBy w5 (Value.slice A R.length c).ownBlock → ((Value.slice A R.length c).ownBlock = some g2 ∨ g2 = (wr.drew.alloc o).heap.size) →
          Aside0 (RAddPost X B own b R base bs (.returned (.bool true)) (w5.setCell ⟨b, 0, none⟩ (.slice (some ⟨g2, 0, none⟩) (R.length + 1) cap2)))) := ⟨fun o w5 g2 cap2 hown hb5 hgr hat => by
        refine ⟨?_⟩
        unfold RAddPost
        rw [if_pos HOKT.out]
        have hblk2 : ∀ {g : Nat}, (Value.slice A R.length c).ownBlock = some g → ∃ cur, wr.heap[g]? = some (.cells cur 82 (0, 0)) := fun {g} e => by
          rcases HMr.out.row.2 with ⟨h', _⟩ | ⟨g', cap', cur', h', _, hh', _⟩
          · rw [h'] at e; simp [Value.ownBlock] at e
          · rw [h'] at e
            obtain rfl : g' = g := by simpa [Value.ownBlock] using e
            exact ⟨cur', hh'⟩
        have hset : ∀ k, k ≠ b → (w5.setCell ⟨b, 0, none⟩ (.slice (some ⟨g2, 0, none⟩) (R.length + 1) cap2)).heap[k]? = w5.heap[k]? := fun k hk => Below.heap_setCell w5 ⟨b, 0, none⟩ _ k hk
        have h5 : ∀ k, k < wr.heap.size → (Value.slice A R.length c).ownBlock ≠ some k → w5.heap[k]? = wr.heap[k]? := fun k hk hn => by
          rw [hgr.block k (Nat.lt_of_lt_of_le hk (below_alloc (Below.refl wr.drew.heap.size _) o).size) (fun e => hn e.symm)]
          exact (below_alloc (Below.refl wr.drew.heap.size _) o).block k hk
        have hg2b : g2 ≠ b := by
          rcases hown.2 with ⟨h', _⟩ | ⟨g', cap', cur', h', _, hh', _⟩
          · cases h'
          · cases h'
            exact two_blocks hh' hb5 (by decide)
        have hg1 : g1 < wr.heap.size := Nat.lt_of_lt_of_le (own_lt HRW1.out g1 rfl) HB.out.size
        obtain ⟨cg, hcg⟩ := row_block HRW1.out rfl
        have hcg2 : wr.heap[g1]? = some (.cells cg 5 (0, 0)) := (HB.out.block g1 (own_lt HRW1.out g1 rfl)).trans hcg
        have hg1b : g1 ≠ b := two_blocks hcg2 HMr.out.blk (by decide)
        have hg1v : (Value.slice A R.length c).ownBlock ≠ some g1 := fun e => by
          obtain ⟨c2, hc2⟩ := hblk2 e
          exact two_blocks hcg2 hc2 (by decide) rfl
        refine ⟨rfl, ⟨_, _, HM.out.push ⟨base, bs⟩ (g1, cap1) (fun k hk => .inl hk) (fun k hk hkb hkv => ?_) (blk_put hb5 0 _ rfl) ?_ ?_ (.inr HG1.out) ?_ HG1.out⟩, ?_⟩
        · rw [hset k hkb, h5 k (Nat.lt_of_lt_of_le hk HXr.out.size) hkv]
          exact HXr.out.block k hk
        · exact row_keep hown (fun k hk => by cases hk; exact hset g2 hg2b)
        · intro k hk
          obtain rfl : g2 = k := by simpa [Value.ownBlock] using hk
          rcases hat with h | h
          · exact .inl (HM.out.orow _ h)
          · right
            have := (below_alloc (Below.refl wr.drew.heap.size _) o).size
            have := HXr.out.size
            show X.heap.size ≤ g2
            rw [h]
            exact Nat.le_trans HXr.out.size (below_alloc (Below.refl wr.drew.heap.size wr.drew) o).size
        · refine own_weaken (row_keep HRW1.out (fun k hk => by cases hk; rw [hset g1 hg1b, h5 g1 hg1 hg1v]; exact HB.out.block g1 (own_lt HRW1.out g1 rfl))) hBX
        · refine (((below_out HXr.out own).trans (below_out (below_alloc (below_drew (Below.refl _ _)) o) own) (fun _ _ h => h)).trans (grown_out hgr) (fun k _ hk => HM.out.orow k hk)).trans (set_out w5 b 0 _) (fun k _ hk => by rw [hk]; exact HM.out.ob)⟩
      have hmd9 : (wr.alloc (.cells #[.int .u64 base, .slice (some ⟨g1, 0, none⟩) bs.length cap1] 82)).drew.cell? ⟨b, 0, none⟩ = some (.slice A R.length c) := pw_cell_below (below_alloc (Below.refl wr.drew.heap.size wr.drew) _) hmd
      clear hnb hbl'
      go_wp2_with fail
      go_region_law ((refine step_append_lies _ (by rfl) _ _ 28 (by rfl) B 82 i0 _ 2 32 Try.underlying28 hi hz0 hz1 hz2 (by rfl) (by decide) (.slice A R.length c) R.length (cells2 R ps) (by rfl) (HROWD.out.alloc _) ⟨wr.heap.size, 0, none⟩ 1 1 (cell2 ⟨base, bs⟩ (g1, cap1)) (by rfl) (by rfl) (World.news_of_block (heap_alloc_new wr.drew _)) cell2_one (by decide) (by unfold maxLen; omega) (by omega) (Nat.le_trans hBX2 (by simp)) _ rfl ?_; intro g2 cap2 w5 hown5 hgrow5 hat5 hlt5; have HB5 := Aside0.mk (HK5.out _ _ hgrow5); have hm5 := (blk1 HB5.out).1; have hf5 := (blk1 HB5.out).2; have HOWN5 := Aside0.mk hown5; have HGROW5 := Aside0.mk hgrow5; have HAT5 := Aside0.mk hat5; clear hown5 hgrow5 hat5 hlt5))
      all_goals
        have HQ := HFIN.out _ _ _ _ HOWN5.out HB5.out HGROW5.out HAT5.out
        go_wp2_with fail
        go_ret
        exact HQ.out
end Go.Proofs.Ytlolhmocimaobaa.PAll
