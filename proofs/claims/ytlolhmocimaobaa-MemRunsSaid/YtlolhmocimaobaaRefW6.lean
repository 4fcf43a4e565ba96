/- The reference's Remove. -/
import Derived.Test.YtlolhmocimaobaaRefW5
set_option linter.unusedVariables false
set_option linter.unusedSimpArgs false
namespace Go.Proofs.Ytlolhmocimaobaa.PAll
open Go.RowKit Go.Shelf Go.Proofs.YtlolhmocimaobaaW.PrintWords Go.Proofs.YtlolhmocimaobaaW.PrintLast Go.Proofs.YtlolhmocimaobaaW.PrintMore
def remR (R : List Reg) (base : Int) : List Reg := R.filter (fun r => decide (r.base ≠ base))
def keptZ (base : Int) (z : Reg × (Nat × Nat)) : Bool := decide (z.1.base ≠ base)
def zk (R : List Reg) (ps : List (Nat × Nat)) (base : Int) (k : Nat) : List (Reg × (Nat × Nat)) := ((R.zip ps).take k).filter (keptZ base)
theorem zk_at {R : List Reg} {ps : List (Nat × Nat)} {base : Int} {k : Nat} {r : Reg} {p : Nat × Nat} (hr : R[k]? = some r) (hp : ps[k]? = some p) : zk R ps base (k + 1) = zk R ps base k ++ (if r.base ≠ base then [(r, p)] else []) := by
  unfold zk
  have e : (R.zip ps)[k]? = some (r, p) := by rw [List.getElem?_zip_eq_some]; exact ⟨hr, hp⟩
  rw [List.take_add_one, e, List.filter_append]
  congr 1
  by_cases h : r.base = base
  · simp [keptZ, h]
  · simp [keptZ, h]
theorem zk_all {R : List Reg} {ps : List (Nat × Nat)} {base : Int} (hl : ps.length = R.length) : (zk R ps base R.length).map (·.1) = remR R base := by
  unfold zk remR
  rw [List.take_of_length_le (by rw [List.length_zip]; omega)]
  have : ∀ (R : List Reg) (ps : List (Nat × Nat)), ps.length = R.length → ((R.zip ps).filter (keptZ base)).map (·.1) = R.filter (fun r => decide (r.base ≠ base)) := by
    intro R
    induction R with
    | nil => intro ps _; simp
    | cons r R ih =>
      intro ps hl
      cases ps with
      | nil => simp at hl
      | cons p ps =>
        have := ih ps (by simpa using hl)
        by_cases h : r.base = base
        · simpa [keptZ, h] using this
        · simpa [keptZ, h] using this
  exact this R ps hl
theorem zk_mem {R : List Reg} {ps : List (Nat × Nat)} {base : Int} {k i : Nat} {z : Reg × (Nat × Nat)} (h : (zk R ps base k)[i]? = some z) : ∃ j : Nat, R[j]? = some z.1 ∧ ps[j]? = some z.2 := by
  have hm : z ∈ zk R ps base k := List.mem_of_getElem? h
  unfold zk at hm
  have hm2 := List.mem_of_mem_take (List.mem_filter.1 hm |>.1)
  obtain ⟨j, hj⟩ := List.mem_iff_getElem?.1 hm2
  rw [List.getElem?_zip_eq_some] at hj
  exact ⟨j, hj⟩
theorem zk_len {R : List Reg} {ps : List (Nat × Nat)} {base : Int} (k : Nat) : (zk R ps base k).length ≤ k := by
  unfold zk
  exact Nat.le_trans (List.length_filter_le _ _) (by rw [List.length_take]; omega)
theorem zk_nd {R : List Reg} {ps : List (Nat × Nat)} {base : Int} (hl : ps.length = R.length) (h : (ps.map (·.1)).Nodup) : (((zk R ps base R.length).map (·.2)).map (·.1)).Nodup := by
  have e : ps = (R.zip ps).map (·.2) := by rw [List.map_snd_zip (by omega)]
  unfold zk
  rw [List.take_of_length_le (by rw [List.length_zip]; omega)]
  refine List.Nodup.sublist ?_ h
  rw [show (ps.map (·.1)) = ((R.zip ps).map (·.2)).map (·.1) by rw [← e]]
  exact (List.filter_sublist.map _).map _
def RemRPost (X : World) (B : Nat) (own : Nat → Prop) (b : Nat) (R : List Reg) (base : Int) (e : Ending) (X' : World) : Prop :=
  e = .returned (.bool (decide ((remR R base).length < R.length))) ∧ RefAt X' B (orNew own X) b (remR R base) ∧ Out own X X'
set_option maxHeartbeats 4000000 in
set_option maxRecDepth 100000 in
theorem ref_Remove (X : World) (B : Nat) (own : Nat → Prop) (b : Nat) (R : List Reg) (base : Int) (h : RefAt X B own b R) (hl : R.length ≤ 1000000) (hBX : B ≤ X.heap.size) :
    Calls Try.prog 23 #[.pointer (some ⟨b, 0, none⟩), .int .u64 base] X (RemRPost X B own b R base) := by
  obtain ⟨v, ps, hM⟩ := h
  obtain ⟨A, c, rfl⟩ := own_slice hM.row
  have HM := Aside0.mk hM
  obtain ⟨i0, hi, hz0, hz1, hz2⟩ := info_parts infoReg
  clear hM
  go_enter Try.func23, Try.ntmps23
  go_wp2_with fail
  go_loopw [5, 6] (fun v5 v6 wr => ∃ k : Nat, k ≤ R.length ∧ v6 = .int .i64 k ∧ Aside0 (Below X.heap.size X wr) ∧ Aside0 (wr.ownsRow X.heap.size 82 2 v5 (zk R ps base k).length (cells2 ((zk R ps base k).map (·.1)) ((zk R ps base k).map (·.2))))) (fun _ v6 _ => R.length - (intOf v6).toNat)
  case atStart => exact ⟨0, Nat.zero_le _, rfl, ⟨Below.refl _ _⟩, ⟨World.ownsRow_nil _ _ _ _⟩⟩
  case round =>
    obtain ⟨k, hk, rfl, HB, HO⟩ := hrel
    have HMr := Aside0.mk (HM.out.below HB.out)
    have hm0 := (blk1 HMr.out.blk).1
    by_cases hlt : k < R.length
    · obtain ⟨p, r, g, cap, hp, hr, hv, hc0, hc1, hcap, hcm, hop, hro⟩ := HMr.out.get hlt
      cases hv
      have HZ := Aside0.mk (zk_at (base := base) hr hp)
      have HZL := Aside0.mk (zk_len (R := R) (ps := ps) (base := base) k)
      clear hr hp hro hop hcap hcm
      by_cases hne : r.base = base
      · have hnb : (r.base != base) = false := by simp [hne]
        have HZ2 : Aside0 (zk R ps base (k + 1) = zk R ps base k) := ⟨by rw [HZ.out, if_neg (by simp [hne])]; simp⟩
        clear hne
        go_wp2_with fail
        refine ⟨⟨k + 1, by omega, by congr 1, HB, ⟨?_⟩⟩, by simp [intOf]; omega⟩
        rw [HZ2.out]
        exact HO.out
      · have hnb : (r.base != base) = true := by simp [hne]
        have HZ2 : Aside0 (zk R ps base (k + 1) = zk R ps base k ++ [(r, p)]) := ⟨by rw [HZ.out, if_pos hne]⟩
        clear hne
        have HALL : Aside0 (X.heap.size ≤ (wr.alloc (.cells (cell2 r p).toArray 82)).heap.size) := ⟨Nat.le_trans HB.out.size (below_alloc (Below.refl _ _) _).size⟩
        obtain ⟨zn, hzn⟩ : ∃ zn, (zk R ps base k).length = zn := ⟨_, rfl⟩
        have HZN := Aside0.mk hzn
        rw [hzn] at HO
        have hzl : zn ≤ 1000000 := by have := HZL.out; omega
        clear hzn
        go_wp2_with (at_builtin; refine wpList_append_own_at _ rfl _ _ 28 rfl X.heap.size 82 i0 _ 2 32 Try.underlying28 hi hz0 hz1 hz2 rfl (by decide) _ zn _ rfl (HO.out.alloc _) ⟨wr.heap.size, 0, none⟩ 1 1 (cell2 r p) rfl rfl (World.news_of_block (heap_alloc_new _ _)) cell2_one (by unfold maxLen; omega) (by omega) HALL.out ?_; intro v' w2 hown' hgrow hnil hloc)
        have HB2 : Below X.heap.size X w2 := (HB.out.alloc HB.out.size _).grown hgrow HALL.out (fun z hz => own_base HO.out z hz)
        refine ⟨⟨k + 1, by omega, by congr 1, ⟨HB2⟩, ⟨?_⟩⟩, by simp [intOf]; omega⟩
        rw [HZ2.out, List.map_append, List.map_append, List.length_append, HZN.out]
        show w2.ownsRow _ _ _ _ _ (cells2 (_ ++ [r]) (_ ++ [p]))
        rw [cells2_append _ _ _ _ (by rw [List.length_map, List.length_map])]
        exact hown'
    · obtain rfl : k = R.length := by omega
      have HREM := Aside0.mk (zk_all (base := base) HM.out.len)
      have HRL : Aside0 ((zk R ps base R.length).length = (remR R base).length) := ⟨by rw [← HREM.out, List.length_map]⟩
      rw [HRL.out] at HO
      have HO2 := HO.out
      obtain ⟨A5, c5, rfl⟩ := own_slice HO2
      have hfro := (blk1 HMr.out.blk).2
      clear HO2
      go_wp2_with fail
      have HQ : Aside0 (RemRPost X B own b R base (.returned (.bool (decide ((remR R base).length < R.length)))) (wr.setCell ⟨b, 0, none⟩ (.slice A5 (remR R base).length c5))) := ⟨by
        have hset : ∀ k, k ≠ b → (wr.setCell ⟨b, 0, none⟩ (.slice A5 (remR R base).length c5)).heap[k]? = wr.heap[k]? := fun k hk => Below.heap_setCell wr ⟨b, 0, none⟩ _ k hk
        have hv5 : ∀ k, (Value.slice A5 (remR R base).length c5).ownBlock = some k → X.heap.size ≤ k ∧ k ≠ b := fun k hk => by
          refine ⟨own_base HO.out k hk, ?_⟩
          have := own_base HO.out k hk
          have := (Array.getElem?_eq_some_iff.1 HM.out.blk).1
          omega
        refine ⟨rfl, ⟨_, (zk R ps base R.length).map (·.2), blk_put HMr.out.blk 0 _ rfl, .inl HM.out.ob, HM.out.bb, ?_, fun k hk => .inr (hv5 k hk).1, by rw [List.length_map, HRL.out], ?_, zk_nd HM.out.len HM.out.nd⟩, ?_⟩
        · refine own_weaken (row_keep ?_ (fun k hk => hset k (hv5 k hk).2)) hBX
          rw [← HREM.out]
          rw [← HREM.out] at HO
          exact HO.out
        · intro i p r hp hr
          rw [← HREM.out] at hr
          rw [List.getElem?_map] at hp hr
          cases hz : (zk R ps base R.length)[i]? with
          | none => rw [hz] at hp; cases hp
          | some z =>
            rw [hz] at hp hr
            cases hp; cases hr
            obtain ⟨j, hj1, hj2⟩ := zk_mem hz
            obtain ⟨g1, g2⟩ := HMr.out.reg j _ _ hj2 hj1
            refine ⟨.inl g1, row_keep g2 (fun k hk => by
              cases hk
              refine hset _ ?_
              obtain ⟨c, hc⟩ := row_block g2 rfl
              exact two_blocks hc HMr.out.blk (by decide))⟩
        · exact (below_out HB.out own).trans (set_out wr b 0 _) (fun k _ hk => by rw [hk]; exact HM.out.ob)⟩
      go_ret
      exact HQ.out
end Go.Proofs.Ytlolhmocimaobaa.PAll
