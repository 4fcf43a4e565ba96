/- The reference's Put. -/
import Derived.Test.YtlolhmocimaobaaRefW2
import Derived.Laws.OwnMore
import Derived.Deep.RegionHeld3
set_option linter.unusedVariables false
set_option linter.unusedSimpArgs false
namespace Go.Proofs.Ytlolhmocimaobaa.PAll
open Go.RowKit Go.Shelf Go.Proofs.YtlolhmocimaobaaW.PrintWords Go.Proofs.YtlolhmocimaobaaW.PrintLast Go.Proofs.YtlolhmocimaobaaW.PrintMore
theorem Out.drew {own : Nat → Prop} {X Y : World} (h : Out own X Y) : Out own X Y.drew := ⟨h.os, h.tape, h.output, h.size, h.block⟩
theorem nums_set (k : IntKind) (xs : List Int) (i : Nat) (x : Int) : nums k (xs.set i x) = (nums k xs).set i (.int k x) := by unfold nums; rw [List.map_set]
theorem splice_step (data bs : List Int) (off j : Nat) (hj : j < bs.length) (hf : off + bs.length ≤ data.length) : (splice data off (bs.take j)).set (off + j) (rd bs (j : Int)) = splice data off (bs.take (j + 1)) := by
  have e1 : bs.take (j + 1) = bs.take j ++ [rd bs (j : Int)] := by
    rw [List.take_add_one, List.getElem?_eq_getElem hj]
    unfold rd
    rw [Int.toNat_natCast, List.getD_eq_getElem?_getD, List.getElem?_eq_getElem hj]
    rfl
  have hl : (bs.take j).length = j := by rw [List.length_take]; omega
  unfold splice
  rw [e1]
  have hl2 : (data.take off).length = off := by rw [List.length_take]; omega
  rw [List.set_append_right _ _ (by omega), hl2, Nat.add_sub_cancel_left, List.set_append_right _ _ (by omega), hl, Nat.sub_self, List.length_append, hl, List.length_singleton]
  obtain ⟨y, hy⟩ : ∃ y, data[off + j]? = some y := ⟨_, List.getElem?_eq_getElem (by omega)⟩
  have hd : data.drop (off + j) = y :: data.drop (off + (j + 1)) := by
    rw [List.drop_eq_getElem_cons (by omega)]
    have : data[off + j] = y := by rw [List.getElem?_eq_getElem (by omega)] at hy; exact Option.some.inj hy
    rw [this]; rfl
  rw [hd, List.set_cons_zero, List.append_assoc]
  rfl
theorem cap_of_row {X : World} {B e n cap : Nat} {A : Option Addr} {xs : List Value} (h : X.ownsRow B e 1 (.slice A n cap) n xs) : n ≤ cap ∧ cap ≤ 9223372036854775807 := by
  rcases h.2 with ⟨h1, h2⟩ | ⟨g, c, cur, h1, _, _, h3, h4, _⟩
  · cases h1; omega
  · cases h1; exact ⟨h3, h4⟩
/-- One region's bytes turn; all else stands. -/
theorem RefIn.turn {X X' : World} {B : Nat} {own : Nat → Prop} {b : Nat} {R : List Reg} {v : Value} {ps : List (Nat × Nat)} (h : RefIn X B own b R v ps) {k : Nat} {p : Nat × Nat} {r : Reg} (hp : ps[k]? = some p) (hr : R[k]? = some r) (data : List Int) (hlen : data.length = r.data.length)
    (hX : ∀ i, i < X.heap.size → i ≠ p.1 → X'.heap[i]? = X.heap[i]?)
    (hrow : X'.ownsRow B 5 1 (.slice (some ⟨p.1, 0, none⟩) r.data.length p.2) r.data.length (nums .u8 data)) :
    RefIn X' B own b (R.set k { r with data := data }) v ps := by
  obtain ⟨ho, hro⟩ := h.reg k p r hp hr
  obtain ⟨cur, hcur⟩ := row_block hro rfl
  have hlt : ∀ {i : Nat} {o : Obj}, X.heap[i]? = some o → i < X.heap.size := fun hh => (Array.getElem?_eq_some_iff.1 hh).1
  have hk : k < R.length := (List.getElem?_eq_some_iff.1 hr).1
  have hrb : ∀ g, v.ownBlock = some g → ∃ cur, X.heap[g]? = some (.cells cur 82 (0, 0)) := by
    intro g hg
    rcases h.row.2 with ⟨rfl, _⟩ | ⟨g', cap, cur, rfl, _, hh, _⟩
    · simp [Value.ownBlock] at hg
    · obtain rfl : g' = g := by simpa [Value.ownBlock] using hg
      exact ⟨cur, hh⟩
  refine ⟨?_, h.ob, h.bb, ?_, h.orow, by rw [List.length_set]; exact h.len, ?_, h.nd⟩
  · rw [hX b (hlt h.blk) (two_blocks h.blk hcur (by decide))]; exact h.blk
  · rw [List.length_set]
    have e : cells2 (R.set k { r with data := data }) ps = cells2 R ps := by
      apply List.ext_getElem?
      intro j
      obtain ⟨i, hi⟩ : ∃ i, j = i * 2 ∨ j = i * 2 + 1 := ⟨j / 2, by omega⟩
      by_cases hil : i < R.length
      · obtain ⟨pi, hpi⟩ : ∃ pi, ps[i]? = some pi := ⟨_, List.getElem?_eq_getElem (by rw [h.len]; exact hil)⟩
        obtain ⟨ri, hri⟩ : ∃ ri, R[i]? = some ri := ⟨_, List.getElem?_eq_getElem hil⟩
        obtain ⟨c0, c1⟩ := cells2_at R ps i _ _ hri hpi
        by_cases hik : i = k
        · subst hik
          obtain ⟨d0, d1⟩ := cells2_at (R.set i { r with data := data }) ps i _ _ (List.getElem?_set_self hk) hpi
          have hrr : ri = r := by rw [hri] at hr; exact Option.some.inj hr
          rcases hi with rfl | rfl
          · rw [d0, c0, hrr]
          · rw [d1, c1, hrr]; show _ = some (Value.slice _ r.data.length _); rw [← hlen]
        · obtain ⟨d0, d1⟩ := cells2_at (R.set k { r with data := data }) ps i ri _ (by rw [List.getElem?_set_ne (by omega)]; exact hri) hpi
          rcases hi with rfl | rfl
          · rw [d0, c0]
          · rw [d1, c1]
      · rw [List.getElem?_eq_none (by rw [cells2_len _ _ (by rw [List.length_set]; exact h.len), List.length_set]; omega), List.getElem?_eq_none (by rw [cells2_len _ _ h.len]; omega)]
    rw [e]
    exact row_keep h.row (fun g hg => by obtain ⟨c2, hc2⟩ := hrb g hg; exact hX g (hlt hc2) (two_blocks hc2 hcur (by decide)))
  · intro i q s hq hs
    by_cases hik : i = k
    · subst hik
      rw [hp] at hq
      cases hq
      rw [List.getElem?_set_self hk] at hs
      cases hs
      refine ⟨ho, ?_⟩
      show X'.ownsRow B _ 1 (.slice (some ⟨p.1, 0, none⟩) data.length p.2) data.length _
      rw [hlen]
      exact hrow
    · rw [List.getElem?_set_ne (by omega)] at hs
      obtain ⟨hg, hro2⟩ := h.reg i q s hq hs
      have hne : q.1 ≠ p.1 := by
        intro he
        have e1 : (ps.map (·.1))[i]? = some q.1 := by rw [List.getElem?_map, hq]; rfl
        have e2 : (ps.map (·.1))[k]? = some p.1 := by rw [List.getElem?_map, hp]; rfl
        have hil : i < (ps.map (·.1)).length := (List.getElem?_eq_some_iff.1 e1).1
        exact hik ((List.getElem?_inj hil h.nd).1 (by rw [e1, e2, he]))
      exact ⟨hg, row_keep hro2 (fun g hg' => by cases hg'; exact hX q.1 (own_lt hro2 q.1 rfl) hne)⟩
def RPutPost (X : World) (B : Nat) (own : Nat → Prop) (b : Nat) (R : List Reg) (a : Int) (bs : List Int) (e : Ending) (X' : World) : Prop :=
  match putF R a bs with
  | none => e = .returned (.bool false) ∧ Below X.heap.size X X'
  | some R' => e = .returned (.bool true) ∧ RefAt X' B own b R' ∧ Out own X X'
theorem ref_Put_none (X : World) (B : Nat) (own : Nat → Prop) (b : Nat) (R : List Reg) (v : Value) (ps : List (Nat × Nat)) (a : Int) (A0 : Option Addr) (c0 nn : Nat) (h : RefIn X B own b R v ps) (hW : ∀ r ∈ R, Ok r) (hl : R.length ≤ 1000000) (ha0 : 0 ≤ a) (ha1 : a < 18446744073709551616) (hn1 : nn < 4294967296) (hf : R.findIdx? (hitR a nn) = none) :
    Calls Try.prog 27 #[.pointer (some ⟨b, 0, none⟩), .int .u64 a, .slice A0 nn c0] X fun e X' => e = .returned (.bool false) ∧ Below X.heap.size X X' := by
  have HF := Aside0.mk (ref_Find X B own b R v ps a nn h hW hl ha0 ha1 (by omega) (by omega))
  rw [findR_none hf] at HF
  clear h hW ha0 ha1 hn1 hf
  go_enter Try.func27, Try.ntmps27
  go_wp2_with fail
  refine HF.out.mono ?_
  rintro e w1 ⟨rfl, hb1⟩
  go_wp2_with fail
  go_ret
  exact ⟨rfl, hb1⟩
set_option maxHeartbeats 4000000 in
set_option maxRecDepth 100000 in
theorem ref_Put_some (X : World) (B : Nat) (own : Nat → Prop) (b : Nat) (R : List Reg) (v : Value) (ps : List (Nat × Nat)) (a : Int) (A0 : Option Addr) (c0 nn k : Nat) (bs : List Int) (hbl : bs.length = nn) (r : Reg) (h : RefIn X B own b R v ps) (hW : ∀ r ∈ R, Ok r) (hl : R.length ≤ 1000000) (ha0 : 0 ≤ a) (ha1 : a < 18446744073709551616) (hn1 : nn < 4294967296) (hf : R.findIdx? (hitR a nn) = some k) (hr : R[k]? = some r) (hh : hitR a nn r = true)
    (hr0 : Kd.C (Kd.int .u8) X A0 nn bs) (hA : ∀ ad, A0 = some ad → ¬ own ad.block) :
    Calls Try.prog 27 #[.pointer (some ⟨b, 0, none⟩), .int .u64 a, .slice A0 nn c0] X fun e X' => e = .returned (.bool true) ∧ RefAt X' B own b (R.set k { r with data := splice r.data (a - r.base).toNat bs }) ∧ Out own X X' := by
  have HF := Aside0.mk (ref_Find X B own b R v ps a nn h hW hl ha0 ha1 (by omega) (by omega))
  rw [findR_some hf] at HF
  obtain ⟨h1, h2, h3⟩ := hit_iff.1 hh
  obtain ⟨off, hoff⟩ : ∃ off : Nat, (a - r.base).toNat = off := ⟨_, rfl⟩
  have hao : a - r.base = off := by omega
  rw [hoff]
  have hkl := (List.getElem?_eq_some_iff.1 hr).1
  obtain ⟨p, r', g, cap, hp, hr', hv, hc0, hc1, hcap, hcm, hop, hro⟩ := h.get hkl
  rw [hr] at hr'
  cases hr'
  cases hv
  have HM := Aside0.mk h
  have HRO := Aside0.mk hro
  have hsh := (hW r (List.mem_of_getElem? hr)).short
  have HWO : Aside0 (∀ j : Nat, j < nn → IntKind.u64.wrap (IntKind.u64.wrap (off : Int) + IntKind.u64.wrap (j : Int)) = ((off + j : Nat) : Int)) := ⟨fun j hj => by rw [u64_mod, u64_mod, u64_mod, Int.emod_eq_of_lt (a := (off : Int)) (by omega) (by omega), Int.emod_eq_of_lt (a := (j : Int)) (by omega) (by omega), Int.emod_eq_of_lt (by omega) (by omega)]; omega⟩
  have HFIT : Aside0 (off + nn ≤ r.data.length) := ⟨by omega⟩
  have HAO := Aside0.mk hao
  have HC0 := Aside0.mk hc0
  have HC1 := Aside0.mk hc1
  have HM0 := Aside0.mk (blk1 h.blk).1
  have HP := Aside0.mk hp
  have HR := Aside0.mk hr
  have HOP := Aside0.mk hop
  have HR0 := Aside0.mk hr0
  have HBL := Aside0.mk hbl
  have HA := Aside0.mk hA
  obtain ⟨cur, hcur⟩ := row_block hro rfl
  have hgb : ∃ c2, X.heap[g]? = some (.cells c2 82 (0, 0)) := by
    rcases h.row.2 with ⟨h', _⟩ | ⟨g', cap', cur', h', _, hh', _⟩
    · cases h'
    · cases h'; exact ⟨cur', hh'⟩
  have HBP : Aside0 (b ≠ p.1) := ⟨two_blocks h.blk hcur (by decide)⟩
  have HGP : Aside0 (g ≠ p.1) := ⟨by obtain ⟨c2, hc2⟩ := hgb; exact two_blocks hc2 hcur (by decide)⟩
  clear h hW ha0 ha1 hf hh h1 h2 h3 hoff hsh hc0 hc1 hop hro hr hp hao hr0 hbl hA hcur hgb
  go_enter Try.func27, Try.ntmps27
  go_wp2_with fail
  refine HF.out.mono ?_
  rintro e w1 ⟨rfl, hb1⟩
  go_wp2_with fail
  go_loopw [8] (fun v8 wr => ∃ j : Nat, j ≤ nn ∧ v8 = .int .i64 j ∧ Aside0 (Out (fun z => z = p.1) X wr) ∧ Aside0 (wr.ownsRow B 5 1 (.slice (some ⟨p.1, 0, none⟩) r.data.length p.2) r.data.length (nums .u8 (splice r.data off (bs.take j))))) (fun v8 _ => nn - (intOf v8).toNat)
  case atStart => exact ⟨0, Nat.zero_le _, rfl, ⟨below_out hb1 _⟩, ⟨by
    have e0 : splice r.data off (bs.take 0) = r.data := by simp [splice]
    rw [e0]
    exact row_keep HRO.out (fun z hz => by cases hz; exact hb1.block p.1 (own_lt HRO.out p.1 rfl))⟩⟩
  case round =>
    obtain ⟨j, hj, rfl, HO, HS⟩ := hrel
    by_cases hlt : j < nn
    · have hkeep : ∀ (z o : Nat) (u : Value), z ≠ p.1 → X.cell? ⟨z, o, none⟩ = some u → wr.drew.cell? ⟨z, o, none⟩ = some u := fun z o u hz hu => by
        have := HO.out.block z (World.block_lt_of_cell? X _ hu) hz
        show wr.cell? _ = _
        unfold World.cell? at hu ⊢
        rw [this]
        exact hu
      have hmd : wr.drew.cell? ⟨b, 0, none⟩ = some (.slice (some ⟨g, 0, none⟩) R.length cap) := hkeep _ _ _ HBP.out HM0.out
      have hcd0 : wr.drew.cell? ⟨g, k * 2, none⟩ = some (.int .u64 r.base) := hkeep _ _ _ HGP.out HC0.out
      have hcd1 : wr.drew.cell? ⟨g, k * 2 + 1, none⟩ = some (.slice (some ⟨p.1, 0, none⟩) r.data.length p.2) := hkeep _ _ _ HGP.out HC1.out
      have hsrc : ∃ ad, A0 = some ad ∧ wr.drew.cell? (ad.add j) = some (.int .u8 (rd bs (j : Int))) := by
        obtain ⟨ad, e, hx⟩ := Kd.at_int HR0.out (j : Int) (by omega) (by omega)
        refine ⟨ad, e, ?_⟩
        rw [Int.toNat_natCast] at hx
        have hb' : (ad.add j).block = ad.block := by unfold Addr.add; split <;> rfl
        have := HO.out.block (ad.add j).block (World.block_lt_of_cell? X _ hx) (fun h' => HA.out ad e (by rw [← hb', h']; exact HOP.out))
        show wr.cell? _ = _
        unfold World.cell? at hx ⊢
        rw [this]
        exact hx
      obtain ⟨ad, rfl, hsrc⟩ := hsrc
      have hwj := HWO.out j hlt
      obtain ⟨q, hq⟩ : ∃ q : Nat, off + j = q := ⟨_, rfl⟩
      have hql : q < r.data.length := by have := HFIT.out; omega
      have hq0 : (0 : Int) ≤ (q : Int) := by omega
      have hq1 : (q : Int) < (r.data.length : Int) := by omega
      rw [hq] at hwj
      have HQ := Aside0.mk hq
      have hold : ∃ u, wr.drew.cell? ⟨p.1, q, none⟩ = some u := ⟨_, by
        show wr.cell? _ = _
        rw [HS.out.cellAt q (by omega), List.getElem?_eq_getElem (by rw [nums_length, length_splice _ _ _ (by rw [List.length_take]; have := HFIT.out; omega)]; exact hql)]⟩
      obtain ⟨u0, hold⟩ := hold
      have hfro : wr.drew.frozen? ⟨p.1, q, none⟩ = false := HS.out.frozenAt q
      have hao := HAO.out
      clear hq hkeep
      go_wp2_with fail
      have HK : Aside0 (∀ (z : Addr) (u x : Value), z.block ≠ p.1 → wr.drew.cell? z = some u → (wr.setCell ⟨p.1, q, none⟩ x).drew.cell? z = some u) := ⟨fun z u x hz hu => by
        show (wr.setCell _ _).cell? _ = _
        rw [World.cell?_setCell_far _ _ _ _ (fun h => hz h.symm)]
        exact hu⟩
      have HAD : Aside0 ((ad.add j).block ≠ p.1) := ⟨fun h => by
        have hb' : (ad.add j).block = ad.block := by unfold Addr.add; split <;> rfl
        exact HA.out ad rfl (by rw [← hb', h]; exact HOP.out)⟩
      go_region_held3 (fun w' => w'.cell? ⟨b, 0, none⟩ = some (.slice (some ⟨g, 0, none⟩) R.length cap) ∧ w'.cell? ⟨g, k * 2, none⟩ = some (.int .u64 r.base) ∧ w'.cell? ⟨g, k * 2 + 1, none⟩ = some (.slice (some ⟨p.1, 0, none⟩) r.data.length p.2) ∧ w'.cell? (ad.add j) = some (.int .u8 (rd bs (j : Int)))) ((first | exact ⟨hmd, hcd0, hcd1, hsrc⟩ | exact ⟨HK.out _ _ _ HBP.out hmd, HK.out _ _ _ HGP.out hcd0, HK.out _ _ _ HGP.out hcd1, HK.out _ _ _ HAD.out hsrc⟩)) (fail)
      go_wp2_with fail
      refine ⟨⟨j + 1, by omega, by congr 1, ⟨?_⟩, ⟨?_⟩⟩, by simp [intOf]; omega⟩
      · exact (HO.out.trans (set_out wr p.1 q (.int .u8 (rd bs (j : Int)))) (fun _ _ h => h)).drew
      · rw [← splice_step r.data bs off j (by rw [HBL.out]; exact hlt) (by rw [HBL.out]; exact HFIT.out), nums_set, HQ.out]
        exact (HS.out.stored q (.int .u8 (rd bs (j : Int)))).1
    · obtain rfl : j = nn := by omega
      have HS2 := HS.out
      rw [List.take_of_length_le (by rw [HBL.out]; exact Nat.le_refl _)] at HS2
      have HS3 := Aside0.mk HS2
      clear HS2
      go_wp2_with fail
      go_ret
      refine ⟨rfl, ⟨_, ps, HM.out.turn HP.out HR.out _ (length_splice _ _ _ (by rw [HBL.out]; exact HFIT.out)) (fun i hi hne => HO.out.block i hi hne) HS3.out⟩, HO.out.mono (fun i _ h => by rw [h]; exact HOP.out)⟩
set_option maxHeartbeats 1000000 in
theorem ref_Put (X : World) (B : Nat) (own : Nat → Prop) (b : Nat) (R : List Reg) (a : Int) (A0 : Option Addr) (c0 : Nat) (bs : List Int) (h : RefAt X B own b R) (hW : ∀ r ∈ R, Ok r) (hl : R.length ≤ 1000000) (ha0 : 0 ≤ a) (ha1 : a < 18446744073709551616) (hbl : bs.length < 4294967296)
    (hr0 : Kd.C (Kd.int .u8) X A0 bs.length bs) (hA : 0 < bs.length → ∀ ad, A0 = some ad → ¬ own ad.block) :
    Calls Try.prog 27 #[.pointer (some ⟨b, 0, none⟩), .int .u64 a, .slice A0 bs.length c0] X (RPutPost X B own b R a bs) := by
  obtain ⟨v, ps, h⟩ := h
  unfold RPutPost putF
  cases hf : R.findIdx? (hitR a bs.length) with
  | none => exact ref_Put_none X B own b R v ps a A0 c0 bs.length h hW hl ha0 ha1 hbl hf
  | some k =>
    obtain ⟨hk, hh, _⟩ := List.findIdx?_eq_some_iff_getElem.1 hf
    have hr : R[k]? = some R[k] := List.getElem?_eq_getElem hk
    dsimp only
    rw [hr]
    exact ref_Put_some X B own b R v ps a A0 c0 bs.length k bs rfl R[k] h hW hl ha0 ha1 hbl hf hr hh hr0 (hA (by have := (hit_iff.1 hh).1; omega))
end Go.Proofs.Ytlolhmocimaobaa.PAll
