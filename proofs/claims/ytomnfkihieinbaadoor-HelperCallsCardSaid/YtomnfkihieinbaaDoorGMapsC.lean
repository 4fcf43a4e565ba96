/- The texts MapsLNil, MapsChk, MapsKeepF, MapsApF of this claim, joined. -/
import Derived.Test.YtomnfkihieinbaaDoorGMapsB
import Derived.Test.YtomnfkihieinbaaDoorPAllx2
/- maps: the law MapsNil. -/
set_option linter.unusedVariables false
set_option linter.unusedSimpArgs false
namespace Go.Proofs.YtomnfkihieinbaaDoor.PAll
open Go.RowKit Go.Shelf Go.Maps Go.Proofs.YtomnfkihieinbaaDoorW.PrintWords Go.Proofs.YtomnfkihieinbaaDoorW.PrintLast Go.Proofs.YtomnfkihieinbaaDoorW.PrintMore
theorem handle_c (i : Int) (r : Int) (w : World) (h : maps_Handle.f i = some r) : Calls Tryd.prog 10 #[.int .i64 i] w fun e w' => e = .returned (.int .u64 r) ∧ ∃ k, w' = w.drewN k :=
  (maps_Handle.calls i r w h).mono fun e w' ⟨h1, h2⟩ => ⟨h1, by obtain ⟨k, hk⟩ := h2.out; exact ⟨k, hk⟩⟩
end Go.Proofs.YtomnfkihieinbaaDoor.PAll
/- maps: the check of declarations. -/
set_option linter.unusedVariables false
set_option linter.unusedSimpArgs false
namespace Go.Proofs.YtomnfkihieinbaaDoor.PAll
open Go.RowKit Go.Shelf Go.Maps Go.Proofs.YtomnfkihieinbaaDoorW.PrintWords Go.Proofs.YtomnfkihieinbaaDoorW.PrintLast Go.Proofs.YtomnfkihieinbaaDoorW.PrintMore
theorem sizes_eq (d : S28) : slotcoderef09_Sizes.f d.f0 d.f1 d.f2 d.f3 = some (sizesB d) := by
  unfold slotcoderef09_Sizes.f sizesB inR
  by_cases h1 : d.f1 ≥ 1
  · by_cases h2 : d.f1 ≤ 64
    · by_cases h3 : d.f2 ≥ 1
      · by_cases h4 : d.f2 ≤ 256
        · by_cases h5 : d.f3 ≥ 1
          · rw [if_pos h1, if_pos h2, if_pos h3, if_pos h4, if_pos h5]
            congr 1
            simp [h1, h2, h3, h4, h5, ge_iff_le.1 h1, ge_iff_le.1 h3, ge_iff_le.1 h5]
          · rw [if_pos h1, if_pos h2, if_pos h3, if_pos h4, if_neg h5]
            congr 1
            have : ¬ 1 ≤ d.f3 := h5
            simp [this]
        · rw [if_pos h1, if_pos h2, if_pos h3, if_neg h4]
          congr 1
          simp [h4]
      · rw [if_pos h1, if_pos h2, if_neg h3]
        congr 1
        have : ¬ 1 ≤ d.f2 := h3
        simp [this]
    · rw [if_pos h1, if_neg h2]
      congr 1
      simp [h2]
  · rw [if_neg h1]
    congr 1
    have : ¬ 1 ≤ d.f1 := h1
    simp [this]
def checkF (ds : List S28) : Int := if (ds.length : Int) > 255 then 16 else if ds.all sizesB = true then 0 else 9
theorem check_l0 (ds : List S28) (hm : ds.length ≤ 255) (t : List S28) : ∀ (i k : Nat), ds.drop i = t → t.length < k → i ≤ ds.length → slotcoderef21_Check.l0 k ds (i : Int) = some (if t.all sizesB = true then 0 else 9) := by
  induction t with
  | nil =>
    intro i k ht hk hi
    obtain ⟨k, rfl⟩ : ∃ m, k = m + 1 := ⟨k - 1, by simp at hk; omega⟩
    have : ds.length ≤ i := List.drop_eq_nil_iff.mp ht
    simp only [slotcoderef21_Check.l0]
    rw [if_neg (by omega)]
    rfl
  | cons d r ih =>
    intro i k ht hk hi
    obtain ⟨k, rfl⟩ : ∃ m, k = m + 1 := ⟨k - 1, by simp at hk; omega⟩
    obtain ⟨hd, hlt, _⟩ := drop_next ht
    have hrd : rd_T28 ds (i : Int) = d := by
      have : ds[i]? = some d := by rw [← List.head?_drop, ht]; rfl
      unfold rd_T28
      rw [Int.toNat_natCast, List.getD_eq_getElem?_getD, this]
      rfl
    simp only [slotcoderef21_Check.l0]
    rw [if_pos (by omega), if_pos (by omega), hrd, sizes_eq, Option.bind_some, w64 _ (by omega) (by omega), show (i : Int) + 1 = ((i + 1 : Nat) : Int) by omega, ih (i + 1) k hd (by simp at hk; omega) (by omega)]
    cases hs : sizesB d <;> simp [hs]
theorem check_c (ds : List S28) (A0 : Option Addr) (c0 : Nat) (w : World) (hr : Kd.C k28 w A0 ds.length ds) (hc : ds.length ≤ c0) (r : Int) (h : checkF ds = r) :
    Calls Tryd.prog 24 #[.slice A0 ds.length c0] w fun e w' => e = .returned (.int .i64 r) ∧ Below w.heap.size w w' := by
  refine slotcoderef21_Check.calls (ds.length + 1) A0 c0 ds r w hr hc ?_
  rw [← h]
  unfold slotcoderef21_Check.f checkF
  by_cases hl : (ds.length : Int) > 255
  · rw [if_pos hl, if_pos hl]
  · rw [if_neg hl, if_neg hl]
    exact check_l0 ds (by omega) ds 0 (ds.length + 1) rfl (by omega) (by omega)
end Go.Proofs.YtomnfkihieinbaaDoor.PAll
/- maps: what MapsKeep computes. -/
set_option linter.unusedVariables false
set_option linter.unusedSimpArgs false
namespace Go.Proofs.YtomnfkihieinbaaDoor.PAll
open Go.RowKit Go.Shelf Go.Maps Go.Proofs.YtomnfkihieinbaaDoorW.PrintWords Go.Proofs.YtomnfkihieinbaaDoorW.PrintLast Go.Proofs.YtomnfkihieinbaaDoorW.PrintMore
section
variable {kl vl n next : Int} {ents : List (List Int × Int)} {K : List Reg} {key value : List Int}
end
theorem sizes_iff (d : S28) : sizesB d = true ↔ (1 ≤ d.f1 ∧ d.f1 ≤ 64) ∧ (1 ≤ d.f2 ∧ d.f2 ≤ 256) ∧ (1 ≤ d.f3 ∧ d.f3 ≤ 1024) := by
  unfold sizesB inR
  simp only [Bool.and_eq_true, decide_eq_true_eq, and_assoc]
theorem LM.up {B N M : Nat} {X : World} {t m : Nat} {S : List MapS} {K : List Reg} (h : LM B N X t m S K) (hN : N ≤ M) : LM B M X t m S K := ⟨h.1, ⟨h.2.1.1, fun s hs => (h.2.1.2 s hs).more hN⟩, h.2.2⟩
/-- The same with the blocks named that are nobody's. -/
def LMF (B N : Nat) (F : Nat → Prop) (X : World) (t m : Nat) (S : List MapS) (K : List Reg) : Prop := B ≤ X.heap.size ∧ GoodS N S ∧ (∀ k, k < B → F k) ∧ MM X F t m S K
theorem LMF.lm {B N : Nat} {F : Nat → Prop} {X : World} {t m : Nat} {S : List MapS} {K : List Reg} (h : LMF B N F X t m S K) : LM B N X t m S K := ⟨h.1, h.2.1, F, h.2.2.1, h.2.2.2⟩
theorem LMF.below {B N : Nat} {F : Nat → Prop} {X X' : World} {t m : Nat} {S : List MapS} {K : List Reg} (h : LMF B N F X t m S K) (hb : Below X.heap.size X X') : LMF B N F X' t m S K := ⟨Nat.le_trans h.1 hb.size, h.2.1, h.2.2.1, h.2.2.2.below hb⟩
theorem lf_update (w : World) (B N : Nat) (F : Nat → Prop) (t m : Nat) (S : List MapS) (K : List Reg) (i : Int) (A1 A2 : Option Addr) (c1 c2 : Nat) (key value : List Int) (h : LMF B N F w t m S K) (hN : N ≤ 10000) (hK : K.length ≤ 99999)
    (hk : Kd.C (Kd.int .u8) w A1 key.length key) (hA1 : ∀ ad, A1 = some ad → 0 < key.length → F ad.block) (hkb : IsBytes key) (hkl : key.length ≤ 65536) (hv : Kd.C (Kd.int .u8) w A2 value.length value) (hA2 : ∀ ad, A2 = some ad → 0 < value.length → F ad.block) (hvb : IsBytes value) (hvc : value.length ≤ c2) (hvs : value.length ≤ 65536)
    (r : Int) (S' : List MapS) (K' : List Reg) (hr : updR S i key value = r) (hS' : updS S i key value = S') (hK' : updK S K i key value = K') :
    Calls Tryd.prog 68 #[.pointer (some ⟨t, 0, none⟩), .int .i64 i, .slice A1 key.length c1, .slice A2 value.length c2] w fun e X' => e = .returned (.int .i64 r) ∧ LMF B (N + 1) F X' t m S' K' ∧ Kept F w X' := by
  subst hr; subst hS'; subst hK'
  obtain ⟨g1, g2, g3, g4⟩ := h
  refine (mm_update w F t m S K N i A1 A2 c1 c2 key value g4 g2 (by omega) hK (fun X' hq => C_kept hk hA1 hq) hkb (fun X' hq => C_kept hv hA2 hq) hvb hvc hvs).mono ?_
  rintro e X' ⟨he, hm', hq⟩
  exact ⟨he, ⟨Nat.le_trans g1 hq.size, g2.upd (by omega) i key value hkl, g3, hm'⟩, hq⟩
theorem lf_delete (w : World) (B N : Nat) (F : Nat → Prop) (t m : Nat) (S : List MapS) (K : List Reg) (i : Int) (A1 : Option Addr) (c1 : Nat) (key : List Int) (h : LMF B N F w t m S K) (hN : N ≤ 10000) (hK : K.length ≤ 99999)
    (hk : Kd.C (Kd.int .u8) w A1 key.length key) (hA1 : ∀ ad, A1 = some ad → 0 < key.length → F ad.block) (hkb : IsBytes key)
    (r : Int) (S' : List MapS) (K' : List Reg) (hr : delR S i key = r) (hS' : delS S i key = S') (hK' : delK S K i key = K') :
    Calls Tryd.prog 69 #[.pointer (some ⟨t, 0, none⟩), .int .i64 i, .slice A1 key.length c1] w fun e X' => e = .returned (.int .i64 r) ∧ LMF B N F X' t m S' K' ∧ Kept F w X' := by
  subst hr; subst hS'; subst hK'
  obtain ⟨g1, g2, g3, g4⟩ := h
  refine (mm_delete w F t m S K N i A1 c1 key g4 g2 (by omega) hK (fun X' hq => C_kept hk hA1 hq) hkb).mono ?_
  rintro e X' ⟨he, hm', hq⟩
  exact ⟨he, ⟨Nat.le_trans g1 hq.size, g2.del i key, g3, hm'⟩, hq⟩
end Go.Proofs.YtomnfkihieinbaaDoor.PAll
/- maps: what MapsApart needs beside. -/
set_option linter.unusedVariables false
set_option linter.unusedSimpArgs false
namespace Go.Proofs.YtomnfkihieinbaaDoor.PAll
open Go.RowKit Go.Shelf Go.Maps Go.Proofs.YtomnfkihieinbaaDoorW.PrintWords Go.Proofs.YtomnfkihieinbaaDoorW.PrintLast Go.Proofs.YtomnfkihieinbaaDoorW.PrintMore
theorem a10 : addrF 1 0 = 4611967493404098560 := by kernel_rfl
/-! ### Same of entries -/
theorem same1_f (a : List Int) (hm : a.length ≤ 1099511627776) (k : Nat) (hk : a.length < k) : slotcoderef01_Same.f k a a = some true := by
  rw [same_f a a hm k hk]
  simp
theorem same21_l0 (a : List Ent) (hl : a.length ≤ 1000000) (n : Nat) (he : ∀ e ∈ a, e.f0.length ≤ n ∧ e.f1.length ≤ n) (hn : n ≤ 1099511627776) (t : List Ent) : ∀ (i k : Nat), a.drop i = t → t.length + n + 1 < k → i ≤ a.length → slotcoderef21_Same.l0 k a a (i : Int) = some true := by
  induction t with
  | nil =>
    intro i k ht hk hi
    obtain ⟨k, rfl⟩ : ∃ m, k = m + 1 := ⟨k - 1, by omega⟩
    have : a.length ≤ i := List.drop_eq_nil_iff.mp ht
    simp only [slotcoderef21_Same.l0]
    rw [if_neg (by omega)]
  | cons d r ih =>
    intro i k ht hk hi
    obtain ⟨k, rfl⟩ : ∃ m, k = m + 1 := ⟨k - 1, by omega⟩
    obtain ⟨hd, hlt, _⟩ := drop_next ht
    have hget : a[i]? = some d := by rw [← List.head?_drop, ht]; rfl
    have hrd : rd_T42 a (i : Int) = d := by
      unfold rd_T42
      rw [Int.toNat_natCast, List.getD_eq_getElem?_getD, hget]
      rfl
    obtain ⟨h0, h1⟩ := he d (List.mem_of_getElem? hget)
    simp only [List.length_cons] at hk
    simp only [slotcoderef21_Same.l0]
    rw [if_pos (by omega), if_pos (by omega), if_pos (by omega), hrd, same1_f d.f0 (by omega) k (by omega), Option.bind_some, if_pos rfl, same1_f d.f1 (by omega) k (by omega), Option.bind_some, if_pos rfl, w64 _ (by omega) (by omega), show (i : Int) + 1 = ((i + 1 : Nat) : Int) by omega, ih (i + 1) k hd (by omega) (by omega)]
theorem same21_c (a : List Ent) (hl : a.length ≤ 1000000) (he : ∀ e ∈ a, e.f0.length ≤ 1099511627776 ∧ e.f1.length ≤ 1099511627776) (A0 A1 : Option Addr) (c0 c1 : Nat) (w : World) (h0 : Kd.C k42 w A0 a.length a) (hc0 : a.length ≤ c0) (h1 : Kd.C k42 w A1 a.length a) (hc1 : a.length ≤ c1) :
    Calls Tryd.prog 15 #[.slice A0 a.length c0, .slice A1 a.length c1] w fun e w' => e = .returned (.bool true) ∧ ∃ k, w' = w.drewN k := by
  refine (slotcoderef21_Same.calls (a.length + 1099511627776 + 2) A0 c0 a A1 c1 a true w h0 hc0 h1 hc1 ?_).mono fun e w' h => ?_
  · unfold slotcoderef21_Same.f
    rw [if_pos rfl]
    exact same21_l0 a hl 1099511627776 he (Nat.le_refl _) a 0 _ rfl (by omega) (by omega)
  · obtain ⟨rfl, hd⟩ := h
    obtain ⟨k, hk⟩ := hd.out
    exact ⟨rfl, k, hk⟩
/-! ### stores in rows of one's own -/
theorem LMF.other {B N : Nat} {F : Nat → Prop} {w w' : World} {t m : Nat} {S : List MapS} {K : List Reg} (h : LMF B N F w t m S K) (hs : w.heap.size ≤ w'.heap.size) (hk : ∀ k, k < w.heap.size → ¬ F k → w'.heap[k]? = w.heap[k]?) : LMF B N F w' t m S K := by
  obtain ⟨g1, g2, g3, v, ps, g4, g5⟩ := h
  exact ⟨Nat.le_trans g1 hs, g2, g3, v, ps, g4, g5.other hs hk⟩
theorem LMF.set {B N : Nat} {F : Nat → Prop} {w : World} {t m : Nat} {S : List MapS} {K : List Reg} (h : LMF B N F w t m S K) {g o : Nat} (u : Value) (hg : F g) : LMF B N F (w.setCell ⟨g, o, none⟩ u) t m S K :=
  h.other (by simp [World.setCell]) (fun k _ hk => Below.heap_setCell w ⟨g, o, none⟩ u k (fun e => hk (e ▸ hg)))
theorem LMF.more {B N : Nat} {F : Nat → Prop} {w w' : World} {t m : Nat} {S : List MapS} {K : List Reg} (h : LMF B N F w t m S K) (hb : Below w.heap.size w w') : LMF B N (fun k => F k ∨ (w.heap.size ≤ k ∧ k < w'.heap.size)) w' t m S K :=
  ⟨Nat.le_trans h.1 hb.size, h.2.1, fun k hk => .inl (h.2.2.1 k hk), h.2.2.2.more hb⟩
theorem ByteS.at_ {w : World} {base g c : Nat} {l : List Int} (h : ByteS w base (.slice (some ⟨g, 0, none⟩) l.length c) l) (i : Nat) (hi : i < l.length) : w.cell? ⟨g, i, none⟩ = some (.int .u8 (rd l i)) ∧ w.frozen? ⟨g, i, none⟩ = false := by
  obtain ⟨A, c', he, hc, hm, h⟩ := h
  cases he
  rcases h with ⟨h, _⟩ | ⟨g', cur, fr, h, hg, hb, hf, ht⟩
  · cases h
  · cases h
    refine ⟨ByteS.cell (base := base) (c := c) hb ht i hi, ?_⟩
    unfold World.frozen?
    rw [hb]
    obtain ⟨lo, hi'⟩ := fr
    dsimp only
    rcases hf with hf | hf
    · cases hf
      simp
    · dsimp only at hf
      have : ¬ lo ≤ i := by omega
      simp [this]
theorem ByteS.put {w : World} {base g c : Nat} {l : List Int} (h : ByteS w base (.slice (some ⟨g, 0, none⟩) l.length c) l) (i : Nat) (hi : i < l.length) (y : Int) : ByteS (w.setCell ⟨g, i, none⟩ (.int .u8 y)) base (.slice (some ⟨g, 0, none⟩) l.length c) (l.set i y) := by
  obtain ⟨A, c', he, hc, hm, h⟩ := h
  cases he
  rcases h with ⟨h, _⟩ | ⟨g', cur, fr, h, hg, hb, hf, ht⟩
  · cases h
  · cases h
    have hci : i < cur.size := by
      have := congrArg List.length ht
      rw [List.length_take, List.length_map] at this
      have h2 : cur.toList.length = cur.size := Array.length_toList
      omega
    refine ⟨_, c, by rw [List.length_set], by rw [List.length_set]; exact hc, by rw [List.length_set]; exact hm, .inr ⟨g, cur.set! i (.int .u8 y), fr, rfl, hg, ?_, by rw [List.length_set]; exact hf, ?_⟩⟩
    · simp [World.setCell, hb, Array.getElem?_modify]
    · rw [List.length_set]
      rw [List.map_set, ← ht]
      simp [List.take_set]
theorem ByteS.some_ {X : World} {base : Nat} {v : Value} {l : List Int} (h : ByteS X base v l) (hl : 1 ≤ l.length) : ∃ g c, v = .slice (some ⟨g, 0, none⟩) l.length c ∧ base ≤ g ∧ g < X.heap.size := by
  have h' := h
  obtain ⟨A, c, rfl, hc, hm, h⟩ := h
  rcases h with ⟨rfl, rfl⟩ | ⟨g, cur, fr, rfl, hg, hb, _⟩
  · simp at hl
  · exact ⟨g, c, rfl, hg, (Array.getElem?_eq_some_iff.1 hb).1⟩
theorem EntRow.one {X : World} {base c : Nat} {A : Option Addr} {vs : List (Value × Value)} {e : Ent} (h : EntRow X base (.slice A 1 c) vs [e]) (h0 : 1 ≤ e.f0.length) (h1 : 1 ≤ e.f1.length) :
    ∃ gr gk ck gv cv, A = some ⟨gr, 0, none⟩ ∧ X.cell? ⟨gr, 0, none⟩ = some (.slice (some ⟨gk, 0, none⟩) e.f0.length ck) ∧ X.cell? ⟨gr, 1, none⟩ = some (.slice (some ⟨gv, 0, none⟩) e.f1.length cv) ∧ ByteS X base (.slice (some ⟨gk, 0, none⟩) e.f0.length ck) e.f0 ∧ ByteS X base (.slice (some ⟨gv, 0, none⟩) e.f1.length cv) e.f1 ∧ gk ≠ gv ∧ base ≤ gk ∧ gk < X.heap.size ∧ base ≤ gv ∧ gv < X.heap.size := by
  have hl := h.len
  obtain ⟨p, rfl⟩ : ∃ p, vs = [p] := by
    match vs, hl with
    | [p], _ => exact ⟨p, rfl⟩
  obtain ⟨b1, b2, b3, b4⟩ := h.ent 0 p e rfl rfl
  obtain ⟨kv, vv⟩ := p
  obtain ⟨gk, ck, rfl, k1, k2⟩ := b1.some_ h0
  obtain ⟨gv, cv, rfl, v1, v2⟩ := b2.some_ h1
  rcases h.row.2 with ⟨_, hz⟩ | ⟨gr, cap, cur, hv, _, hb, _⟩
  · simp at hz
  · cases hv
    have hc := h.row.cells (g := gr) rfl
    have e0 := hc 0 (.slice (some ⟨gk, 0, none⟩) e.f0.length ck) rfl
    have e1 := hc 1 (.slice (some ⟨gv, 0, none⟩) e.f1.length cv) rfl
    rw [add_plain] at e0 e1
    exact ⟨gr, gk, ck, gv, cv, rfl, e0, e1, b1, b2, fun e => b4 gk rfl (by rw [e]; rfl), k1, k2, v1, v2⟩
end Go.Proofs.YtomnfkihieinbaaDoor.PAll
