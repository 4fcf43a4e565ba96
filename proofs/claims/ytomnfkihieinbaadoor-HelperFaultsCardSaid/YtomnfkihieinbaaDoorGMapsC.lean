/- The texts MapsLNil, MapsChk, MapsKeepF, MapsApF of this claim, joined. -/
import Derived.Test.YtomnfkihieinbaaDoorGMapsB
import Derived.Test.YtomnfkihieinbaaDoorPAllx2
/- maps: the law MapsNil. -/
set_option linter.unusedVariables false
set_option linter.unusedSimpArgs false
namespace Go.Proofs.YtomnfkihieinbaaDoor.PAll
open Go.RowKit Go.Shelf Go.Maps Go.Proofs.YtomnfkihieinbaaDoorW.PrintWords Go.Proofs.YtomnfkihieinbaaDoorW.PrintLast Go.Proofs.YtomnfkihieinbaaDoorW.PrintMore
theorem handle_c (i : Int) (r : Int) (w : World) (h : maps_Handle.f i = some r) : Calls Tryd.prog 10 #[.int .i64 i] w fun e w' => e = .returned (.int .u64 r) ∧ ∃ k, w' = w.drewN k :=
  (maps_Handle.calls i r w h).mono fun e w' ⟨h1, h2⟩ => ⟨h1, by obtain ⟨k, hk⟩ := h2.out; exact ⟨k, hk⟩⟩
end Go.Proofs.YtomnfkihieinbaaDoor.PAll
/- maps: the check of declarations. -/
set_option linter.unusedVariables false
set_option linter.unusedSimpArgs false
namespace Go.Proofs.YtomnfkihieinbaaDoor.PAll
open Go.RowKit Go.Shelf Go.Maps Go.Proofs.YtomnfkihieinbaaDoorW.PrintWords Go.Proofs.YtomnfkihieinbaaDoorW.PrintLast Go.Proofs.YtomnfkihieinbaaDoorW.PrintMore
theorem sizes_eq (d : S28) : slotcoderef09_Sizes.f d.f0 d.f1 d.f2 d.f3 = some (sizesB d) := by
  unfold slotcoderef09_Sizes.f sizesB inR
  by_cases h1 : d.f1 ≥ 1
  · by_cases h2 : d.f1 ≤ 64
    · by_cases h3 : d.f2 ≥ 1
      · by_cases h4 : d.f2 ≤ 256
        · by_cases h5 : d.f3 ≥ 1
          · rw [if_pos h1, if_pos h2, if_pos h3, if_pos h4, if_pos h5]
            congr 1
            simp [h1, h2, h3, h4, h5, ge_iff_le.1 h1, ge_iff_le.1 h3, ge_iff_le.1 h5]
          · rw [if_pos h1, if_pos h2, if_pos h3, if_pos h4, if_neg h5]
            congr 1
            have : ¬ 1 ≤ d.f3 := h5
            simp [this]
        · rw [if_pos h1, if_pos h2, if_pos h3, if_neg h4]
          congr 1
          simp [h4]
      · rw [if_pos h1, if_pos h2, if_neg h3]
        congr 1
        have : ¬ 1 ≤ d.f2 := h3
        simp [this]
    · rw [if_pos h1, if_neg h2]
      congr 1
      simp [h2]
  · rw [if_neg h1]
    congr 1
    have : ¬ 1 ≤ d.f1 := h1
    simp [this]
def checkF (ds : List S28) : Int := if (ds.length : Int) > 255 then 16 else if ds.all sizesB = true then 0 else 9
theorem check_l0 (ds : List S28) (hm : ds.length ≤ 255) (t : List S28) : ∀ (i k : Nat), ds.drop i = t → t.length < k → i ≤ ds.length → slotcoderef21_Check.l0 k ds (i : Int) = some (if t.all sizesB = true then 0 else 9) := by
  induction t with
  | nil =>
    intro i k ht hk hi
    obtain ⟨k, rfl⟩ : ∃ m, k = m + 1 := ⟨k - 1, by simp at hk; omega⟩
    have : ds.length ≤ i := List.drop_eq_nil_iff.mp ht
    simp only [slotcoderef21_Check.l0]
    rw [if_neg (by omega)]
    rfl
  | cons d r ih =>
    intro i k ht hk hi
    obtain ⟨k, rfl⟩ : ∃ m, k = m + 1 := ⟨k - 1, by simp at hk; omega⟩
    obtain ⟨hd, hlt, _⟩ := drop_next ht
    have hrd : rd_T28 ds (i : Int) = d := by
      have : ds[i]? = some d := by rw [← List.head?_drop, ht]; rfl
      unfold rd_T28
      rw [Int.toNat_natCast, List.getD_eq_getElem?_getD, this]
      rfl
    simp only [slotcoderef21_Check.l0]
    rw [if_pos (by omega), if_pos (by omega), hrd, sizes_eq, Option.bind_some, w64 _ (by omega) (by omega), show (i : Int) + 1 = ((i + 1 : Nat) : Int) by omega, ih (i + 1) k hd (by simp at hk; omega) (by omega)]
    cases hs : sizesB d <;> simp [hs]
theorem check_c (ds : List S28) (A0 : Option Addr) (c0 : Nat) (w : World) (hr : Kd.C k28 w A0 ds.length ds) (hc : ds.length ≤ c0) (r : Int) (h : checkF ds = r) :
    Calls Tryd.prog 24 #[.slice A0 ds.length c0] w fun e w' => e = .returned (.int .i64 r) ∧ Below w.heap.size w w' := by
  refine slotcoderef21_Check.calls (ds.length + 1) A0 c0 ds r w hr hc ?_
  rw [← h]
  unfold slotcoderef21_Check.f checkF
  by_cases hl : (ds.length : Int) > 255
  · rw [if_pos hl, if_pos hl]
  · rw [if_neg hl, if_neg hl]
    exact check_l0 ds (by omega) ds 0 (ds.length + 1) rfl (by omega) (by omega)
end Go.Proofs.YtomnfkihieinbaaDoor.PAll
/- maps: what MapsKeep computes. -/
set_option linter.unusedVariables false
set_option linter.unusedSimpArgs false
namespace Go.Proofs.YtomnfkihieinbaaDoor.PAll
open Go.RowKit Go.Shelf Go.Maps Go.Proofs.YtomnfkihieinbaaDoorW.PrintWords Go.Proofs.YtomnfkihieinbaaDoorW.PrintLast Go.Proofs.YtomnfkihieinbaaDoorW.PrintMore
def kS (kl vl n : Int) (ents : List (List Int × Int)) (next : Int) : List MapS := [⟨⟨#[]⟩, kl, vl, n, ents, next⟩]
theorem a00 : addrF 0 0 = 4611686018427387904 := by kernel_rfl
theorem a01 : addrF 0 1 = 4611686018427453440 := by kernel_rfl
theorem wr1 : IntKind.u64.wrap (0 + 1) = 1 := by kernel_rfl
theorem wr2 : IntKind.u64.wrap (1 + 1) = 2 := by kernel_rfl
theorem getP_kS (kl vl n : Int) (ents : List (List Int × Int)) (next : Int) : getP (kS kl vl n ents next) 0 = some ⟨⟨#[]⟩, kl, vl, n, ents, next⟩ := rfl
theorem look1 (key k : List Int) (n : Int) : lookE [(key, n)] k = if key = k then some n else none := by
  unfold lookE
  by_cases h : key = k <;> simp [h]
section
variable {kl vl n next : Int} {ents : List (List Int × Int)} {K : List Reg} {key value : List Int}
theorem one_new (hk : (key.length : Int) = kl) (hv : (value.length : Int) = vl) (hl : lookE ents key = none) (hn : (ents.length : Int) < n) :
    updR (kS kl vl n ents next) 0 key value = 0 ∧ updS (kS kl vl n ents next) 0 key value = kS kl vl n (ents ++ [(key, next)]) (IntKind.u64.wrap (next + 1)) ∧ updK (kS kl vl n ents next) K 0 key value = addG K (addrF 0 next) value := by
  unfold updR updS updK
  rw [getP_kS]
  dsimp only
  have hc : (key.length : Int) = kl ∧ (value.length : Int) = vl := ⟨hk, hv⟩
  have hm : ¬ ((ents.length : Int) ≥ n) := by omega
  rw [if_pos hc, if_pos hc, if_pos hc, hl]
  dsimp only
  rw [if_neg hm, if_neg hm, if_neg hm]
  exact ⟨rfl, rfl, rfl⟩
theorem one_old (hk : (key.length : Int) = kl) (hv : (value.length : Int) = vl) {z : Int} (hl : lookE ents key = some z) :
    updR (kS kl vl n ents next) 0 key value = 0 ∧ updS (kS kl vl n ents next) 0 key value = kS kl vl n ents next ∧ updK (kS kl vl n ents next) K 0 key value = putG K (addrF 0 z) value := by
  unfold updR updS updK
  rw [getP_kS]
  dsimp only
  have hc : (key.length : Int) = kl ∧ (value.length : Int) = vl := ⟨hk, hv⟩
  rw [if_pos hc, if_pos hc, if_pos hc, hl]
  exact ⟨rfl, rfl, rfl⟩
theorem one_full (hk : (key.length : Int) = kl) (hv : (value.length : Int) = vl) (hl : lookE ents key = none) (hn : (ents.length : Int) ≥ n) :
    updR (kS kl vl n ents next) 0 key value = -7 ∧ updS (kS kl vl n ents next) 0 key value = kS kl vl n ents next ∧ updK (kS kl vl n ents next) K 0 key value = K := by
  unfold updR updS updK
  rw [getP_kS]
  dsimp only
  have hc : (key.length : Int) = kl ∧ (value.length : Int) = vl := ⟨hk, hv⟩
  rw [if_pos hc, if_pos hc, if_pos hc, hl]
  dsimp only
  rw [if_pos hn, if_pos hn, if_pos hn]
  exact ⟨rfl, rfl, rfl⟩
theorem one_bad (hk : ¬ (key.length : Int) = kl) :
    updR (kS kl vl n ents next) 0 key value = -22 ∧ updS (kS kl vl n ents next) 0 key value = kS kl vl n ents next ∧ updK (kS kl vl n ents next) K 0 key value = K := by
  unfold updR updS updK
  rw [getP_kS]
  dsimp only
  have hc : ¬ ((key.length : Int) = kl ∧ (value.length : Int) = vl) := fun h => hk h.1
  rw [if_neg hc, if_neg hc, if_neg hc]
  exact ⟨rfl, rfl, rfl⟩
theorem one_del (hk : (key.length : Int) = kl) {z : Int} (hl : lookE ents key = some z) :
    delR (kS kl vl n ents next) 0 key = 0 ∧ delS (kS kl vl n ents next) 0 key = kS kl vl n (delE ents key) next ∧ delK (kS kl vl n ents next) K 0 key = remR K (addrF 0 z) := by
  unfold delR delS delK
  rw [getP_kS]
  dsimp only
  rw [if_pos hk, if_pos hk, if_pos hk, hl]
  exact ⟨rfl, rfl, rfl⟩
theorem one_look {z : Int} (hl : lookE ents key = some z) : lookF (kS kl vl n ents next) 0 key = addrF 0 z := by
  unfold lookF
  rw [getP_kS]
  dsimp only
  rw [hl]
theorem one_none (hl : lookE ents key = none) : lookF (kS kl vl n ents next) 0 key = 0 := by
  unfold lookF
  rw [getP_kS]
  dsimp only
  rw [hl]
end
theorem keep1 (key value : List Int) (h1 : 1 ≤ value.length) (h2 : value.length ≤ 256) : updR (kS key.length value.length 2 [] 0) 0 key value = 0 ∧ updS (kS key.length value.length 2 [] 0) 0 key value = kS key.length value.length 2 [(key, 0)] 1 ∧ updK (kS key.length value.length 2 [] 0) [] 0 key value = [⟨4611686018427387904, value⟩] := by
  obtain ⟨g1, g2, g3⟩ := one_new (K := []) (next := 0) (ents := []) (n := 2) (key := key) (value := value) rfl rfl rfl (by decide)
  refine ⟨g1, g2.trans (by rw [wr1]; rfl), g3.trans ?_⟩
  rw [a00]
  unfold addG addOk
  rw [if_pos (by simp; omega)]
theorem keep2 (key value other : List Int) (hk : 1 ≤ key.length) (h1 : 1 ≤ value.length) (h2 : value.length ≤ 256) :
    ∃ (cR : Int) (S2 S3 : List MapS) (K2 K3 : List Reg), updR (kS key.length value.length 2 [(key, 0)] 1) 0 other value = cR ∧ updS (kS key.length value.length 2 [(key, 0)] 1) 0 other value = S2 ∧ updK (kS key.length value.length 2 [(key, 0)] 1) [⟨4611686018427387904, value⟩] 0 other value = K2 ∧
      (if other.length = key.length then cR = 0 else cR = -22) ∧ lookF S2 0 key = 4611686018427387904 ∧ delR S2 0 key = 0 ∧ delS S2 0 key = S3 ∧ delK S2 K2 0 key = K3 ∧ bytesF K3 4611686018427387904 1 = none ∧ lookF S3 0 key = 0 ∧ K2.length ≤ 2 ∧ K3.length ≤ 2 := by
  have hk0 : lookE [(key, (0 : Int))] key = some 0 := by rw [look1, if_pos rfl]
  have hd0 : delE [(key, (0 : Int))] key = [] := by simp [delE]
  have hrem : remR [⟨4611686018427387904, value⟩] 4611686018427387904 = [] := by simp [remR]
  have hby : bytesF [] 4611686018427387904 1 = none := rfl
  by_cases hl : other.length = key.length
  · by_cases he : key = other
    · subst he
      have hput : putG [⟨4611686018427387904, value⟩] 4611686018427387904 value = [⟨4611686018427387904, value⟩] := by
        unfold putG putR hitR splice
        simp
      obtain ⟨g1, g2, g3⟩ := one_old (K := [⟨4611686018427387904, value⟩]) (next := 1) (n := 2) (key := key) (value := value) rfl rfl hk0
      obtain ⟨d1, d2, d3⟩ := one_del (K := [⟨4611686018427387904, value⟩]) (vl := value.length) (next := 1) (n := 2) (key := key) rfl hk0
      rw [a00, hput] at g3
      rw [a00, hrem] at d3
      rw [hd0] at d2
      exact ⟨_, _, _, _, _, g1, g2, g3, by rw [if_pos rfl], (one_look hk0).trans a00, d1, d2, d3, hby, one_none rfl, Nat.le_succ 1, Nat.zero_le 2⟩
    · have hlk : lookE [(key, (0 : Int))] other = none := by rw [look1, if_neg he]
      have hlk2 : lookE [(key, (0 : Int)), (other, 1)] key = some 0 := by simp [lookE]
      have hlk3 : lookE [(other, (1 : Int))] key = none := by rw [look1, if_neg (fun e => he e.symm)]
      have hde : delE [(key, (0 : Int)), (other, 1)] key = [(other, 1)] := by simp [delE, Ne.symm he]
      have hadd : addG [⟨4611686018427387904, value⟩] 4611686018427453440 value = [⟨4611686018427453440, value⟩, ⟨4611686018427387904, value⟩] := by
        unfold addG addOk
        rw [if_pos (by simp; omega)]
      have hr2 : remR [⟨4611686018427453440, value⟩, ⟨4611686018427387904, value⟩] 4611686018427387904 = [⟨4611686018427453440, value⟩] := by simp [remR]
      have hby2 : bytesF [⟨4611686018427453440, value⟩] 4611686018427387904 1 = none := by
        simp [bytesF, hitR]
      obtain ⟨g1, g2, g3⟩ := one_new (K := [⟨4611686018427387904, value⟩]) (next := 1) (n := 2) (key := other) (value := value) (kl := key.length) (by omega) rfl hlk (by show ((1 : Nat) : Int) < 2; decide)
      obtain ⟨d1, d2, d3⟩ := one_del (K := [⟨4611686018427453440, value⟩, ⟨4611686018427387904, value⟩]) (vl := value.length) (next := 2) (n := 2) (key := key) rfl hlk2
      rw [a01, hadd] at g3
      rw [wr2] at g2
      rw [a00, hr2] at d3
      rw [hde] at d2
      exact ⟨_, _, _, _, _, g1, g2, g3, by rw [if_pos hl], (one_look hlk2).trans a00, d1, d2, d3, hby2, one_none hlk3, Nat.le_refl 2, Nat.le_succ 1⟩
  · obtain ⟨g1, g2, g3⟩ := one_bad (K := [⟨4611686018427387904, value⟩]) (kl := key.length) (vl := value.length) (n := 2) (ents := [(key, 0)]) (next := 1) (key := other) (value := value) (by omega)
    obtain ⟨d1, d2, d3⟩ := one_del (K := [⟨4611686018427387904, value⟩]) (vl := value.length) (next := 1) (n := 2) (key := key) rfl hk0
    rw [a00, hrem] at d3
    rw [hd0] at d2
    exact ⟨_, _, _, _, _, g1, g2, g3, by rw [if_neg hl], (one_look hk0).trans a00, d1, d2, d3, hby, one_none rfl, Nat.le_succ 1, Nat.zero_le 2⟩
def defCells (d : S28) : Array Value := #[.string d.f0, .int .i64 d.f1, .int .i64 d.f2, .int .i64 d.f3]
theorem check1_c (w : World) (d : S28) (r : Int) (h : (if sizesB d = true then 0 else 9) = r) :
    Calls Tryd.prog 24 #[.slice (some ⟨w.heap.size, 0, none⟩) 1 1] (w.alloc (.cells (defCells d) 28)) fun e w' => e = .returned (.int .i64 r) ∧ Below w.heap.size w w' := by
  have hb : Below w.heap.size w (w.alloc (.cells (defCells d) 28)) := below_alloc (Below.refl _ _) _
  refine (check_c [d] _ 1 _ (def_lit _ d _ (heap_alloc_new w _)) (Nat.le_refl _) r ?_).mono ?_
  · rw [← h]
    unfold checkF
    rw [if_neg (by rw [List.length_singleton]; decide : ¬ ((([d] : List S28).length : Int) > 255))]
    cases hs : sizesB d <;> simp [hs]
  · rintro e w' ⟨he, hbb⟩
    exact ⟨he, hb.trans (hbb.mono hb.size)⟩
theorem new1_c (w : World) (B m : Nat) (d : S28) (h : Has w (fun k => k < B) (PM m [])) (hB : B ≤ w.heap.size) :
    Calls Tryd.prog 31 #[.pointer (some ⟨m, 0, none⟩), .slice (some ⟨w.heap.size, 0, none⟩) 1 1] (w.alloc (.cells (defCells d) 28)) fun e X' => (if sizesB d = true then ∃ t, e = .returned (.tuple #[.pointer (some ⟨t, 0, none⟩), .int .i64 0]) ∧ LM B 0 X' t m [newS d] [] else e = .returned (.tuple #[.pointer none, .int .i64 9])) ∧ Below w.heap.size w X' := by
  have hb : Below w.heap.size w (w.alloc (.cells (defCells d) 28)) := below_alloc (Below.refl _ _) _
  refine (lm_new _ B m _ 1 [d] (h.below hb) (Nat.le_trans hB hb.size) (def_lit _ d _ (heap_alloc_new w _)) (by rw [List.length_singleton]; decide)).mono ?_
  rintro e X' ⟨hp, hbb⟩
  refine ⟨?_, hb.trans (hbb.mono hb.size)⟩
  have hs : [d].all sizesB = sizesB d := by simp
  rw [hs] at hp
  exact hp
theorem sizes_iff (d : S28) : sizesB d = true ↔ (1 ≤ d.f1 ∧ d.f1 ≤ 64) ∧ (1 ≤ d.f2 ∧ d.f2 ≤ 256) ∧ (1 ≤ d.f3 ∧ d.f3 ≤ 1024) := by
  unfold sizesB inR
  simp only [Bool.and_eq_true, decide_eq_true_eq, and_assoc]
theorem bytes_all' (b : Int) (bs : List Int) (h0 : 1 ≤ bs.length) : bytesF [⟨b, bs⟩] b bs.length = some bs := by
  unfold bytesF
  have hh : hitR b bs.length ⟨b, bs⟩ = true := hit_iff.2 ⟨by omega, Int.le_refl _, Int.le_refl _⟩
  have hf : List.findIdx? (hitR b bs.length) [⟨b, bs⟩] = some 0 := by simp [List.findIdx?_cons, hh]
  rw [hf]
  simp
theorem low_free {X : World} {A : Option Addr} {l : List Int} (h : Kd.C (Kd.int .u8) X A l.length l) (hl : 1 ≤ l.length) (n : Nat) : Free X.heap.size n A := fun ad e => by
  have hr := Kd.reads_of_C (enc := Value.int .u8) (d := (0 : Int)) (h1 := fun _ => rfl) h
  obtain ⟨ad', e', hc⟩ := hr.2.2 hl
  rw [e] at e'
  cases e'
  refine .inl ?_
  have hb : (ad.add 0).block = ad.block := by simp only [Addr.add]; split <;> rfl
  rw [← hb]
  exact World.block_lt_of_cell? X _ (hc 0 hl)
theorem LM.up {B N M : Nat} {X : World} {t m : Nat} {S : List MapS} {K : List Reg} (h : LM B N X t m S K) (hN : N ≤ M) : LM B M X t m S K := ⟨h.1, ⟨h.2.1.1, fun s hs => (h.2.1.2 s hs).more hN⟩, h.2.2⟩
theorem lm_bad (w : World) (B N : Nat) (t m : Nat) (S : List MapS) (K : List Reg) (i : Int) (A1 A2 : Option Addr) (c1 c2 : Nat) (key value : List Int) (h : LM B N w t m S K) (hbad : ∀ s, getP S i = some s → ¬ ((key.length : Int) = s.key ∧ (value.length : Int) = s.value)) :
    Calls Tryd.prog 68 #[.pointer (some ⟨t, 0, none⟩), .int .i64 i, .slice A1 key.length c1, .slice A2 value.length c2] w fun e X' => e = .returned (.int .i64 (-22)) ∧ w = X' := by
  obtain ⟨g1, g2, F, g3, v, ps, g4, g5⟩ := h
  obtain ⟨o1, _, hMP, _⟩ := g5.swap.part
  exact upd_bad w o1 t m v ps S i A1 A2 c1 c2 key value hMP (by have := g2.1; omega) g4 hbad
/-- The same with the blocks named that are nobody's. -/
def LMF (B N : Nat) (F : Nat → Prop) (X : World) (t m : Nat) (S : List MapS) (K : List Reg) : Prop := B ≤ X.heap.size ∧ GoodS N S ∧ (∀ k, k < B → F k) ∧ MM X F t m S K
theorem LMF.lm {B N : Nat} {F : Nat → Prop} {X : World} {t m : Nat} {S : List MapS} {K : List Reg} (h : LMF B N F X t m S K) : LM B N X t m S K := ⟨h.1, h.2.1, F, h.2.2.1, h.2.2.2⟩
theorem LMF.below {B N : Nat} {F : Nat → Prop} {X X' : World} {t m : Nat} {S : List MapS} {K : List Reg} (h : LMF B N F X t m S K) (hb : Below X.heap.size X X') : LMF B N F X' t m S K := ⟨Nat.le_trans h.1 hb.size, h.2.1, h.2.2.1, h.2.2.2.below hb⟩
theorem lf_update (w : World) (B N : Nat) (F : Nat → Prop) (t m : Nat) (S : List MapS) (K : List Reg) (i : Int) (A1 A2 : Option Addr) (c1 c2 : Nat) (key value : List Int) (h : LMF B N F w t m S K) (hN : N ≤ 10000) (hK : K.length ≤ 99999)
    (hk : Kd.C (Kd.int .u8) w A1 key.length key) (hA1 : ∀ ad, A1 = some ad → 0 < key.length → F ad.block) (hkb : IsBytes key) (hkl : key.length ≤ 65536) (hv : Kd.C (Kd.int .u8) w A2 value.length value) (hA2 : ∀ ad, A2 = some ad → 0 < value.length → F ad.block) (hvb : IsBytes value) (hvc : value.length ≤ c2) (hvs : value.length ≤ 65536)
    (r : Int) (S' : List MapS) (K' : List Reg) (hr : updR S i key value = r) (hS' : updS S i key value = S') (hK' : updK S K i key value = K') :
    Calls Tryd.prog 68 #[.pointer (some ⟨t, 0, none⟩), .int .i64 i, .slice A1 key.length c1, .slice A2 value.length c2] w fun e X' => e = .returned (.int .i64 r) ∧ LMF B (N + 1) F X' t m S' K' ∧ Kept F w X' := by
  subst hr; subst hS'; subst hK'
  obtain ⟨g1, g2, g3, g4⟩ := h
  refine (mm_update w F t m S K N i A1 A2 c1 c2 key value g4 g2 (by omega) hK (fun X' hq => C_kept hk hA1 hq) hkb (fun X' hq => C_kept hv hA2 hq) hvb hvc hvs).mono ?_
  rintro e X' ⟨he, hm', hq⟩
  exact ⟨he, ⟨Nat.le_trans g1 hq.size, g2.upd (by omega) i key value hkl, g3, hm'⟩, hq⟩
theorem lf_delete (w : World) (B N : Nat) (F : Nat → Prop) (t m : Nat) (S : List MapS) (K : List Reg) (i : Int) (A1 : Option Addr) (c1 : Nat) (key : List Int) (h : LMF B N F w t m S K) (hN : N ≤ 10000) (hK : K.length ≤ 99999)
    (hk : Kd.C (Kd.int .u8) w A1 key.length key) (hA1 : ∀ ad, A1 = some ad → 0 < key.length → F ad.block) (hkb : IsBytes key)
    (r : Int) (S' : List MapS) (K' : List Reg) (hr : delR S i key = r) (hS' : delS S i key = S') (hK' : delK S K i key = K') :
    Calls Tryd.prog 69 #[.pointer (some ⟨t, 0, none⟩), .int .i64 i, .slice A1 key.length c1] w fun e X' => e = .returned (.int .i64 r) ∧ LMF B N F X' t m S' K' ∧ Kept F w X' := by
  subst hr; subst hS'; subst hK'
  obtain ⟨g1, g2, g3, g4⟩ := h
  refine (mm_delete w F t m S K N i A1 c1 key g4 g2 (by omega) hK (fun X' hq => C_kept hk hA1 hq) hkb).mono ?_
  rintro e X' ⟨he, hm', hq⟩
  exact ⟨he, ⟨Nat.le_trans g1 hq.size, g2.del i key, g3, hm'⟩, hq⟩
theorem low_F {X : World} {F : Nat → Prop} {A : Option Addr} {l : List Int} (h : Kd.C (Kd.int .u8) X A l.length l) (hF : ∀ k, k < X.heap.size → F k) : ∀ ad, A = some ad → 0 < l.length → F ad.block := fun ad e hl => by
  have hr := Kd.reads_of_C (enc := Value.int .u8) (d := (0 : Int)) (h1 := fun _ => rfl) h
  obtain ⟨ad', e', hc⟩ := hr.2.2 hl
  rw [e] at e'
  cases e'
  have hb : (ad.add 0).block = ad.block := by simp only [Addr.add]; split <;> rfl
  refine hF _ ?_
  rw [← hb]
  exact World.block_lt_of_cell? X _ (hc 0 hl)
end Go.Proofs.YtomnfkihieinbaaDoor.PAll
/- maps: what MapsApart needs beside. -/
set_option linter.unusedVariables false
set_option linter.unusedSimpArgs false
namespace Go.Proofs.YtomnfkihieinbaaDoor.PAll
open Go.RowKit Go.Shelf Go.Maps Go.Proofs.YtomnfkihieinbaaDoorW.PrintWords Go.Proofs.YtomnfkihieinbaaDoorW.PrintLast Go.Proofs.YtomnfkihieinbaaDoorW.PrintMore
theorem a10 : addrF 1 0 = 4611967493404098560 := by kernel_rfl
def kS2 (kl vl : Int) (ents : List (List Int × Int)) (next : Int) : List MapS := [⟨⟨#[]⟩, kl, vl, 2, [], 0⟩, ⟨⟨#[]⟩, kl, vl, 2, ents, next⟩]
theorem getP_kS2 (kl vl : Int) (ents : List (List Int × Int)) (next : Int) : getP (kS2 kl vl ents next) 1 = some ⟨⟨#[]⟩, kl, vl, 2, ents, next⟩ := rfl
theorem getP_kS20 (kl vl : Int) (ents : List (List Int × Int)) (next : Int) : getP (kS2 kl vl ents next) 0 = some ⟨⟨#[]⟩, kl, vl, 2, [], 0⟩ := rfl
theorem apart1 (key value : List Int) (h1 : 1 ≤ value.length) (h2 : value.length ≤ 256) : updR (kS2 key.length value.length [] 0) 1 key value = 0 ∧ updS (kS2 key.length value.length [] 0) 1 key value = kS2 key.length value.length [(key, 0)] 1 ∧ updK (kS2 key.length value.length [] 0) [] 1 key value = [⟨4611967493404098560, value⟩] := by
  unfold updR updS updK
  rw [getP_kS2]
  dsimp only
  have hc : (key.length : Int) = key.length ∧ (value.length : Int) = value.length := ⟨rfl, rfl⟩
  have hl : lookE [] key = none := rfl
  have hm : ¬ (((([] : List (List Int × Int))).length : Int) ≥ 2) := by decide
  rw [if_pos hc, if_pos hc, if_pos hc, hl]
  dsimp only
  refine ⟨if_neg hm, ?_, ?_⟩
  · refine (if_neg hm).trans ?_
    rw [wr1]
    rfl
  · refine (if_neg hm).trans ?_
    rw [a10]
    unfold addG addOk
    rw [if_pos (by simp; omega)]
theorem apart_look0 (kl vl : Int) (key : List Int) (ents : List (List Int × Int)) (next : Int) : lookF (kS2 kl vl ents next) 0 key = 0 := by
  unfold lookF
  rw [getP_kS20]
  rfl
theorem apart_look1 (kl vl : Int) (key : List Int) : lookF (kS2 kl vl [(key, 0)] 1) 1 key = 4611967493404098560 := by
  unfold lookF
  rw [getP_kS2]
  dsimp only
  rw [look1, if_pos rfl]
  exact a10
theorem apart_ent0 (kl vl : Int) (ents : List (List Int × Int)) (next : Int) (K : List Reg) : entF (kS2 kl vl ents next) K 0 = [] := by
  unfold entF
  rw [getP_kS20]
  rfl
theorem apart_ent1 (kl : Int) (key value : List Int) (h : 1 ≤ value.length) : entF (kS2 kl value.length [(key, 0)] 1) [⟨4611967493404098560, value⟩] 1 = [⟨key, value⟩] := by
  unfold entF
  rw [getP_kS2]
  unfold entsF
  simp only [List.map_cons, List.map_nil]
  rw [a10, bytes_all' 4611967493404098560 value h]
  rfl
/-! ### Same of entries -/
theorem same1_f (a : List Int) (hm : a.length ≤ 1099511627776) (k : Nat) (hk : a.length < k) : slotcoderef01_Same.f k a a = some true := by
  rw [same_f a a hm k hk]
  simp
theorem same21_l0 (a : List Ent) (hl : a.length ≤ 1000000) (n : Nat) (he : ∀ e ∈ a, e.f0.length ≤ n ∧ e.f1.length ≤ n) (hn : n ≤ 1099511627776) (t : List Ent) : ∀ (i k : Nat), a.drop i = t → t.length + n + 1 < k → i ≤ a.length → slotcoderef21_Same.l0 k a a (i : Int) = some true := by
  induction t with
  | nil =>
    intro i k ht hk hi
    obtain ⟨k, rfl⟩ : ∃ m, k = m + 1 := ⟨k - 1, by omega⟩
    have : a.length ≤ i := List.drop_eq_nil_iff.mp ht
    simp only [slotcoderef21_Same.l0]
    rw [if_neg (by omega)]
  | cons d r ih =>
    intro i k ht hk hi
    obtain ⟨k, rfl⟩ : ∃ m, k = m + 1 := ⟨k - 1, by omega⟩
    obtain ⟨hd, hlt, _⟩ := drop_next ht
    have hget : a[i]? = some d := by rw [← List.head?_drop, ht]; rfl
    have hrd : rd_T42 a (i : Int) = d := by
      unfold rd_T42
      rw [Int.toNat_natCast, List.getD_eq_getElem?_getD, hget]
      rfl
    obtain ⟨h0, h1⟩ := he d (List.mem_of_getElem? hget)
    simp only [List.length_cons] at hk
    simp only [slotcoderef21_Same.l0]
    rw [if_pos (by omega), if_pos (by omega), if_pos (by omega), hrd, same1_f d.f0 (by omega) k (by omega), Option.bind_some, if_pos rfl, same1_f d.f1 (by omega) k (by omega), Option.bind_some, if_pos rfl, w64 _ (by omega) (by omega), show (i : Int) + 1 = ((i + 1 : Nat) : Int) by omega, ih (i + 1) k hd (by omega) (by omega)]
theorem same21_c (a : List Ent) (hl : a.length ≤ 1000000) (he : ∀ e ∈ a, e.f0.length ≤ 1099511627776 ∧ e.f1.length ≤ 1099511627776) (A0 A1 : Option Addr) (c0 c1 : Nat) (w : World) (h0 : Kd.C k42 w A0 a.length a) (hc0 : a.length ≤ c0) (h1 : Kd.C k42 w A1 a.length a) (hc1 : a.length ≤ c1) :
    Calls Tryd.prog 15 #[.slice A0 a.length c0, .slice A1 a.length c1] w fun e w' => e = .returned (.bool true) ∧ ∃ k, w' = w.drewN k := by
  refine (slotcoderef21_Same.calls (a.length + 1099511627776 + 2) A0 c0 a A1 c1 a true w h0 hc0 h1 hc1 ?_).mono fun e w' h => ?_
  · unfold slotcoderef21_Same.f
    rw [if_pos rfl]
    exact same21_l0 a hl 1099511627776 he (Nat.le_refl _) a 0 _ rfl (by omega) (by omega)
  · obtain ⟨rfl, hd⟩ := h
    obtain ⟨k, hk⟩ := hd.out
    exact ⟨rfl, k, hk⟩
/-! ### stores in rows of one's own -/
theorem LMF.other {B N : Nat} {F : Nat → Prop} {w w' : World} {t m : Nat} {S : List MapS} {K : List Reg} (h : LMF B N F w t m S K) (hs : w.heap.size ≤ w'.heap.size) (hk : ∀ k, k < w.heap.size → ¬ F k → w'.heap[k]? = w.heap[k]?) : LMF B N F w' t m S K := by
  obtain ⟨g1, g2, g3, v, ps, g4, g5⟩ := h
  exact ⟨Nat.le_trans g1 hs, g2, g3, v, ps, g4, g5.other hs hk⟩
theorem LMF.set {B N : Nat} {F : Nat → Prop} {w : World} {t m : Nat} {S : List MapS} {K : List Reg} (h : LMF B N F w t m S K) {g o : Nat} (u : Value) (hg : F g) : LMF B N F (w.setCell ⟨g, o, none⟩ u) t m S K :=
  h.other (by simp [World.setCell]) (fun k _ hk => Below.heap_setCell w ⟨g, o, none⟩ u k (fun e => hk (e ▸ hg)))
theorem LMF.more {B N : Nat} {F : Nat → Prop} {w w' : World} {t m : Nat} {S : List MapS} {K : List Reg} (h : LMF B N F w t m S K) (hb : Below w.heap.size w w') : LMF B N (fun k => F k ∨ (w.heap.size ≤ k ∧ k < w'.heap.size)) w' t m S K :=
  ⟨Nat.le_trans h.1 hb.size, h.2.1, fun k hk => .inl (h.2.2.1 k hk), h.2.2.2.more hb⟩
theorem ByteS.at_ {w : World} {base g c : Nat} {l : List Int} (h : ByteS w base (.slice (some ⟨g, 0, none⟩) l.length c) l) (i : Nat) (hi : i < l.length) : w.cell? ⟨g, i, none⟩ = some (.int .u8 (rd l i)) ∧ w.frozen? ⟨g, i, none⟩ = false := by
  obtain ⟨A, c', he, hc, hm, h⟩ := h
  cases he
  rcases h with ⟨h, _⟩ | ⟨g', cur, fr, h, hg, hb, hf, ht⟩
  · cases h
  · cases h
    refine ⟨ByteS.cell (base := base) (c := c) hb ht i hi, ?_⟩
    unfold World.frozen?
    rw [hb]
    obtain ⟨lo, hi'⟩ := fr
    dsimp only
    rcases hf with hf | hf
    · cases hf
      simp
    · dsimp only at hf
      have : ¬ lo ≤ i := by omega
      simp [this]
theorem ByteS.put {w : World} {base g c : Nat} {l : List Int} (h : ByteS w base (.slice (some ⟨g, 0, none⟩) l.length c) l) (i : Nat) (hi : i < l.length) (y : Int) : ByteS (w.setCell ⟨g, i, none⟩ (.int .u8 y)) base (.slice (some ⟨g, 0, none⟩) l.length c) (l.set i y) := by
  obtain ⟨A, c', he, hc, hm, h⟩ := h
  cases he
  rcases h with ⟨h, _⟩ | ⟨g', cur, fr, h, hg, hb, hf, ht⟩
  · cases h
  · cases h
    have hci : i < cur.size := by
      have := congrArg List.length ht
      rw [List.length_take, List.length_map] at this
      have h2 : cur.toList.length = cur.size := Array.length_toList
      omega
    refine ⟨_, c, by rw [List.length_set], by rw [List.length_set]; exact hc, by rw [List.length_set]; exact hm, .inr ⟨g, cur.set! i (.int .u8 y), fr, rfl, hg, ?_, by rw [List.length_set]; exact hf, ?_⟩⟩
    · simp [World.setCell, hb, Array.getElem?_modify]
    · rw [List.length_set]
      rw [List.map_set, ← ht]
      simp [List.take_set]
theorem def_lit2 (X : World) (d : S28) (g : Nat) (h : X.heap[g]? = some (.cells #[.string d.f0, .int .i64 d.f1, .int .i64 d.f2, .int .i64 d.f3, .string d.f0, .int .i64 d.f1, .int .i64 d.f2, .int .i64 d.f3] 28 (0, 0))) : Kd.C k28 X (some ⟨g, 0, none⟩) 2 [d, d] := by
  have hL : X.heap[g]? = some (.cells ([.string d.f0, .int .i64 d.f1, .int .i64 d.f2, .int .i64 d.f3, .string d.f0, .int .i64 d.f1, .int .i64 d.f2, .int .i64 d.f3] : List Value).toArray 28 (0, 0)) := h
  refine ⟨rfl, by decide, fun _ => ⟨_, rfl, fun j p hp => ?_⟩⟩
  match j, hp with
  | 0, hp =>
    cases hp
    refine ⟨_, rfl, k28_mk X d, fun i u hu => ?_⟩
    rw [show ((⟨g, 0, none⟩ : Addr).add (0 * (k28).sz + i)) = ⟨g, i, none⟩ by rw [add_plain]; simp]
    rw [blk_cell hL i]
    match i, hu with
    | 0, hu => exact hu
    | 1, hu => exact hu
    | 2, hu => exact hu
    | 3, hu => exact hu
    | i + 4, hu => simp at hu
  | 1, hp =>
    cases hp
    refine ⟨_, rfl, k28_mk X d, fun i u hu => ?_⟩
    rw [show ((⟨g, 0, none⟩ : Addr).add (1 * (k28).sz + i)) = ⟨g, 4 + i, none⟩ by rw [add_plain, Nat.one_mul]; rfl]
    rw [blk_cell hL (4 + i)]
    match i, hu with
    | 0, hu => exact hu
    | 1, hu => exact hu
    | 2, hu => exact hu
    | 3, hu => exact hu
    | i + 4, hu => simp at hu
  | j + 2, hp => simp at hp
theorem new2_c (w : World) (B m : Nat) (d : S28) (h : Has w (fun k => k < B) (PM m [])) (hB : B ≤ w.heap.size) (hs : sizesB d = true) :
    Calls Tryd.prog 31 #[.pointer (some ⟨m, 0, none⟩), .slice (some ⟨w.heap.size, 0, none⟩) 2 2] (w.alloc (.cells #[.string d.f0, .int .i64 d.f1, .int .i64 d.f2, .int .i64 d.f3, .string d.f0, .int .i64 d.f1, .int .i64 d.f2, .int .i64 d.f3] 28)) fun e X' => (∃ t, e = .returned (.tuple #[.pointer (some ⟨t, 0, none⟩), .int .i64 0]) ∧ LM B 0 X' t m [newS d, newS d] []) ∧ Below w.heap.size w X' := by
  have hb : Below w.heap.size w (w.alloc (.cells #[.string d.f0, .int .i64 d.f1, .int .i64 d.f2, .int .i64 d.f3, .string d.f0, .int .i64 d.f1, .int .i64 d.f2, .int .i64 d.f3] 28)) := below_alloc (Below.refl _ _) _
  refine (lm_new _ B m _ 2 [d, d] (h.below hb) (Nat.le_trans hB hb.size) (def_lit2 _ d _ (heap_alloc_new w _)) (Nat.le_trans (Nat.le_refl 2) (by decide))).mono ?_
  rintro e X' ⟨hp, hbb⟩
  refine ⟨?_, hb.trans (hbb.mono hb.size)⟩
  have hs' : [d, d].all sizesB = true := by simp [hs]
  rw [if_pos hs'] at hp
  exact hp
theorem ent_lit (X : World) (e : Ent) (g : Nat) (A0 A1 : Option Addr) (c0 c1 : Nat) (h : X.heap[g]? = some (.cells #[.slice A0 e.f0.length c0, .slice A1 e.f1.length c1] 42 (0, 0))) (l0 : e.f0.length ≤ c0) (k0 : Kd.C (Kd.int .u8) X A0 e.f0.length e.f0) (l1 : e.f1.length ≤ c1) (k1 : Kd.C (Kd.int .u8) X A1 e.f1.length e.f1) : Kd.C k42 X (some ⟨g, 0, none⟩) 1 [e] := by
  have hL : X.heap[g]? = some (.cells ([.slice A0 e.f0.length c0, .slice A1 e.f1.length c1] : List Value).toArray 42 (0, 0)) := h
  refine ⟨rfl, by decide, fun _ => ⟨_, rfl, fun j p hp => ?_⟩⟩
  match j, hp with
  | 0, hp =>
    cases hp
    refine ⟨_, rfl, k42_mk X e l0 k0 l1 k1, fun i u hu => ?_⟩
    rw [show ((⟨g, 0, none⟩ : Addr).add (0 * (k42).sz + i)) = ⟨g, i, none⟩ by rw [add_plain]; simp]
    rw [blk_cell hL i]
    match i, hu with
    | 0, hu => exact hu
    | 1, hu => exact hu
    | i + 2, hu => simp at hu
  | j + 1, hp => simp at hp
theorem ByteS.some_ {X : World} {base : Nat} {v : Value} {l : List Int} (h : ByteS X base v l) (hl : 1 ≤ l.length) : ∃ g c, v = .slice (some ⟨g, 0, none⟩) l.length c ∧ base ≤ g ∧ g < X.heap.size := by
  have h' := h
  obtain ⟨A, c, rfl, hc, hm, h⟩ := h
  rcases h with ⟨rfl, rfl⟩ | ⟨g, cur, fr, rfl, hg, hb, _⟩
  · simp at hl
  · exact ⟨g, c, rfl, hg, (Array.getElem?_eq_some_iff.1 hb).1⟩
theorem EntRow.one {X : World} {base c : Nat} {A : Option Addr} {vs : List (Value × Value)} {e : Ent} (h : EntRow X base (.slice A 1 c) vs [e]) (h0 : 1 ≤ e.f0.length) (h1 : 1 ≤ e.f1.length) :
    ∃ gr gk ck gv cv, A = some ⟨gr, 0, none⟩ ∧ X.cell? ⟨gr, 0, none⟩ = some (.slice (some ⟨gk, 0, none⟩) e.f0.length ck) ∧ X.cell? ⟨gr, 1, none⟩ = some (.slice (some ⟨gv, 0, none⟩) e.f1.length cv) ∧ ByteS X base (.slice (some ⟨gk, 0, none⟩) e.f0.length ck) e.f0 ∧ ByteS X base (.slice (some ⟨gv, 0, none⟩) e.f1.length cv) e.f1 ∧ gk ≠ gv ∧ base ≤ gk ∧ gk < X.heap.size ∧ base ≤ gv ∧ gv < X.heap.size := by
  have hl := h.len
  obtain ⟨p, rfl⟩ : ∃ p, vs = [p] := by
    match vs, hl with
    | [p], _ => exact ⟨p, rfl⟩
  obtain ⟨b1, b2, b3, b4⟩ := h.ent 0 p e rfl rfl
  obtain ⟨kv, vv⟩ := p
  obtain ⟨gk, ck, rfl, k1, k2⟩ := b1.some_ h0
  obtain ⟨gv, cv, rfl, v1, v2⟩ := b2.some_ h1
  rcases h.row.2 with ⟨_, hz⟩ | ⟨gr, cap, cur, hv, _, hb, _⟩
  · simp at hz
  · cases hv
    have hc := h.row.cells (g := gr) rfl
    have e0 := hc 0 (.slice (some ⟨gk, 0, none⟩) e.f0.length ck) rfl
    have e1 := hc 1 (.slice (some ⟨gv, 0, none⟩) e.f1.length cv) rfl
    rw [add_plain] at e0 e1
    exact ⟨gr, gk, ck, gv, cv, rfl, e0, e1, b1, b2, fun e => b4 gk rfl (by rw [e]; rfl), k1, k2, v1, v2⟩
end Go.Proofs.YtomnfkihieinbaaDoor.PAll
