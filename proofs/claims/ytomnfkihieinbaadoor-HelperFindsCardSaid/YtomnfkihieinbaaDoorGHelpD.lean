/- The texts HelpStart, HelpFD of this claim, joined. -/
import Derived.Test.YtomnfkihieinbaaDoorGHelpC
import Derived.Deep.AppendLies
import Derived.Deep.RegionLaw
/- helper: start over bytes that were put together. -/
set_option linter.unusedVariables false
set_option linter.unusedSimpArgs false
namespace Go.Proofs.YtomnfkihieinbaaDoor.PAll
open Go.RowKit Go.Shelf Go.Maps Go.Proofs.YtomnfkihieinbaaDoorW.PrintWords Go.Proofs.YtomnfkihieinbaaDoorW.PrintLast Go.Proofs.YtomnfkihieinbaaDoorW.PrintMore
theorem infoU8' : (Tryd.prog.info? 5).map (fun i => (i.zero, i.size, i.bytes)) = some (some (.int .u8 0), 1, 1) := by kernel_rfl
theorem own_empty {w : World} {B g : Nat} (h : w.heap[g]? = some (.cells #[] 5 (0, 0))) (hB : B ≤ g) : w.ownsRow B 5 1 (.slice (some ⟨g, 0, none⟩) 0 0) 0 [] :=
  ⟨rfl, .inr ⟨g, 0, #[], rfl, hB, h, Nat.le_refl _, by decide, rfl, rfl⟩⟩
theorem nums_one (l : List Int) : ∀ u ∈ nums .u8 l, u.oneCell' = true := fun u hu => by
  obtain ⟨x, _, rfl⟩ := List.mem_map.1 hu
  rfl
theorem C_some {X : World} {A : Option Addr} {l : List Int} (h : Kd.C (Kd.int .u8) X A l.length l) (hl : 1 ≤ l.length) : ∃ a, A = some a ∧ ∀ w, Below X.heap.size X w → ∀ j u, (nums .u8 l)[j]? = some u → w.cell? (a.add j) = some u := by
  have hr := Kd.reads_of_C (enc := Value.int .u8) (d := (0 : Int)) (h1 := fun _ => rfl) h
  obtain ⟨ad, e, hc⟩ := hr.2.2 hl
  refine ⟨ad, e, fun w hb j u hu => ?_⟩
  have hj : j < l.length := by
    have := (List.getElem?_eq_some_iff.1 hu).1
    simpa [nums] using this
  have h1 := cell_below' (n := 0) hb (hc j hj)
  rw [h1, ← hu]
  simp [nums, hj, List.getD_eq_getElem?_getD]
theorem isB_app {a b : List Int} (ha : IsBytes a) (hb : IsBytes b) : IsBytes (a ++ b) := fun x hx => (List.mem_append.1 hx).elim (ha x) (hb x)
theorem nums_app (a b : List Int) : nums .u8 (a ++ b) = nums .u8 a ++ nums .u8 b := by simp [nums]
theorem start_own (w : World) (B g cap gd : Nat) (data : List Int) (d : S28) (hr : w.ownsRow B 5 1 (.slice (some ⟨g, 0, none⟩) data.length cap) data.length (nums .u8 data)) (h1 : 0 < data.length) (h2 : data.length ≤ 65536) (hb : IsBytes data)
    (hd : w.heap[gd]? = some (.cells (defCells d) 28 (0, 0))) (hs : sizesB d = true) :
    Calls Tryd.prog 9 #[.slice (some ⟨g, 0, none⟩) data.length cap, .slice (some ⟨gd, 0, none⟩) 1 1] w (StartPost w data [newS d]) := by
  obtain ⟨A, c, hv, hc, _, hC⟩ := row_C hr
  cases hv
  exact start_c w _ _ cap 1 data [d] hC hc h1 h2 hb (def_lit w d gd hd) (by show 1 ≤ 255; decide) (by simp [hs])
end Go.Proofs.YtomnfkihieinbaaDoor.PAll
/- helper: what the calls of HelperFinds and HelperDeletes answer. -/
set_option linter.unusedVariables false
set_option linter.unusedSimpArgs false
namespace Go.Proofs.YtomnfkihieinbaaDoor.PAll
open Go.RowKit Go.Shelf Go.Maps Go.Proofs.YtomnfkihieinbaaDoorW.PrintWords Go.Proofs.YtomnfkihieinbaaDoorW.PrintLast Go.Proofs.YtomnfkihieinbaaDoorW.PrintMore
theorem bytesF_one (r : Reg) (R : List Reg) (a n : Int) (h : hitR a n r = true) : bytesF (r :: R) a n = some ((r.data.drop (a - r.base).toNat).take n.toNat) := by
  unfold bytesF
  rw [List.findIdx?_cons, h]
  rfl
theorem bytesF_skip (r : Reg) (R : List Reg) (a n : Int) (h : hitR a n r = false) : bytesF (r :: R) a n = bytesF R a n := by
  unfold bytesF
  rw [List.findIdx?_cons, h]
  cases hf : R.findIdx? (hitR a n) with
  | none => rfl
  | some k => rfl
def fK0 (key value : List Int) : List Reg := [⟨4294967296, key ++ value⟩]
def fK1 (key value : List Int) : List Reg := [⟨4611686018427387904, value⟩, ⟨4294967296, key ++ value⟩]
theorem fb_key (key value : List Int) (h1 : 1 ≤ key.length) (R : List Reg) : bytesF (⟨4294967296, key ++ value⟩ :: R) 4294967296 key.length = some key := by
  rw [bytesF_one ⟨4294967296, key ++ value⟩ R 4294967296 key.length (hit_iff.2 ⟨by omega, Int.le_refl _, by show (4294967296 : Int) + (key.length : Int) ≤ (4294967296 : Int) + ((key ++ value).length : Int); rw [List.length_append]; omega⟩)]
  simp
theorem fb_val (key value : List Int) (h1 : 1 ≤ value.length) (R : List Reg) : bytesF (⟨4294967296, key ++ value⟩ :: R) (4294967296 + (key.length : Int)) value.length = some value := by
  rw [bytesF_one ⟨4294967296, key ++ value⟩ R (4294967296 + (key.length : Int)) value.length (hit_iff.2 ⟨by omega, by show (4294967296 : Int) ≤ 4294967296 + (key.length : Int); omega, by show (4294967296 + (key.length : Int)) + (value.length : Int) ≤ (4294967296 : Int) + ((key ++ value).length : Int); rw [List.length_append]; omega⟩)]
  have e : (4294967296 + (key.length : Int) - 4294967296).toNat = key.length := by omega
  show some (((key ++ value).drop (4294967296 + (key.length : Int) - 4294967296).toNat).take (value.length : Int).toNat) = _
  rw [e, Int.toNat_natCast, List.drop_left, List.take_length]
theorem fb_key1 (key value : List Int) (h1 : 1 ≤ key.length) : bytesF (fK1 key value) 4294967296 key.length = some key := by
  unfold fK1
  rw [bytesF_skip, fb_key key value h1]
  rw [Bool.eq_false_iff]
  intro h
  have := (hit_iff.1 h).2.1
  exact absurd this (by show ¬ (4611686018427387904 : Int) ≤ 4294967296; decide)
theorem fb_new (key value : List Int) (h1 : 1 ≤ value.length) : bytesF (fK1 key value) 4611686018427387904 value.length = some value := by
  unfold fK1
  rw [bytesF_one ⟨4611686018427387904, value⟩ _ 4611686018427387904 value.length (hit_iff.2 ⟨by omega, Int.le_refl _, Int.le_refl _⟩)]
  simp
theorem one_miss {key : List Int} {kl vl n : Int} {ents : List (List Int × Int)} {next : Int} {K : List Reg} (hk : (key.length : Int) = kl) (hl : lookE ents key = none) : delR (kS kl vl n ents next) 0 key = -2 ∧ delS (kS kl vl n ents next) 0 key = kS kl vl n ents next ∧ delK (kS kl vl n ents next) K 0 key = K := by
  unfold delR delS delK
  rw [getP_kS]
  simp only [hk, if_true, hl]
  exact ⟨trivial, trivial, trivial⟩
theorem fd_idx (kl vl n : Int) (ents : List (List Int × Int)) (next : Int) : indexF (kS kl vl n ents next).length 2305843009213693952 = (0, true) := by
  show indexF 1 _ = _
  kernel_rfl
theorem fd_def (kl vl n : Int) (ents : List (List Int × Int)) (next : Int) : (defF (kS kl vl n ents next) 0).f1 = kl ∧ (defF (kS kl vl n ents next) 0).f2 = vl := ⟨rfl, rfl⟩
theorem fd_addK (key value : List Int) (hk1 : 1 ≤ key.length) (hk2 : key.length ≤ 64) (hv1 : 1 ≤ value.length) (hv2 : value.length ≤ 256) : addG (fK0 key value) 4611686018427387904 value = fK1 key value := by
  have ho : addOk (fK0 key value) 4611686018427387904 value.length = true := decide_eq_true ⟨by omega, by omega, fun r hr => by
    rw [List.mem_singleton.1 hr]
    show (4294967296 : Int) + ((key ++ value).length : Int) ≤ _ ∨ _
    rw [List.length_append]
    omega⟩
  unfold addG
  rw [if_pos ho]
  rfl
theorem fd_put (key value : List Int) (hk1 : 1 ≤ key.length) (hk2 : key.length ≤ 64) (hv1 : 1 ≤ value.length) (hv2 : value.length ≤ 256) : callG (kS key.length value.length 1 [] 0) (fK0 key value) 2 2305843009213693952 4294967296 (4294967296 + (key.length : Int)) = ⟨0, 0, kS key.length value.length 1 [(key, 0)] 1, fK1 key value⟩ := by
  obtain ⟨e1, e2, e3⟩ := one_new (key := key) (value := value) (kl := key.length) (vl := value.length) (n := 1) (ents := []) (next := 0) (K := fK0 key value) rfl rfl rfl (by show ((0 : Nat) : Int) < 1; decide)
  have e5 : IntKind.u64.wrap 0 = 0 := by kernel_rfl
  unfold callG
  rw [fd_idx, if_pos rfl]
  dsimp only
  rw [(fd_def _ _ _ _ _).1, (fd_def _ _ _ _ _).2, show bytesF (fK0 key value) 4294967296 key.length = some key from fb_key key value hk1 [], show bytesF (fK0 key value) (4294967296 + (key.length : Int)) value.length = some value from fb_val key value hv1 []]
  dsimp only
  rw [if_pos rfl, e1, e2, e3, e5, a00, wr1, fd_addK key value hk1 hk2 hv1 hv2]
  rfl
theorem fd_del1 (key value : List Int) (hk1 : 1 ≤ key.length) (hk2 : key.length ≤ 64) (hv1 : 1 ≤ value.length) (hv2 : value.length ≤ 256) (x : Int) : callG (kS key.length value.length 1 [(key, 0)] 1) (fK1 key value) 3 2305843009213693952 4294967296 x = ⟨0, 0, kS key.length value.length 1 [] 1, fK0 key value⟩ := by
  obtain ⟨e1, e2, e3⟩ := one_del (key := key) (kl := key.length) (vl := value.length) (n := 1) (ents := [(key, 0)]) (next := 1) (K := fK1 key value) (z := 0) rfl (by rw [look1]; simp)
  have e5 : IntKind.u64.wrap 0 = 0 := by kernel_rfl
  have e6 : delE [(key, (0 : Int))] key = [] := by simp [delE]
  have e7 : remR (fK1 key value) 4611686018427387904 = fK0 key value := by simp [remR, fK1, fK0]
  unfold callG
  rw [fd_idx, if_pos rfl]
  dsimp only
  rw [(fd_def _ _ _ _ _).1, fb_key1 key value hk1]
  dsimp only
  rw [if_neg (by decide), if_neg (by decide), e1, e2, e3, e5, a00, e6, e7]
theorem fd_miss (key value : List Int) (hk1 : 1 ≤ key.length) (hk2 : key.length ≤ 64) (hv1 : 1 ≤ value.length) (hv2 : value.length ≤ 256) (next x : Int) : callG (kS key.length value.length 1 [] next) (fK0 key value) 3 2305843009213693952 4294967296 x = ⟨0, 18446744073709551614, kS key.length value.length 1 [] next, fK0 key value⟩ := by
  obtain ⟨e1, e2, e3⟩ := one_miss (key := key) (kl := key.length) (vl := value.length) (n := 1) (ents := []) (next := next) (K := fK0 key value) rfl rfl
  have e5 : IntKind.u64.wrap (-2) = 18446744073709551614 := by kernel_rfl
  unfold callG
  rw [fd_idx, if_pos rfl]
  dsimp only
  rw [(fd_def _ _ _ _ _).1, show bytesF (fK0 key value) 4294967296 key.length = some key from fb_key key value hk1 []]
  dsimp only
  rw [if_neg (by decide), if_neg (by decide), e1, e2, e3, e5]
theorem fd_look0 (key value : List Int) (hk1 : 1 ≤ key.length) (hk2 : key.length ≤ 64) (hv1 : 1 ≤ value.length) (hv2 : value.length ≤ 256) (next x : Int) : callG (kS key.length value.length 1 [] next) (fK0 key value) 1 2305843009213693952 4294967296 x = ⟨0, 0, kS key.length value.length 1 [] next, fK0 key value⟩ := by
  unfold callG
  rw [fd_idx, if_pos rfl]
  dsimp only
  rw [(fd_def _ _ _ _ _).1, show bytesF (fK0 key value) 4294967296 key.length = some key from fb_key key value hk1 []]
  dsimp only
  rw [if_neg (by decide), if_pos rfl, one_none rfl]
theorem fd_look1 (key value : List Int) (hk1 : 1 ≤ key.length) (hk2 : key.length ≤ 64) (hv1 : 1 ≤ value.length) (hv2 : value.length ≤ 256) (x : Int) : callG (kS key.length value.length 1 [(key, 0)] 1) (fK1 key value) 1 2305843009213693952 4294967296 x = ⟨0, 4611686018427387904, kS key.length value.length 1 [(key, 0)] 1, fK1 key value⟩ := by
  unfold callG
  rw [fd_idx, if_pos rfl]
  dsimp only
  rw [(fd_def _ _ _ _ _).1, fb_key1 key value hk1]
  dsimp only
  rw [if_neg (by decide), if_pos rfl, one_look (z := 0) (by rw [look1]; simp), a00]
theorem fd_keys (key value : List Int) (hk1 : 1 ≤ key.length) (hk2 : key.length ≤ 64) (hv1 : 1 ≤ value.length) (hv2 : value.length ≤ 256) (ents : List (List Int × Int)) (next : Int) : KeysOk (kS key.length value.length 1 ents next) := fun s hs => by
  rw [List.mem_singleton.1 hs]
  exact ⟨by show (0 : Int) ≤ key.length; omega, by show (key.length : Int) ≤ 64; omega⟩
end Go.Proofs.YtomnfkihieinbaaDoor.PAll
