-- By a program of this session (xp.py) over the kit's print, with texts of this session.
import Derived.Test.YthahmmmkojeddaaDoorPAllx0
import Derived.Test.YthahmmmkojeddaaDoorNumBase
import Derived.Test.YthahmmmkojeddaaDoorNumLet
import Derived.WalkSpells
import Derived.RangeFuncBox
import Derived.Laws.RangeAny
import Derived.Laws.BitsAllLaws
import Derived.WalkMore
import Derived.ScopeJumps
namespace Go.Proofs.YthahmmmkojeddaaDoor.PAll
open Go.RowKit Go.Proofs.YthahmmmkojeddaaDoorW.PrintWords Go.Proofs.YthahmmmkojeddaaDoorW.PrintLast Go.Proofs.YthahmmmkojeddaaDoorW.PrintMore
attribute [local go_sem] max2_int min2_int max_two min_two max_three min_three max_four min_four   -- for this text's walks alone
set_option linter.unusedVariables false
set_option linter.unusedSimpArgs false

-- EXTERN
-- XIMPORT Derived.Test.YthahmmmkojeddaaDoorNumBase Derived.Test.YthahmmmkojeddaaDoorNumLet Derived.WalkSpells Derived.RangeFuncBox Derived.Laws.RangeAny Derived.Laws.BitsAllLaws Derived.WalkMore Derived.ScopeJumps
/-! ### strings.IndexRune beyond ASCII, in the sixteen digits -/
theorem enc_high (r : Int) (h0 : 128 ≤ r) (hv : Lib.validRune r = true) : (∃ x y : UInt8, Utf8.encode r = ⟨#[x, y]⟩ ∧ 128 ≤ y.toNat) ∨ (∃ x z y : UInt8, Utf8.encode r = ⟨#[x, z, y]⟩ ∧ 128 ≤ y.toNat) ∨ (∃ x z u y : UInt8, Utf8.encode r = ⟨#[x, z, u, y]⟩ ∧ 128 ≤ y.toNat) := by
  have hval : Utf8.valid r = true := by
    simp only [Lib.validRune, Utf8.valid] at hv ⊢
    simp at hv ⊢
    omega
  unfold Utf8.encode
  simp only [hval, if_true]
  have hb : ∀ n : Nat, 128 ≤ (UInt8.ofNat (128 + n % 64)).toNat := fun n => by rw [UInt8.toNat_ofNat', Nat.mod_eq_of_lt (by omega)]; omega
  rw [if_neg (by omega)]
  by_cases h2 : r.toNat < 2048
  · rw [if_pos h2]; exact .inl ⟨_, _, rfl, hb _⟩
  · rw [if_neg h2]
    by_cases h3 : r.toNat < 65536
    · rw [if_pos h3]; exact .inr (.inl ⟨_, _, _, rfl, hb _⟩)
    · rw [if_neg h3]; exact .inr (.inr ⟨_, _, _, _, rfl, hb _⟩)
def LIT16 : ByteArray := ⟨#[48, 49, 50, 51, 52, 53, 54, 55, 56, 57, 97, 98, 99, 100, 101, 102]⟩
theorem lit_low : ∀ n : Fin 16, (LIT16[n.1]'(n.2)).toNat < 128 := by decide +kernel
theorem lit_no (y : UInt8) (hy : 128 ≤ y.toNat) (k : Nat) : Lib.indexByte (hexLetters.drop k) y = -1 := by
  have h : ∀ l : List UInt8, (∀ b ∈ l, b.toNat < 128) → Lib.indexByte l y = -1 := by
    intro l
    induction l with
    | nil => intro _; rfl
    | cons b r ih =>
      intro hb
      have hne : (b == y) = false := beq_eq_false_iff_ne.2 (fun e => by have := hb b (by simp); rw [e] at this; omega)
      simp only [Lib.indexByte, hne, ih (fun x hx => hb x (by simp [hx]))]
      rfl
  refine h _ (fun b hb => ?_)
  have hm := List.mem_of_mem_drop hb
  revert hm
  have : ∀ b ∈ hexLetters, b.toNat < 128 := by decide
  exact this b
set_option maxHeartbeats 8000000 in
set_option maxRecDepth 100000 in
theorem IndexRune_bad (r : Int) (w : World) (h0 : 128 ≤ r) (h1 : r ≤ 2147483647) (hne : r ≠ 65533) (hv : Lib.validRune r = false) :
    Calls Tryd.prog 31 #[.string ⟨#[48, 49, 50, 51, 52, 53, 54, 55, 56, 57, 97, 98, 99, 100, 101, 102]⟩, .int .i32 r] w fun e w' => e = .returned (.int .i64 (-1)) ∧ Below w.heap.size w w' := by
  have c1 : (0 ≤ r) := by omega
  have c2 : ¬ (r < 128) := by omega
  have HV := Aside0.mk (Tryd.utf8_ValidRune r)
  rw [hv] at HV
  go_enter Tryd.func31, Tryd.ntmps31
  go_wp2_with (go_at_call 39; refine (HV.out _).mono ?_; rintro e w2 ⟨rfl, rfl⟩)
  go_ret
  exact ⟨rfl, Below.refl _ _⟩
set_option maxHeartbeats 8000000 in
set_option maxRecDepth 100000 in
theorem IndexRune_err (w : World) :
    Calls Tryd.prog 31 #[.string ⟨#[48, 49, 50, 51, 52, 53, 54, 55, 56, 57, 97, 98, 99, 100, 101, 102]⟩, .int .i32 65533] w fun e w' => e = .returned (.int .i64 (-1)) ∧ Below w.heap.size w w' := by
  go_enter Tryd.func31, Tryd.ntmps31
  go_wp2
  go_loopw [] (fun wr => ∃ pos : Nat, pos ≤ 16 ∧ Aside0 (wr.heap[w.heap.size]? = some (.stringIter LIT16 pos)) ∧ Aside0 (Below w.heap.size w wr)) (fun wr => 16 - wr.iterPos w.heap.size)
  case atStart => exact ⟨0, by omega, ⟨World.iter_heap w LIT16 0⟩, ⟨below_alloc (Below.refl _ _) _⟩⟩
  case round =>
    obtain ⟨pos, hpos, HIT, HB⟩ := hrel
    by_cases hlt : pos < 16
    · have hl := lit_low ⟨pos, hlt⟩
      have hsz : pos < LIT16.size := hlt
      have hnx : ∀ ty, (Instr.next (.pointer (some ⟨w.heap.size, 0, none⟩)) true ty).run Tryd.prog wr = _ := fun ty => Lib.run_next_ascii_at (P := Tryd.prog) wr w.heap.size LIT16 pos ty HIT.out hsz hl
      obtain ⟨c, hc⟩ : ∃ c : Int, c = ((LIT16[pos]'hsz).toNat : Int) := ⟨_, rfl⟩
      have hcl : c < 128 := by rw [hc]; have : (LIT16[pos]'hsz).toNat < 128 := hl; omega
      rw [← hc] at hnx
      have hcb : (c == 65533) = false := by rw [beq_eq_false_iff_ne]; omega
      have HIT2 := Aside0.mk (Lib.iterAt_heap wr w.heap.size LIT16 pos (pos + 1) HIT.out)
      have HB2 := Aside0.mk (Lib.below_iterAt HB.out (k := w.heap.size) (by omega) LIT16 (pos + 1))
      clear hc hl
      go_wp2
      refine ⟨⟨pos + 1, by omega, HIT2, HB2⟩, ?_⟩
      have g1 := HIT2.out
      have g2 := HIT.out
      simp only [World.iterPos, g1, g2]
      omega
    · obtain rfl : pos = 16 := by omega
      have hsz : ¬ 16 < LIT16.size := by decide
      have hnx : ∀ ty, (Instr.next (.pointer (some ⟨w.heap.size, 0, none⟩)) true ty).run Tryd.prog wr = .ok (.tuple #[.bool false]) wr := fun ty => Lib.run_next_end_at wr w.heap.size LIT16 16 ty HIT.out hsz
      go_wp2
      go_ret
      exact ⟨rfl, HB.out⟩
set_option maxHeartbeats 8000000 in
set_option maxRecDepth 100000 in
theorem IndexRune_two (r : Int) (x y : UInt8) (w : World) (h0 : 128 ≤ r) (h1 : r ≤ 2147483647) (hne : r ≠ 65533) (hv : Lib.validRune r = true) (henc : Utf8.encode r = ⟨#[x, y]⟩) (hy : 128 ≤ y.toNat) :
    Calls Tryd.prog 31 #[.string ⟨#[48, 49, 50, 51, 52, 53, 54, 55, 56, 57, 97, 98, 99, 100, 101, 102]⟩, .int .i32 r] w fun e w' => e = .returned (.int .i64 (-1)) ∧ Below w.heap.size w w' := by
  have c1 : (0 ≤ r) := by omega
  have c2 : ¬ (r < 128) := by omega
  have HV := Aside0.mk (Tryd.utf8_ValidRune r)
  rw [hv] at HV
  have hyb : ((49 : Int) != (y.toNat : Int)) = true := by rw [bne_iff_ne]; omega
  have hyb2 : ¬ ((49 : Int) = (y.toNat : Int)) := by omega
  have HIB := Aside0.mk (fun w => Tryd.strings_IndexByte ⟨(hexLetters.drop 2).toArray⟩ (y.toNat : Int) w)
  rw [show ((⟨(hexLetters.drop 2).toArray⟩ : ByteArray)).data.toList = hexLetters.drop 2 from rfl, Int.toNat_natCast, show y.toNat.toUInt8 = y by simp, lit_no y hy 2] at HIB
  clear hv hy
  go_enter Tryd.func31, Tryd.ntmps31
  go_wp2_with (go_at_call 39; refine (HV.out _).mono ?_; rintro e w2 ⟨rfl, rfl⟩)
  go_step3
  go_wp2
  go_loopw [9] (fun v9 wr => v9 = .int .i64 1 ∧ w2 = wr) (fun _ _ => 0)
  case atStart => exact ⟨rfl, rfl⟩
  case round =>
    obtain ⟨rfl, rfl⟩ := hrel
    go_wp2
    go_step3
    go_wp2
    go_region
    rw [show (((((⟨#[48, 49, 50, 51, 52, 53, 54, 55, 56, 57, 97, 98, 99, 100, 101, 102]⟩ : ByteArray)[1]'(by decide)).toNat : Nat) : Int) != ((((⟨#[x, y]⟩ : ByteArray)[1]'(by show 1 < 2; decide)).toNat : Nat) : Int)) = true from hyb]
    go_wp2
    go_region_with (go_at_call 38; refine (HIB.out _).mono ?_; rintro e w3 ⟨rfl, rfl⟩)
    all_goals first
      | (rename_i hb_; exact absurd hb_ (by first | (rw [show IntKind.i64.wrap 2 = 2 by decide]; decide) | decide))
      | (go_wp2
         rw [Exit.noGoto_ret]
         first | (go_ret; exact ⟨rfl, by repeat (first | exact Below.refl _ _ | apply below_drew)⟩) | (go_wp2; rw [Exit.noGoto_ret]; go_ret; exact ⟨rfl, by repeat (first | exact Below.refl _ _ | apply below_drew)⟩))
set_option maxHeartbeats 8000000 in
set_option maxRecDepth 100000 in
theorem IndexRune_three (r : Int) (x z y : UInt8) (w : World) (h0 : 128 ≤ r) (h1 : r ≤ 2147483647) (hne : r ≠ 65533) (hv : Lib.validRune r = true) (henc : Utf8.encode r = ⟨#[x, z, y]⟩) (hy : 128 ≤ y.toNat) :
    Calls Tryd.prog 31 #[.string ⟨#[48, 49, 50, 51, 52, 53, 54, 55, 56, 57, 97, 98, 99, 100, 101, 102]⟩, .int .i32 r] w fun e w' => e = .returned (.int .i64 (-1)) ∧ Below w.heap.size w w' := by
  have c1 : (0 ≤ r) := by omega
  have c2 : ¬ (r < 128) := by omega
  have HV := Aside0.mk (Tryd.utf8_ValidRune r)
  rw [hv] at HV
  have hyb : ((50 : Int) != (y.toNat : Int)) = true := by rw [bne_iff_ne]; omega
  have hyb2 : ¬ ((50 : Int) = (y.toNat : Int)) := by omega
  have HIB := Aside0.mk (fun w => Tryd.strings_IndexByte ⟨(hexLetters.drop 3).toArray⟩ (y.toNat : Int) w)
  rw [show ((⟨(hexLetters.drop 3).toArray⟩ : ByteArray)).data.toList = hexLetters.drop 3 from rfl, Int.toNat_natCast, show y.toNat.toUInt8 = y by simp, lit_no y hy 3] at HIB
  clear hv hy
  go_enter Tryd.func31, Tryd.ntmps31
  go_wp2_with (go_at_call 39; refine (HV.out _).mono ?_; rintro e w2 ⟨rfl, rfl⟩)
  go_step3
  go_wp2
  go_loopw [9] (fun v9 wr => v9 = .int .i64 2 ∧ w2 = wr) (fun _ _ => 0)
  case atStart => exact ⟨rfl, rfl⟩
  case round =>
    obtain ⟨rfl, rfl⟩ := hrel
    go_wp2
    go_step3
    go_wp2
    go_region
    rw [show (((((⟨#[48, 49, 50, 51, 52, 53, 54, 55, 56, 57, 97, 98, 99, 100, 101, 102]⟩ : ByteArray)[2]'(by decide)).toNat : Nat) : Int) != ((((⟨#[x, z, y]⟩ : ByteArray)[2]'(by show 2 < 3; decide)).toNat : Nat) : Int)) = true from hyb]
    go_wp2
    go_region_with (go_at_call 38; refine (HIB.out _).mono ?_; rintro e w3 ⟨rfl, rfl⟩)
    all_goals first
      | (rename_i hb_; exact absurd hb_ (by first | (rw [show IntKind.i64.wrap 3 = 3 by decide]; decide) | decide))
      | (go_wp2
         rw [Exit.noGoto_ret]
         first | (go_ret; exact ⟨rfl, by repeat (first | exact Below.refl _ _ | apply below_drew)⟩) | (go_wp2; rw [Exit.noGoto_ret]; go_ret; exact ⟨rfl, by repeat (first | exact Below.refl _ _ | apply below_drew)⟩))
set_option maxHeartbeats 8000000 in
set_option maxRecDepth 100000 in
theorem IndexRune_four (r : Int) (x z u y : UInt8) (w : World) (h0 : 128 ≤ r) (h1 : r ≤ 2147483647) (hne : r ≠ 65533) (hv : Lib.validRune r = true) (henc : Utf8.encode r = ⟨#[x, z, u, y]⟩) (hy : 128 ≤ y.toNat) :
    Calls Tryd.prog 31 #[.string ⟨#[48, 49, 50, 51, 52, 53, 54, 55, 56, 57, 97, 98, 99, 100, 101, 102]⟩, .int .i32 r] w fun e w' => e = .returned (.int .i64 (-1)) ∧ Below w.heap.size w w' := by
  have c1 : (0 ≤ r) := by omega
  have c2 : ¬ (r < 128) := by omega
  have HV := Aside0.mk (Tryd.utf8_ValidRune r)
  rw [hv] at HV
  have hyb : ((51 : Int) != (y.toNat : Int)) = true := by rw [bne_iff_ne]; omega
  have hyb2 : ¬ ((51 : Int) = (y.toNat : Int)) := by omega
  have HIB := Aside0.mk (fun w => Tryd.strings_IndexByte ⟨(hexLetters.drop 4).toArray⟩ (y.toNat : Int) w)
  rw [show ((⟨(hexLetters.drop 4).toArray⟩ : ByteArray)).data.toList = hexLetters.drop 4 from rfl, Int.toNat_natCast, show y.toNat.toUInt8 = y by simp, lit_no y hy 4] at HIB
  clear hv hy
  go_enter Tryd.func31, Tryd.ntmps31
  go_wp2_with (go_at_call 39; refine (HV.out _).mono ?_; rintro e w2 ⟨rfl, rfl⟩)
  go_step3
  go_wp2
  go_loopw [9] (fun v9 wr => v9 = .int .i64 3 ∧ w2 = wr) (fun _ _ => 0)
  case atStart => exact ⟨rfl, rfl⟩
  case round =>
    obtain ⟨rfl, rfl⟩ := hrel
    go_wp2
    go_step3
    go_wp2
    go_region
    rw [show (((((⟨#[48, 49, 50, 51, 52, 53, 54, 55, 56, 57, 97, 98, 99, 100, 101, 102]⟩ : ByteArray)[3]'(by decide)).toNat : Nat) : Int) != ((((⟨#[x, z, u, y]⟩ : ByteArray)[3]'(by show 3 < 4; decide)).toNat : Nat) : Int)) = true from hyb]
    go_wp2
    go_region_with (go_at_call 38; refine (HIB.out _).mono ?_; rintro e w3 ⟨rfl, rfl⟩)
    all_goals first
      | (rename_i hb_; exact absurd hb_ (by first | (rw [show IntKind.i64.wrap 4 = 4 by decide]; decide) | decide))
      | (go_wp2
         rw [Exit.noGoto_ret]
         first | (go_ret; exact ⟨rfl, by repeat (first | exact Below.refl _ _ | apply below_drew)⟩) | (go_wp2; rw [Exit.noGoto_ret]; go_ret; exact ⟨rfl, by repeat (first | exact Below.refl _ _ | apply below_drew)⟩))
theorem IndexRune_high (r : Int) (w : World) (h0 : 128 ≤ r) (h1 : r ≤ 2147483647) :
    Calls Tryd.prog 31 #[.string ⟨hexLetters.toArray⟩, .int .i32 r] w fun e w' => e = .returned (.int .i64 (-1)) ∧ Below w.heap.size w w' := by
  show Calls Tryd.prog 31 #[.string ⟨#[48, 49, 50, 51, 52, 53, 54, 55, 56, 57, 97, 98, 99, 100, 101, 102]⟩, .int .i32 r] w _
  by_cases he : r = 65533
  · subst he; exact IndexRune_err w
  · cases hv : Lib.validRune r with
    | false => exact IndexRune_bad r w h0 h1 he hv
    | true =>
      rcases enc_high r h0 hv with ⟨x, y, e, hy⟩ | ⟨x, z, y, e, hy⟩ | ⟨x, z, u, y, e, hy⟩
      · exact IndexRune_two r x y w h0 h1 he hv e hy
      · exact IndexRune_three r x z y w h0 h1 he hv e hy
      · exact IndexRune_four r x z u y w h0 h1 he hv e hy
/-! ### num.Unhex -/
def hexV (b : UInt8) : Int := Lib.indexByte hexLetters b
def vAt (l : List UInt8) (i : Nat) : Int := hexV (l.getD i 0)
def cellU (l : List UInt8) (pos j : Nat) : Int := if 2 * j + 1 < pos then vAt l (2 * j) * 16 + vAt l (2 * j + 1) else if 2 * j < pos then vAt l (2 * j) else 0
def rowU (l : List UInt8) (m pos : Nat) : List Int := (List.range m).map (cellU l pos)
def unhexR (l : List UInt8) : List Int × Int := if l.length % 2 = 1 then ([], 3) else if l.all (fun b => decide (0 ≤ hexV b)) = true then (rowU l (l.length / 2) l.length, 0) else ([], 3)
def num_Unhex.f (a0 : ByteArray) : Option (List Int × Int) := if a0.size ≤ 1073741824 then some (unhexR a0.data.toList) else none
theorem hexV_lt (b : UInt8) : hexV b < 16 ∧ -1 ≤ hexV b := by
  have h : ∀ n : Fin 256, hexV (UInt8.ofNat n.1) < 16 ∧ -1 ≤ hexV (UInt8.ofNat n.1) := by decide +kernel
  have := h ⟨b.toNat, b.toNat_lt⟩
  simpa using this
theorem rowU_length (l : List UInt8) (m pos : Nat) : (rowU l m pos).length = m := by simp [rowU]
theorem rowU_zero (l : List UInt8) (m : Nat) : rowU l m 0 = List.replicate m 0 := by
  unfold rowU
  apply List.ext_getElem
  · simp
  · intro i h1 h2
    simp [cellU]
theorem rowU_next (l : List UInt8) (m pos : Nat) (hm : pos / 2 < m) : rowU l m (pos + 1) = (rowU l m pos).set (pos / 2) (if pos % 2 = 0 then vAt l pos else vAt l (pos - 1) * 16 + vAt l pos) := by
  unfold rowU
  apply List.ext_getElem
  · simp
  · intro j h1 h2
    simp only [List.getElem_map, List.getElem_range, List.getElem_set]
    by_cases hj : pos / 2 = j
    · subst hj
      rw [if_pos rfl]
      unfold cellU
      by_cases he : pos % 2 = 0
      · rw [if_pos he, if_neg (by omega), if_pos (by omega), show 2 * (pos / 2) = pos by omega]
      · rw [if_neg he, if_pos (by omega), show 2 * (pos / 2) = pos - 1 by omega, show pos - 1 + 1 = pos by omega]
    · rw [if_neg hj]
      unfold cellU
      by_cases h3 : 2 * j + 1 < pos
      · rw [if_pos (by omega), if_pos h3]
      · by_cases h4 : 2 * j < pos
        · omega
        · rw [if_neg (by omega), if_neg (by omega), if_neg h3, if_neg h4]
theorem own_rowU {k : IntKind} {t : TypeId} {w wr : World} {g n : Nat} {xs : List Int} (h : wr.heap[g]? = some (.cells (nums k xs).toArray t (0, 0))) (hg : w.heap.size ≤ g) (hn : xs.length = n) (hm : n ≤ maxLen) :
    Kd.R (Kd.int k) t wr w.heap.size (fun _ => True) (.slice (some ⟨g, 0, none⟩) n n) xs := by
  subst hn
  refine Kd.R_of_own ?_ (fun _ _ => trivial)
  refine ⟨by simp [encs], .inr ⟨g, xs.length, _, rfl, hg, h, by omega, hm, by simp [nums_length], ?_⟩⟩
  rw [Nat.mul_one, List.take_of_length_le (by simp [nums_length])]; rfl
theorem or_nib (a d : Int) (h0 : 0 ≤ a) (h1 : a < 16) (h2 : 0 ≤ d) (h3 : d < 16) : bits .or .u8 (a * 16) d = a * 16 + d := by
  rw [u8_or (a * 16) d (by omega) (by omega) h2 (by omega)]
  have h : ∀ x y : Fin 16, (x.1 * 16) ||| y.1 = x.1 * 16 + y.1 := by decide +kernel
  have := h ⟨a.toNat, by omega⟩ ⟨d.toNat, by omega⟩
  simp only [] at this
  rw [show (a * 16).toNat = a.toNat * 16 by omega, this]
  omega
theorem nums_set (k : IntKind) (xs : List Int) (j : Nat) (y : Int) : (nums k xs).toArray.setIfInBounds j (.int k y) = (nums k (xs.set j y)).toArray := by
  unfold nums
  rw [List.map_set]
  simp
theorem made_rowU (w : World) (m : Nat) : (w.alloc (.cells (madeCells #[.int .u8 0] m) 5)).heap[w.heap.size]? = some (.cells (nums .u8 (List.replicate m 0)).toArray 5 (0, 0)) := by
  rw [heap_alloc_new]
  congr 2
  apply Array.ext'
  apply List.ext_getElem
  · simp [nums, size_madeCells]
  · intro i h1 h2
    simp [madeCells, nums, Nat.mod_one]
set_option maxHeartbeats 8000000 in
set_option maxRecDepth 100000 in
theorem num_Unhex.any (a0 : ByteArray) (w : World) (hs : a0.size ≤ 1073741824)
    (HIX : ∀ (r : Int) (w : World), 128 ≤ r → r ≤ 2147483647 → Calls Tryd.prog 31 #[.string ⟨hexLetters.toArray⟩, .int .i32 r] w fun e w' => e = .returned (.int .i64 (-1)) ∧ Below w.heap.size w w') :
    Calls Tryd.prog 19 #[.string a0] w fun e w' => ∃ v0_ : Value, e = .returned (.tuple #[v0_, .int .i64 (unhexR a0.data.toList).2]) ∧ Kd.R (Kd.int .u8) 5 w' w.heap.size (fun _ => True) v0_ (unhexR a0.data.toList).1 ∧ Below w.heap.size w w' := by
  obtain ⟨l, hl⟩ : ∃ l, a0.data.toList = l := ⟨_, rfl⟩
  have ha : a0 = ⟨l.toArray⟩ := by rw [← hl]
  have hlen : a0.size = l.length := by rw [← data_length, hl]
  rw [hl]
  by_cases hodd : l.length % 2 = 1
  · have e : unhexR l = ([], 3) := by unfold unhexR; rw [if_pos hodd]
    rw [e]
    have hz : ((Int.tmod (a0.size : Int) 2) == 1) = true := by rw [beq_iff_eq, Int.tmod_eq_emod_of_nonneg (by omega)]; omega
    have hz2 : (a0.size : Int) % 2 = 1 := by omega
    clear HIX
    go_enter Tryd.func19, Tryd.ntmps19
    go_wp2
    refine bodyPost_ret (v := .tuple #[.slice none 0 0, .int .i64 3]) (by simp [results, Tryd.f19, go_sem]) rfl ?_
    exact ⟨_, rfl, Kd.R_nil _ _ _ _ _, Below.refl _ _⟩
  · have hz2 : (a0.size : Int) % 2 ≠ 1 := by omega
    have hz3 : ((l.length : Int) % 2 == 1) = false := by rw [beq_eq_false_iff_ne]; omega
    obtain ⟨m, hm⟩ : ∃ m, m = l.length / 2 := ⟨_, rfl⟩
    have hmI : Int.tdiv (l.length : Int) 2 = (m : Int) := by rw [Int.tdiv_eq_ediv_of_nonneg (by omega)]; omega
    have hmI2 : (l.length : Int) / 2 = (m : Int) := by omega
    have hmk := print_make (P := Tryd.prog) 36 5 .u8 1 Tryd.underlying36 (by kernel_rfl) (by decide) m (by omega)
    have HIX' := Aside0.mk HIX
    clear HIX
    have hrow := made_rowU w m
    have HROW := Aside0.mk hrow
    have HM := Aside0.mk hm
    have HA := Aside0.mk ha
    have hmb : m ≤ 1073741824 := by omega
    have HODD := Aside0.mk hodd
    clear hrow hm hodd hz2 ha
    go_enter Tryd.func19, Tryd.ntmps19
    go_wp2
    go_loopw [] (fun wr => ∃ pos : Nat, pos ≤ l.length ∧ Aside0 (∀ b ∈ l.take pos, 0 ≤ hexV b) ∧ Aside0 (wr.heap[w.heap.size]? = some (.cells (nums .u8 (rowU l m pos)).toArray 5 (0, 0))) ∧ Aside0 (wr.heap[w.heap.size + 1]? = some (.stringIter a0 pos)) ∧ Aside0 (Below w.heap.size w wr)) (fun wr => l.length - wr.iterPos (w.heap.size + 1))
    case atStart =>
      refine ⟨0, Nat.zero_le _, ⟨fun b hb => by cases hb⟩, ⟨?_⟩, ⟨?_⟩, ⟨below_alloc (below_alloc (Below.refl _ _) _) _⟩⟩
      · rw [rowU_zero]
        exact (Below.heap_alloc _ _ _ (blk_lt HROW.out)).trans HROW.out
      · have := World.iter_heap (w.alloc (.cells (madeCells #[.int .u8 0] m) 5)) a0 0
        simpa using this
    case round =>
      obtain ⟨pos, hpos, HG, HR, HIT, HB⟩ := hrel
      by_cases hlt : pos < l.length
      · obtain ⟨b, hbe⟩ : ∃ b, b = l[pos] := ⟨_, rfl⟩
        have hsz : pos < a0.size := by omega
        have hbs : a0[pos]'hsz = b := by
          rw [hbe]
          have ha' := HA.out
          subst ha'
          rfl
        have hvb : vAt l pos = hexV b := by unfold vAt; rw [hbe, List.getD_eq_getElem?_getD, List.getElem?_eq_getElem hlt]; rfl
        have hb8 := b.toNat_lt
        have hmem : b ∈ l := by rw [hbe]; exact List.getElem_mem hlt
        by_cases hd : hexV b < 0
        · have e3 : unhexR l = ([], 3) := by
            unfold unhexR
            rw [if_neg HODD.out, if_neg]
            intro h
            have := List.all_eq_true.1 h b hmem
            rw [decide_eq_true_eq] at this
            omega
          have E3 := Aside0.mk e3
          obtain ⟨c, hc0, hc1, p2, hnx, hix⟩ : ∃ c : Int, 0 ≤ c ∧ c ≤ 2147483647 ∧ ∃ p2, (∀ ty, (Instr.next (.pointer (some ⟨w.heap.size + 1, 0, none⟩)) true ty).run Tryd.prog wr = .ok (.tuple #[.bool true, .int .i64 pos, .int .i32 c]) (wr.iterAt (w.heap.size + 1) a0 p2)) ∧
              (∀ w : World, Calls Tryd.prog 31 #[.string ⟨hexLetters.toArray⟩, .int .i32 c] w fun e w' => e = .returned (.int .i64 (-1)) ∧ Below w.heap.size w w') := by
            by_cases hb1 : b.toNat < 128
            · refine ⟨b.toNat, by omega, by omega, pos + 1, fun ty => ?_, fun w => ?_⟩
              · have h := Lib.run_next_ascii_at (P := Tryd.prog) wr (w.heap.size + 1) a0 pos ty HIT.out hsz (by rw [hbs]; exact hb1)
                rw [hbs] at h
                exact h
              · refine (Tryd.strings_IndexRune_ascii ⟨hexLetters.toArray⟩ b.toNat w (by omega) (by omega)).mono ?_
                rintro e w' ⟨rfl, rfl⟩
                refine ⟨?_, Below.refl _ _⟩
                have e1 : Lib.indexByte hexLetters b = -1 := by have := hexV_lt b; unfold hexV at hd this; omega
                rw [Int.toNat_natCast, show b.toNat.toUInt8 = b by simp]
                rw [show (⟨hexLetters.toArray⟩ : ByteArray).data.toList = hexLetters from rfl, e1]
            · have hh := decode_high a0 pos hsz (by rw [hbs]; omega)
              have hle := decode_le a0 pos
              exact ⟨(Utf8.decode a0 pos).1, by omega, by omega, _, fun ty => Lib.run_next_any_at (P := Tryd.prog) wr (w.heap.size + 1) a0 pos ty HIT.out hsz, fun w => HIX'.out _ w (by omega) (by omega)⟩
          have HB2 := Aside0.mk (Lib.below_iterAt HB.out (k := w.heap.size + 1) (by omega) a0 p2)
          have hlit : (⟨hexLetters.toArray⟩ : ByteArray) = ⟨#[48, 49, 50, 51, 52, 53, 54, 55, 56, 57, 97, 98, 99, 100, 101, 102]⟩ := rfl
          rw [hlit] at hix
          have HX := Aside0.mk hix
          clear hd e3 hbe hbs hvb hmem hix hlit
          go_wp2_with (go_at_call 31; refine (HX.out _).mono ?_; rintro e w2 ⟨rfl, hb2⟩; have HB3 := Aside0.mk (below_then HB2.out HB2.out.size hb2); clear hb2)
          refine bodyPost_ret (v := .tuple #[.slice none 0 0, .int .i64 3]) (by simp [results, Tryd.f19, go_sem]) rfl ?_
          exact ⟨_, by rw [E3.out], by rw [E3.out]; exact Kd.R_nil _ _ _ _ _, HB3.out⟩
        · have hb1 : b.toNat < 128 := by
            refine Decidable.byContradiction fun h => hd ?_
            have hall : ∀ n : Fin 256, 128 ≤ n.1 → hexV (UInt8.ofNat n.1) = -1 := by decide +kernel
            have h2 : hexV b = -1 := by
              have h3 := hall ⟨b.toNat, b.toNat_lt⟩ (by show 128 ≤ b.toNat; omega)
              simpa using h3
            omega
          have hnx : ∀ ty, (Instr.next (.pointer (some ⟨w.heap.size + 1, 0, none⟩)) true ty).run Tryd.prog wr = .ok (.tuple #[.bool true, .int .i64 pos, .int .i32 b.toNat]) (wr.iterAt (w.heap.size + 1) a0 (pos + 1)) := fun ty => by
            have h := Lib.run_next_ascii_at (P := Tryd.prog) wr (w.heap.size + 1) a0 pos ty HIT.out hsz (by rw [hbs]; exact hb1)
            rw [hbs] at h
            exact h
          have hdv := hexV_lt b
          obtain ⟨d, hde⟩ : ∃ d, hexV b = d := ⟨_, rfl⟩
          have hix : ∀ w : World, Calls Tryd.prog 31 #[.string ⟨#[48, 49, 50, 51, 52, 53, 54, 55, 56, 57, 97, 98, 99, 100, 101, 102]⟩, .int .i32 b.toNat] w fun e w' => e = .returned (.int .i64 d) ∧ w' = w := fun w => by
            refine (Tryd.strings_IndexRune_ascii ⟨hexLetters.toArray⟩ b.toNat w (by omega) (by omega)).mono ?_
            rintro e w' ⟨rfl, rfl⟩
            refine ⟨?_, rfl⟩
            rw [Int.toNat_natCast, show b.toNat.toUInt8 = b by simp, show (⟨hexLetters.toArray⟩ : ByteArray).data.toList = hexLetters from rfl, ← hde]
            rfl
          have HX := Aside0.mk hix
          rw [hde] at hd hdv hvb
          obtain ⟨c, hce⟩ : ∃ c : Int, c = (b.toNat : Int) := ⟨_, rfl⟩
          rw [← hce] at HX hnx
          have hgp : HG = HG := rfl
          have HG2 := Aside0.mk (show ∀ x ∈ l.take (pos + 1), 0 ≤ hexV x from fun x hx => by
            rw [List.take_add_one, List.getElem?_eq_getElem hlt] at hx
            rcases List.mem_append.1 hx with h | h
            · exact HG.out x h
            · have : x = b := by rw [hbe]; simpa using h
              rw [this, hde]; omega)
          have hiter := Lib.iterAt_heap wr (w.heap.size + 1) a0 pos (pos + 1) HIT.out
          have HIT2 := Aside0.mk hiter
          have hrow2 : (wr.iterAt (w.heap.size + 1) a0 (pos + 1)).heap[w.heap.size]? = some (.cells (nums .u8 (rowU l m pos)).toArray 5 (0, 0)) := by
            rw [Lib.iterAt_other _ _ _ _ _ (by omega)]
            exact HR.out
          have HR2 := Aside0.mk hrow2
          have hm2 : pos / 2 < m := by have h1 := HM.out; have h2 := HODD.out; omega
          obtain ⟨j, hj⟩ : ∃ j, j = pos / 2 := ⟨_, rfl⟩
          have hdivI : (pos : Int) / 2 = (j : Int) := by omega
          have hdivT : Int.tdiv (pos : Int) 2 = (j : Int) := by rw [Int.tdiv_eq_ediv_of_nonneg (by omega)]; omega
          obtain ⟨old, hold⟩ : ∃ old, old = cellU l pos j := ⟨_, rfl⟩
          have HNX := Aside0.mk (rowU_next l m pos hm2)
          rw [← hj] at HNX hm2
          have hcell : (wr.iterAt (w.heap.size + 1) a0 (pos + 1)).cell? ⟨w.heap.size, j, none⟩ = some (.int .u8 old) := (blk_cell hrow2 j).trans (by
            rw [hold]
            simp [nums, rowU, hm2])
          have hfz := blk_frozen hrow2 j
          have hob : 0 ≤ old ∧ old < 16 := by
            rw [hold]
            unfold cellU
            rw [if_neg (by omega)]
            split
            · have h1 := hexV_lt (l.getD (2 * j) 0)
              have h2 : 0 ≤ hexV (l.getD (2 * j) 0) := by
                refine HG.out _ ?_
                have hlt2 : 2 * j < (l.take pos).length := by rw [List.length_take]; omega
                have := List.getElem_mem hlt2
                rw [List.getElem_take] at this
                rw [List.getD_eq_getElem?_getD, List.getElem?_eq_getElem (by omega)]
                exact this
              exact ⟨h2, h1.1⟩
            · omega
          have HJ := Aside0.mk hj
          have HB2 := Aside0.mk (Lib.below_iterAt HB.out (k := w.heap.size + 1) (by omega) a0 (pos + 1))
          have HVB := Aside0.mk hvb
          have HOLD := Aside0.mk hold
          have hob1 := hob.1
          have hob2 := hob.2
          clear hgp hrow2 hiter hix hce hde hbe hbs hmem hvb hold hb8 hb1 hj hob
          go_wp2_with (go_at_call 31; refine (HX.out _).mono ?_; rintro e w2 ⟨rfl, rfl⟩)
          rw [or_nib old d hob1 hob2 hd hdv.1]
          have hnv : (if pos % 2 = 0 then vAt l pos else vAt l (pos - 1) * 16 + vAt l pos) = old * 16 + d := by
            have hj' := HJ.out
            rw [HVB.out, HOLD.out]
            unfold cellU
            by_cases he : pos % 2 = 0
            · rw [if_pos he, if_neg (by omega), if_neg (by omega)]; omega
            · rw [if_neg he, if_neg (by omega), if_pos (by omega), show 2 * j = pos - 1 by omega]
          refine ⟨⟨pos + 1, by omega, HG2, ⟨?_⟩, ⟨?_⟩, ⟨below_set HB2.out (Nat.le_refl _)⟩⟩, ?_⟩
          · rw [blk_set HR2.out j _, nums_set, HNX.out, hnv]
          · exact (Below.heap_setCell _ _ _ _ (by simp)).trans HIT2.out
          · have h1 := (Below.heap_setCell (wr.iterAt (w.heap.size + 1) a0 (pos + 1)) ⟨w.heap.size, j, none⟩ (Value.int .u8 (old * 16 + d)) (w.heap.size + 1) (by simp)).trans HIT2.out
            have h2 := HIT.out
            simp only [World.iterPos, h1, h2]
            omega
      · obtain rfl : pos = l.length := by omega
        have hsz : ¬ l.length < a0.size := by omega
        have hnx : ∀ ty, (Instr.next (.pointer (some ⟨w.heap.size + 1, 0, none⟩)) true ty).run Tryd.prog wr = .ok (.tuple #[.bool false]) wr := fun ty => Lib.run_next_end_at wr (w.heap.size + 1) a0 l.length ty HIT.out hsz
        have e4 : unhexR l = (rowU l m l.length, 0) := by
          unfold unhexR
          rw [if_neg HODD.out, if_pos, HM.out]
          rw [List.all_eq_true]
          intro b hb
          rw [decide_eq_true_eq]
          exact HG.out b (by rw [List.take_length]; exact hb)
        have E4 := Aside0.mk e4
        clear e4
        go_wp2
        refine bodyPost_ret (v := .tuple #[.slice (some ⟨w.heap.size, 0, none⟩) m m, .int .i64 0]) (by simp [results, Tryd.f19, go_sem]) rfl ?_
        exact ⟨_, by rw [E4.out], by rw [E4.out]; exact own_rowU HR.out (Nat.le_refl _) (rowU_length _ _ _) (by unfold maxLen; omega), HB.out⟩
theorem num_Unhex.calls (a0 : ByteArray) (r1 : List Int) (r2 : Int) (w : World) (h : num_Unhex.f a0 = some (r1, r2)) :
    Calls Tryd.prog 19 #[.string a0] w fun e w' => ∃ v0_ : Value, e = .returned (.tuple #[v0_, .int .i64 r2]) ∧ Kd.R (Kd.int .u8) 5 w' w.heap.size (fun _ => True) v0_ r1 ∧ Below w.heap.size w w' := by
  unfold num_Unhex.f at h
  split at h
  · rename_i hs
    have e : unhexR a0.data.toList = (r1, r2) := Option.some.inj h
    have hh := num_Unhex.any a0 w hs (fun r w h0 h1 => IndexRune_high r w h0 h1)
    rw [e] at hh
    exact hh
  · cases h

end Go.Proofs.YthahmmmkojeddaaDoor.PAll
