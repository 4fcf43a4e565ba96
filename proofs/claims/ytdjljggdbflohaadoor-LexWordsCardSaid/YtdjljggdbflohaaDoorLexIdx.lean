/- strings.IndexRune beyond ASCII, strings.ContainsRune at the three literal texts. By gen_index.py. -/
import Derived.Test.YtdjljggdbflohaaDoorLexBase
import Derived.OwnWalk
import Derived.Laws.BytesArg
import Derived.Lib.ConvBytes
import Derived.Laws.Slices
import Derived.RowKit3
import Derived.Deep.LoopGhost
import Derived.WalkKit
import Derived.RangeFuncBox
import Derived.WalkMore
import Derived.ScopeJumps
import Derived.Laws.BitsAllLaws
set_option linter.unusedVariables false
set_option linter.unusedSimpArgs false
namespace Go.Proofs.YtdjljggdbflohaaDoor.PAll
open Go.RowKit Go.Proofs.YtdjljggdbflohaaDoorW.PrintWords Go.Proofs.YtdjljggdbflohaaDoorW.PrintLast Go.Proofs.YtdjljggdbflohaaDoorW.PrintMore
/-! ### strings.IndexRune beyond ASCII at a literal text -/
theorem enc_high (r : Int) (h0 : 128 ≤ r) (hv : Lib.validRune r = true) : (∃ x y : UInt8, Utf8.encode r = ⟨#[x, y]⟩ ∧ 128 ≤ y.toNat) ∨ (∃ x z y : UInt8, Utf8.encode r = ⟨#[x, z, y]⟩ ∧ 128 ≤ y.toNat) ∨ (∃ x z u y : UInt8, Utf8.encode r = ⟨#[x, z, u, y]⟩ ∧ 128 ≤ y.toNat) := by
  have hval : Utf8.valid r = true := by
    simp only [Lib.validRune, Utf8.valid] at hv ⊢
    simp at hv ⊢
    omega
  unfold Utf8.encode
  simp only [hval, if_true]
  have hb : ∀ n : Nat, 128 ≤ (UInt8.ofNat (128 + n % 64)).toNat := fun n => by rw [UInt8.toNat_ofNat', Nat.mod_eq_of_lt (by omega)]; omega
  rw [if_neg (by omega)]
  by_cases h2 : r.toNat < 2048
  · rw [if_pos h2]; exact .inl ⟨_, _, rfl, hb _⟩
  · rw [if_neg h2]
    by_cases h3 : r.toNat < 65536
    · rw [if_pos h3]; exact .inr (.inl ⟨_, _, _, rfl, hb _⟩)
    · rw [if_neg h3]; exact .inr (.inr ⟨_, _, _, _, rfl, hb _⟩)
def litM : List UInt8 := [44, 91, 93, 43, 45, 58]
def LITM : ByteArray := ⟨#[44, 91, 93, 43, 45, 58]⟩
theorem lit_lowM : ∀ n : Fin 6, (LITM[n.1]'(n.2)).toNat < 128 := by decide +kernel
theorem lit_noM (y : UInt8) (hy : 128 ≤ y.toNat) (k : Nat) : Lib.indexByte (litM.drop k) y = -1 := by
  have h : ∀ l : List UInt8, (∀ b ∈ l, b.toNat < 128) → Lib.indexByte l y = -1 := by
    intro l
    induction l with
    | nil => intro _; rfl
    | cons b r ih =>
      intro hb
      have hne : (b == y) = false := beq_eq_false_iff_ne.2 (fun e => by have := hb b (by simp); rw [e] at this; omega)
      simp only [Lib.indexByte, hne, ih (fun x hx => hb x (by simp [hx]))]
      rfl
  refine h _ (fun b hb => ?_)
  have hm := List.mem_of_mem_drop hb
  revert hm
  have : ∀ b ∈ litM, b.toNat < 128 := by decide
  exact this b
set_option maxHeartbeats 8000000 in
set_option maxRecDepth 100000 in
theorem IndexRuneM_bad (r : Int) (w : World) (h0 : 128 ≤ r) (h1 : r ≤ 2147483647) (hne : r ≠ 65533) (hv : Lib.validRune r = false) :
    Calls Tryd.prog 39 #[.string ⟨#[44, 91, 93, 43, 45, 58]⟩, .int .i32 r] w fun e w' => e = .returned (.int .i64 (-1)) ∧ Below w.heap.size w w' := by
  have c1 : (0 ≤ r) := by omega
  have c2 : ¬ (r < 128) := by omega
  have HV := Aside0.mk (Tryd.utf8_ValidRune r)
  rw [hv] at HV
  go_enter Tryd.func39, Tryd.ntmps39
  go_wp2_with (go_at_call 48; refine (HV.out _).mono ?_; rintro e w2 ⟨rfl, rfl⟩)
  go_ret
  exact ⟨rfl, Below.refl _ _⟩
set_option maxHeartbeats 8000000 in
set_option maxRecDepth 100000 in
theorem IndexRuneM_err (w : World) :
    Calls Tryd.prog 39 #[.string ⟨#[44, 91, 93, 43, 45, 58]⟩, .int .i32 65533] w fun e w' => e = .returned (.int .i64 (-1)) ∧ Below w.heap.size w w' := by
  go_enter Tryd.func39, Tryd.ntmps39
  go_wp2
  go_loopw [] (fun wr => ∃ pos : Nat, pos ≤ 6 ∧ Aside0 (wr.heap[w.heap.size]? = some (.stringIter LITM pos)) ∧ Aside0 (Below w.heap.size w wr)) (fun wr => 6 - wr.iterPos w.heap.size)
  case atStart => exact ⟨0, by omega, ⟨World.iter_heap w LITM 0⟩, ⟨below_alloc (Below.refl _ _) _⟩⟩
  case round =>
    obtain ⟨pos, hpos, HIT, HB⟩ := hrel
    by_cases hlt : pos < 6
    · have hl := lit_lowM ⟨pos, hlt⟩
      have hsz : pos < LITM.size := hlt
      have hnx : ∀ ty, (Instr.next (.pointer (some ⟨w.heap.size, 0, none⟩)) true ty).run Tryd.prog wr = _ := fun ty => Lib.run_next_ascii_at (P := Tryd.prog) wr w.heap.size LITM pos ty HIT.out hsz hl
      obtain ⟨c, hc⟩ : ∃ c : Int, c = ((LITM[pos]'hsz).toNat : Int) := ⟨_, rfl⟩
      have hcl : c < 128 := by rw [hc]; have : (LITM[pos]'hsz).toNat < 128 := hl; omega
      rw [← hc] at hnx
      have hcb : (c == 65533) = false := by rw [beq_eq_false_iff_ne]; omega
      have HIT2 := Aside0.mk (Lib.iterAt_heap wr w.heap.size LITM pos (pos + 1) HIT.out)
      have HB2 := Aside0.mk (Lib.below_iterAt HB.out (k := w.heap.size) (by omega) LITM (pos + 1))
      clear hc hl
      go_wp2
      refine ⟨⟨pos + 1, by omega, HIT2, HB2⟩, ?_⟩
      have g1 := HIT2.out
      have g2 := HIT.out
      simp only [World.iterPos, g1, g2]
      omega
    · obtain rfl : pos = 6 := by omega
      have hsz : ¬ 6 < LITM.size := by decide
      have hnx : ∀ ty, (Instr.next (.pointer (some ⟨w.heap.size, 0, none⟩)) true ty).run Tryd.prog wr = .ok (.tuple #[.bool false]) wr := fun ty => Lib.run_next_end_at wr w.heap.size LITM 6 ty HIT.out hsz
      go_wp2
      go_ret
      exact ⟨rfl, HB.out⟩
set_option maxHeartbeats 8000000 in
set_option maxRecDepth 100000 in
theorem IndexRuneM_two (r : Int) (x y : UInt8) (w : World) (h0 : 128 ≤ r) (h1 : r ≤ 2147483647) (hne : r ≠ 65533) (hv : Lib.validRune r = true) (henc : Utf8.encode r = ⟨#[x, y]⟩) (hy : 128 ≤ y.toNat) :
    Calls Tryd.prog 39 #[.string ⟨#[44, 91, 93, 43, 45, 58]⟩, .int .i32 r] w fun e w' => e = .returned (.int .i64 (-1)) ∧ Below w.heap.size w w' := by
  have c1 : (0 ≤ r) := by omega
  have c2 : ¬ (r < 128) := by omega
  have HV := Aside0.mk (Tryd.utf8_ValidRune r)
  rw [hv] at HV
  have hyb : ((91 : Int) != (y.toNat : Int)) = true := by rw [bne_iff_ne]; omega
  have hyb2 : ¬ ((91 : Int) = (y.toNat : Int)) := by omega
  have HIB := Aside0.mk (fun w => Tryd.strings_IndexByte ⟨(litM.drop 2).toArray⟩ (y.toNat : Int) w)
  rw [show ((⟨(litM.drop 2).toArray⟩ : ByteArray)).data.toList = litM.drop 2 from rfl, Int.toNat_natCast, show y.toNat.toUInt8 = y by simp, lit_noM y hy 2] at HIB
  clear hv hy
  go_enter Tryd.func39, Tryd.ntmps39
  go_wp2_with (go_at_call 48; refine (HV.out _).mono ?_; rintro e w2 ⟨rfl, rfl⟩)
  go_step3
  go_wp2
  go_loopw [9] (fun v9 wr => v9 = .int .i64 1 ∧ w2 = wr) (fun _ _ => 0)
  case atStart => exact ⟨rfl, rfl⟩
  case round =>
    obtain ⟨rfl, rfl⟩ := hrel
    go_wp2
    go_step3
    go_wp2
    go_region
    rw [show (((((⟨#[44, 91, 93, 43, 45, 58]⟩ : ByteArray)[1]'(by decide)).toNat : Nat) : Int) != ((((⟨#[x, y]⟩ : ByteArray)[1]'(by show 1 < 2; decide)).toNat : Nat) : Int)) = true from hyb]
    go_wp2
    go_region_with (go_at_call 47; refine (HIB.out _).mono ?_; rintro e w3 ⟨rfl, rfl⟩)
    all_goals first
      | (rename_i hb_; exact absurd hb_ (by first | (rw [show IntKind.i64.wrap 2 = 2 by decide]; decide) | decide))
      | (go_wp2
         rw [Exit.noGoto_ret]
         first | (go_ret; exact ⟨rfl, by repeat (first | exact Below.refl _ _ | apply below_drew)⟩) | (go_wp2; rw [Exit.noGoto_ret]; go_ret; exact ⟨rfl, by repeat (first | exact Below.refl _ _ | apply below_drew)⟩))
set_option maxHeartbeats 8000000 in
set_option maxRecDepth 100000 in
theorem IndexRuneM_three (r : Int) (x z y : UInt8) (w : World) (h0 : 128 ≤ r) (h1 : r ≤ 2147483647) (hne : r ≠ 65533) (hv : Lib.validRune r = true) (henc : Utf8.encode r = ⟨#[x, z, y]⟩) (hy : 128 ≤ y.toNat) :
    Calls Tryd.prog 39 #[.string ⟨#[44, 91, 93, 43, 45, 58]⟩, .int .i32 r] w fun e w' => e = .returned (.int .i64 (-1)) ∧ Below w.heap.size w w' := by
  have c1 : (0 ≤ r) := by omega
  have c2 : ¬ (r < 128) := by omega
  have HV := Aside0.mk (Tryd.utf8_ValidRune r)
  rw [hv] at HV
  have hyb : ((93 : Int) != (y.toNat : Int)) = true := by rw [bne_iff_ne]; omega
  have hyb2 : ¬ ((93 : Int) = (y.toNat : Int)) := by omega
  have HIB := Aside0.mk (fun w => Tryd.strings_IndexByte ⟨(litM.drop 3).toArray⟩ (y.toNat : Int) w)
  rw [show ((⟨(litM.drop 3).toArray⟩ : ByteArray)).data.toList = litM.drop 3 from rfl, Int.toNat_natCast, show y.toNat.toUInt8 = y by simp, lit_noM y hy 3] at HIB
  clear hv hy
  go_enter Tryd.func39, Tryd.ntmps39
  go_wp2_with (go_at_call 48; refine (HV.out _).mono ?_; rintro e w2 ⟨rfl, rfl⟩)
  go_step3
  go_wp2
  go_loopw [9] (fun v9 wr => v9 = .int .i64 2 ∧ w2 = wr) (fun _ _ => 0)
  case atStart => exact ⟨rfl, rfl⟩
  case round =>
    obtain ⟨rfl, rfl⟩ := hrel
    go_wp2
    go_step3
    go_wp2
    go_region
    rw [show (((((⟨#[44, 91, 93, 43, 45, 58]⟩ : ByteArray)[2]'(by decide)).toNat : Nat) : Int) != ((((⟨#[x, z, y]⟩ : ByteArray)[2]'(by show 2 < 3; decide)).toNat : Nat) : Int)) = true from hyb]
    go_wp2
    go_region_with (go_at_call 47; refine (HIB.out _).mono ?_; rintro e w3 ⟨rfl, rfl⟩)
    all_goals first
      | (rename_i hb_; exact absurd hb_ (by first | (rw [show IntKind.i64.wrap 3 = 3 by decide]; decide) | decide))
      | (go_wp2
         rw [Exit.noGoto_ret]
         first | (go_ret; exact ⟨rfl, by repeat (first | exact Below.refl _ _ | apply below_drew)⟩) | (go_wp2; rw [Exit.noGoto_ret]; go_ret; exact ⟨rfl, by repeat (first | exact Below.refl _ _ | apply below_drew)⟩))
set_option maxHeartbeats 8000000 in
set_option maxRecDepth 100000 in
theorem IndexRuneM_four (r : Int) (x z u y : UInt8) (w : World) (h0 : 128 ≤ r) (h1 : r ≤ 2147483647) (hne : r ≠ 65533) (hv : Lib.validRune r = true) (henc : Utf8.encode r = ⟨#[x, z, u, y]⟩) (hy : 128 ≤ y.toNat) :
    Calls Tryd.prog 39 #[.string ⟨#[44, 91, 93, 43, 45, 58]⟩, .int .i32 r] w fun e w' => e = .returned (.int .i64 (-1)) ∧ Below w.heap.size w w' := by
  have c1 : (0 ≤ r) := by omega
  have c2 : ¬ (r < 128) := by omega
  have HV := Aside0.mk (Tryd.utf8_ValidRune r)
  rw [hv] at HV
  have hyb : ((43 : Int) != (y.toNat : Int)) = true := by rw [bne_iff_ne]; omega
  have hyb2 : ¬ ((43 : Int) = (y.toNat : Int)) := by omega
  have HIB := Aside0.mk (fun w => Tryd.strings_IndexByte ⟨(litM.drop 4).toArray⟩ (y.toNat : Int) w)
  rw [show ((⟨(litM.drop 4).toArray⟩ : ByteArray)).data.toList = litM.drop 4 from rfl, Int.toNat_natCast, show y.toNat.toUInt8 = y by simp, lit_noM y hy 4] at HIB
  clear hv hy
  go_enter Tryd.func39, Tryd.ntmps39
  go_wp2_with (go_at_call 48; refine (HV.out _).mono ?_; rintro e w2 ⟨rfl, rfl⟩)
  go_step3
  go_wp2
  go_loopw [9] (fun v9 wr => v9 = .int .i64 3 ∧ w2 = wr) (fun _ _ => 0)
  case atStart => exact ⟨rfl, rfl⟩
  case round =>
    obtain ⟨rfl, rfl⟩ := hrel
    go_wp2
    go_step3
    go_wp2
    go_region
    rw [show (((((⟨#[44, 91, 93, 43, 45, 58]⟩ : ByteArray)[3]'(by decide)).toNat : Nat) : Int) != ((((⟨#[x, z, u, y]⟩ : ByteArray)[3]'(by show 3 < 4; decide)).toNat : Nat) : Int)) = true from hyb]
    go_wp2
    go_region_with (go_at_call 47; refine (HIB.out _).mono ?_; rintro e w3 ⟨rfl, rfl⟩)
    all_goals first
      | (rename_i hb_; exact absurd hb_ (by first | (rw [show IntKind.i64.wrap 4 = 4 by decide]; decide) | decide))
      | (go_wp2
         rw [Exit.noGoto_ret]
         first | (go_ret; exact ⟨rfl, by repeat (first | exact Below.refl _ _ | apply below_drew)⟩) | (go_wp2; rw [Exit.noGoto_ret]; go_ret; exact ⟨rfl, by repeat (first | exact Below.refl _ _ | apply below_drew)⟩))
theorem IndexRuneM_high (r : Int) (w : World) (h0 : 128 ≤ r) (h1 : r ≤ 2147483647) :
    Calls Tryd.prog 39 #[.string ⟨#[44, 91, 93, 43, 45, 58]⟩, .int .i32 r] w fun e w' => e = .returned (.int .i64 (-1)) ∧ Below w.heap.size w w' := by
  by_cases he : r = 65533
  · subst he; exact IndexRuneM_err w
  · cases hv : Lib.validRune r with
    | false => exact IndexRuneM_bad r w h0 h1 he hv
    | true =>
      rcases enc_high r h0 hv with ⟨x, y, e, hy⟩ | ⟨x, z, y, e, hy⟩ | ⟨x, z, u, y, e, hy⟩
      · exact IndexRuneM_two r x y w h0 h1 he hv e hy
      · exact IndexRuneM_three r x z y w h0 h1 he hv e hy
      · exact IndexRuneM_four r x z u y w h0 h1 he hv e hy
def litC : List UInt8 := [59, 35]
def LITC : ByteArray := ⟨#[59, 35]⟩
theorem lit_lowC : ∀ n : Fin 2, (LITC[n.1]'(n.2)).toNat < 128 := by decide +kernel
theorem lit_noC (y : UInt8) (hy : 128 ≤ y.toNat) (k : Nat) : Lib.indexByte (litC.drop k) y = -1 := by
  have h : ∀ l : List UInt8, (∀ b ∈ l, b.toNat < 128) → Lib.indexByte l y = -1 := by
    intro l
    induction l with
    | nil => intro _; rfl
    | cons b r ih =>
      intro hb
      have hne : (b == y) = false := beq_eq_false_iff_ne.2 (fun e => by have := hb b (by simp); rw [e] at this; omega)
      simp only [Lib.indexByte, hne, ih (fun x hx => hb x (by simp [hx]))]
      rfl
  refine h _ (fun b hb => ?_)
  have hm := List.mem_of_mem_drop hb
  revert hm
  have : ∀ b ∈ litC, b.toNat < 128 := by decide
  exact this b
set_option maxHeartbeats 8000000 in
set_option maxRecDepth 100000 in
theorem IndexRuneC_bad (r : Int) (w : World) (h0 : 128 ≤ r) (h1 : r ≤ 2147483647) (hne : r ≠ 65533) (hv : Lib.validRune r = false) :
    Calls Tryd.prog 39 #[.string ⟨#[59, 35]⟩, .int .i32 r] w fun e w' => e = .returned (.int .i64 (-1)) ∧ Below w.heap.size w w' := by
  have c1 : (0 ≤ r) := by omega
  have c2 : ¬ (r < 128) := by omega
  have HV := Aside0.mk (Tryd.utf8_ValidRune r)
  rw [hv] at HV
  go_enter Tryd.func39, Tryd.ntmps39
  go_wp2_with (go_at_call 48; refine (HV.out _).mono ?_; rintro e w2 ⟨rfl, rfl⟩)
  go_ret
  exact ⟨rfl, Below.refl _ _⟩
set_option maxHeartbeats 8000000 in
set_option maxRecDepth 100000 in
theorem IndexRuneC_err (w : World) :
    Calls Tryd.prog 39 #[.string ⟨#[59, 35]⟩, .int .i32 65533] w fun e w' => e = .returned (.int .i64 (-1)) ∧ Below w.heap.size w w' := by
  go_enter Tryd.func39, Tryd.ntmps39
  go_wp2
  go_loopw [] (fun wr => ∃ pos : Nat, pos ≤ 2 ∧ Aside0 (wr.heap[w.heap.size]? = some (.stringIter LITC pos)) ∧ Aside0 (Below w.heap.size w wr)) (fun wr => 2 - wr.iterPos w.heap.size)
  case atStart => exact ⟨0, by omega, ⟨World.iter_heap w LITC 0⟩, ⟨below_alloc (Below.refl _ _) _⟩⟩
  case round =>
    obtain ⟨pos, hpos, HIT, HB⟩ := hrel
    by_cases hlt : pos < 2
    · have hl := lit_lowC ⟨pos, hlt⟩
      have hsz : pos < LITC.size := hlt
      have hnx : ∀ ty, (Instr.next (.pointer (some ⟨w.heap.size, 0, none⟩)) true ty).run Tryd.prog wr = _ := fun ty => Lib.run_next_ascii_at (P := Tryd.prog) wr w.heap.size LITC pos ty HIT.out hsz hl
      obtain ⟨c, hc⟩ : ∃ c : Int, c = ((LITC[pos]'hsz).toNat : Int) := ⟨_, rfl⟩
      have hcl : c < 128 := by rw [hc]; have : (LITC[pos]'hsz).toNat < 128 := hl; omega
      rw [← hc] at hnx
      have hcb : (c == 65533) = false := by rw [beq_eq_false_iff_ne]; omega
      have HIT2 := Aside0.mk (Lib.iterAt_heap wr w.heap.size LITC pos (pos + 1) HIT.out)
      have HB2 := Aside0.mk (Lib.below_iterAt HB.out (k := w.heap.size) (by omega) LITC (pos + 1))
      clear hc hl
      go_wp2
      refine ⟨⟨pos + 1, by omega, HIT2, HB2⟩, ?_⟩
      have g1 := HIT2.out
      have g2 := HIT.out
      simp only [World.iterPos, g1, g2]
      omega
    · obtain rfl : pos = 2 := by omega
      have hsz : ¬ 2 < LITC.size := by decide
      have hnx : ∀ ty, (Instr.next (.pointer (some ⟨w.heap.size, 0, none⟩)) true ty).run Tryd.prog wr = .ok (.tuple #[.bool false]) wr := fun ty => Lib.run_next_end_at wr w.heap.size LITC 2 ty HIT.out hsz
      go_wp2
      go_ret
      exact ⟨rfl, HB.out⟩
set_option maxHeartbeats 8000000 in
set_option maxRecDepth 100000 in
theorem IndexRuneC_two (r : Int) (x y : UInt8) (w : World) (h0 : 128 ≤ r) (h1 : r ≤ 2147483647) (hne : r ≠ 65533) (hv : Lib.validRune r = true) (henc : Utf8.encode r = ⟨#[x, y]⟩) (hy : 128 ≤ y.toNat) :
    Calls Tryd.prog 39 #[.string ⟨#[59, 35]⟩, .int .i32 r] w fun e w' => e = .returned (.int .i64 (-1)) ∧ Below w.heap.size w w' := by
  have c1 : (0 ≤ r) := by omega
  have c2 : ¬ (r < 128) := by omega
  have HV := Aside0.mk (Tryd.utf8_ValidRune r)
  rw [hv] at HV
  have hyb : ((35 : Int) != (y.toNat : Int)) = true := by rw [bne_iff_ne]; omega
  have hyb2 : ¬ ((35 : Int) = (y.toNat : Int)) := by omega
  have HIB := Aside0.mk (fun w => Tryd.strings_IndexByte ⟨(litC.drop 2).toArray⟩ (y.toNat : Int) w)
  rw [show ((⟨(litC.drop 2).toArray⟩ : ByteArray)).data.toList = litC.drop 2 from rfl, Int.toNat_natCast, show y.toNat.toUInt8 = y by simp, lit_noC y hy 2] at HIB
  clear hv hy
  go_enter Tryd.func39, Tryd.ntmps39
  go_wp2_with (go_at_call 48; refine (HV.out _).mono ?_; rintro e w2 ⟨rfl, rfl⟩)
  go_step3
  go_wp2
  go_loopw [9] (fun v9 wr => v9 = .int .i64 1 ∧ w2 = wr) (fun _ _ => 0)
  case atStart => exact ⟨rfl, rfl⟩
  case round =>
    obtain ⟨rfl, rfl⟩ := hrel
    go_wp2
    go_step3
    go_wp2
    go_region
    rw [show (((((⟨#[59, 35]⟩ : ByteArray)[1]'(by decide)).toNat : Nat) : Int) != ((((⟨#[x, y]⟩ : ByteArray)[1]'(by show 1 < 2; decide)).toNat : Nat) : Int)) = true from hyb]
    go_wp2
    go_region_with (go_at_call 47; refine (HIB.out _).mono ?_; rintro e w3 ⟨rfl, rfl⟩)
    all_goals first
      | (rename_i hb_; exact absurd hb_ (by first | (rw [show IntKind.i64.wrap 2 = 2 by decide]; decide) | decide))
      | (go_wp2
         rw [Exit.noGoto_ret]
         first | (go_ret; exact ⟨rfl, by repeat (first | exact Below.refl _ _ | apply below_drew)⟩) | (go_wp2; rw [Exit.noGoto_ret]; go_ret; exact ⟨rfl, by repeat (first | exact Below.refl _ _ | apply below_drew)⟩))
set_option maxHeartbeats 8000000 in
set_option maxRecDepth 100000 in
theorem IndexRuneC_three (r : Int) (x z y : UInt8) (w : World) (h0 : 128 ≤ r) (h1 : r ≤ 2147483647) (hne : r ≠ 65533) (hv : Lib.validRune r = true) (henc : Utf8.encode r = ⟨#[x, z, y]⟩) (hy : 128 ≤ y.toNat) :
    Calls Tryd.prog 39 #[.string ⟨#[59, 35]⟩, .int .i32 r] w fun e w' => e = .returned (.int .i64 (-1)) ∧ Below w.heap.size w w' := by
  have c1 : (0 ≤ r) := by omega
  have c2 : ¬ (r < 128) := by omega
  have HV := Aside0.mk (Tryd.utf8_ValidRune r)
  rw [hv] at HV
  clear hv hy
  go_enter Tryd.func39, Tryd.ntmps39
  go_wp2_with (go_at_call 48; refine (HV.out _).mono ?_; rintro e w2 ⟨rfl, rfl⟩)
  go_step3
  go_wp2
  go_loopw [9] (fun v9 wr => v9 = .int .i64 2 ∧ w2 = wr) (fun _ _ => 0)
  case atStart => exact ⟨rfl, rfl⟩
  case round =>
    obtain ⟨rfl, rfl⟩ := hrel
    go_wp2
    first | (rw [Exit.noGoto_ret]; go_ret; exact ⟨rfl, Below.refl _ _⟩) | (go_step3; go_wp2; rw [Exit.noGoto_ret]; go_ret; exact ⟨rfl, Below.refl _ _⟩)
set_option maxHeartbeats 8000000 in
set_option maxRecDepth 100000 in
theorem IndexRuneC_four (r : Int) (x z u y : UInt8) (w : World) (h0 : 128 ≤ r) (h1 : r ≤ 2147483647) (hne : r ≠ 65533) (hv : Lib.validRune r = true) (henc : Utf8.encode r = ⟨#[x, z, u, y]⟩) (hy : 128 ≤ y.toNat) :
    Calls Tryd.prog 39 #[.string ⟨#[59, 35]⟩, .int .i32 r] w fun e w' => e = .returned (.int .i64 (-1)) ∧ Below w.heap.size w w' := by
  have c1 : (0 ≤ r) := by omega
  have c2 : ¬ (r < 128) := by omega
  have HV := Aside0.mk (Tryd.utf8_ValidRune r)
  rw [hv] at HV
  clear hv hy
  go_enter Tryd.func39, Tryd.ntmps39
  go_wp2_with (go_at_call 48; refine (HV.out _).mono ?_; rintro e w2 ⟨rfl, rfl⟩)
  go_step3
  go_wp2
  go_loopw [9] (fun v9 wr => v9 = .int .i64 3 ∧ w2 = wr) (fun _ _ => 0)
  case atStart => exact ⟨rfl, rfl⟩
  case round =>
    obtain ⟨rfl, rfl⟩ := hrel
    go_wp2
    first | (rw [Exit.noGoto_ret]; go_ret; exact ⟨rfl, Below.refl _ _⟩) | (go_step3; go_wp2; rw [Exit.noGoto_ret]; go_ret; exact ⟨rfl, Below.refl _ _⟩)
theorem IndexRuneC_high (r : Int) (w : World) (h0 : 128 ≤ r) (h1 : r ≤ 2147483647) :
    Calls Tryd.prog 39 #[.string ⟨#[59, 35]⟩, .int .i32 r] w fun e w' => e = .returned (.int .i64 (-1)) ∧ Below w.heap.size w w' := by
  by_cases he : r = 65533
  · subst he; exact IndexRuneC_err w
  · cases hv : Lib.validRune r with
    | false => exact IndexRuneC_bad r w h0 h1 he hv
    | true =>
      rcases enc_high r h0 hv with ⟨x, y, e, hy⟩ | ⟨x, z, y, e, hy⟩ | ⟨x, z, u, y, e, hy⟩
      · exact IndexRuneC_two r x y w h0 h1 he hv e hy
      · exact IndexRuneC_three r x z y w h0 h1 he hv e hy
      · exact IndexRuneC_four r x z u y w h0 h1 he hv e hy
def litS : List UInt8 := [32, 9, 13]
def LITS : ByteArray := ⟨#[32, 9, 13]⟩
theorem lit_lowS : ∀ n : Fin 3, (LITS[n.1]'(n.2)).toNat < 128 := by decide +kernel
theorem lit_noS (y : UInt8) (hy : 128 ≤ y.toNat) (k : Nat) : Lib.indexByte (litS.drop k) y = -1 := by
  have h : ∀ l : List UInt8, (∀ b ∈ l, b.toNat < 128) → Lib.indexByte l y = -1 := by
    intro l
    induction l with
    | nil => intro _; rfl
    | cons b r ih =>
      intro hb
      have hne : (b == y) = false := beq_eq_false_iff_ne.2 (fun e => by have := hb b (by simp); rw [e] at this; omega)
      simp only [Lib.indexByte, hne, ih (fun x hx => hb x (by simp [hx]))]
      rfl
  refine h _ (fun b hb => ?_)
  have hm := List.mem_of_mem_drop hb
  revert hm
  have : ∀ b ∈ litS, b.toNat < 128 := by decide
  exact this b
set_option maxHeartbeats 8000000 in
set_option maxRecDepth 100000 in
theorem IndexRuneS_bad (r : Int) (w : World) (h0 : 128 ≤ r) (h1 : r ≤ 2147483647) (hne : r ≠ 65533) (hv : Lib.validRune r = false) :
    Calls Tryd.prog 39 #[.string ⟨#[32, 9, 13]⟩, .int .i32 r] w fun e w' => e = .returned (.int .i64 (-1)) ∧ Below w.heap.size w w' := by
  have c1 : (0 ≤ r) := by omega
  have c2 : ¬ (r < 128) := by omega
  have HV := Aside0.mk (Tryd.utf8_ValidRune r)
  rw [hv] at HV
  go_enter Tryd.func39, Tryd.ntmps39
  go_wp2_with (go_at_call 48; refine (HV.out _).mono ?_; rintro e w2 ⟨rfl, rfl⟩)
  go_ret
  exact ⟨rfl, Below.refl _ _⟩
set_option maxHeartbeats 8000000 in
set_option maxRecDepth 100000 in
theorem IndexRuneS_err (w : World) :
    Calls Tryd.prog 39 #[.string ⟨#[32, 9, 13]⟩, .int .i32 65533] w fun e w' => e = .returned (.int .i64 (-1)) ∧ Below w.heap.size w w' := by
  go_enter Tryd.func39, Tryd.ntmps39
  go_wp2
  go_loopw [] (fun wr => ∃ pos : Nat, pos ≤ 3 ∧ Aside0 (wr.heap[w.heap.size]? = some (.stringIter LITS pos)) ∧ Aside0 (Below w.heap.size w wr)) (fun wr => 3 - wr.iterPos w.heap.size)
  case atStart => exact ⟨0, by omega, ⟨World.iter_heap w LITS 0⟩, ⟨below_alloc (Below.refl _ _) _⟩⟩
  case round =>
    obtain ⟨pos, hpos, HIT, HB⟩ := hrel
    by_cases hlt : pos < 3
    · have hl := lit_lowS ⟨pos, hlt⟩
      have hsz : pos < LITS.size := hlt
      have hnx : ∀ ty, (Instr.next (.pointer (some ⟨w.heap.size, 0, none⟩)) true ty).run Tryd.prog wr = _ := fun ty => Lib.run_next_ascii_at (P := Tryd.prog) wr w.heap.size LITS pos ty HIT.out hsz hl
      obtain ⟨c, hc⟩ : ∃ c : Int, c = ((LITS[pos]'hsz).toNat : Int) := ⟨_, rfl⟩
      have hcl : c < 128 := by rw [hc]; have : (LITS[pos]'hsz).toNat < 128 := hl; omega
      rw [← hc] at hnx
      have hcb : (c == 65533) = false := by rw [beq_eq_false_iff_ne]; omega
      have HIT2 := Aside0.mk (Lib.iterAt_heap wr w.heap.size LITS pos (pos + 1) HIT.out)
      have HB2 := Aside0.mk (Lib.below_iterAt HB.out (k := w.heap.size) (by omega) LITS (pos + 1))
      clear hc hl
      go_wp2
      refine ⟨⟨pos + 1, by omega, HIT2, HB2⟩, ?_⟩
      have g1 := HIT2.out
      have g2 := HIT.out
      simp only [World.iterPos, g1, g2]
      omega
    · obtain rfl : pos = 3 := by omega
      have hsz : ¬ 3 < LITS.size := by decide
      have hnx : ∀ ty, (Instr.next (.pointer (some ⟨w.heap.size, 0, none⟩)) true ty).run Tryd.prog wr = .ok (.tuple #[.bool false]) wr := fun ty => Lib.run_next_end_at wr w.heap.size LITS 3 ty HIT.out hsz
      go_wp2
      go_ret
      exact ⟨rfl, HB.out⟩
set_option maxHeartbeats 8000000 in
set_option maxRecDepth 100000 in
theorem IndexRuneS_two (r : Int) (x y : UInt8) (w : World) (h0 : 128 ≤ r) (h1 : r ≤ 2147483647) (hne : r ≠ 65533) (hv : Lib.validRune r = true) (henc : Utf8.encode r = ⟨#[x, y]⟩) (hy : 128 ≤ y.toNat) :
    Calls Tryd.prog 39 #[.string ⟨#[32, 9, 13]⟩, .int .i32 r] w fun e w' => e = .returned (.int .i64 (-1)) ∧ Below w.heap.size w w' := by
  have c1 : (0 ≤ r) := by omega
  have c2 : ¬ (r < 128) := by omega
  have HV := Aside0.mk (Tryd.utf8_ValidRune r)
  rw [hv] at HV
  have hyb : ((9 : Int) != (y.toNat : Int)) = true := by rw [bne_iff_ne]; omega
  have hyb2 : ¬ ((9 : Int) = (y.toNat : Int)) := by omega
  have HIB := Aside0.mk (fun w => Tryd.strings_IndexByte ⟨(litS.drop 2).toArray⟩ (y.toNat : Int) w)
  rw [show ((⟨(litS.drop 2).toArray⟩ : ByteArray)).data.toList = litS.drop 2 from rfl, Int.toNat_natCast, show y.toNat.toUInt8 = y by simp, lit_noS y hy 2] at HIB
  clear hv hy
  go_enter Tryd.func39, Tryd.ntmps39
  go_wp2_with (go_at_call 48; refine (HV.out _).mono ?_; rintro e w2 ⟨rfl, rfl⟩)
  go_step3
  go_wp2
  go_loopw [9] (fun v9 wr => v9 = .int .i64 1 ∧ w2 = wr) (fun _ _ => 0)
  case atStart => exact ⟨rfl, rfl⟩
  case round =>
    obtain ⟨rfl, rfl⟩ := hrel
    go_wp2
    go_step3
    go_wp2
    go_region
    rw [show (((((⟨#[32, 9, 13]⟩ : ByteArray)[1]'(by decide)).toNat : Nat) : Int) != ((((⟨#[x, y]⟩ : ByteArray)[1]'(by show 1 < 2; decide)).toNat : Nat) : Int)) = true from hyb]
    go_wp2
    go_region_with (go_at_call 47; refine (HIB.out _).mono ?_; rintro e w3 ⟨rfl, rfl⟩)
    all_goals first
      | (rename_i hb_; exact absurd hb_ (by first | (rw [show IntKind.i64.wrap 2 = 2 by decide]; decide) | decide))
      | (go_wp2
         rw [Exit.noGoto_ret]
         first | (go_ret; exact ⟨rfl, by repeat (first | exact Below.refl _ _ | apply below_drew)⟩) | (go_wp2; rw [Exit.noGoto_ret]; go_ret; exact ⟨rfl, by repeat (first | exact Below.refl _ _ | apply below_drew)⟩))
set_option maxHeartbeats 8000000 in
set_option maxRecDepth 100000 in
theorem IndexRuneS_three (r : Int) (x z y : UInt8) (w : World) (h0 : 128 ≤ r) (h1 : r ≤ 2147483647) (hne : r ≠ 65533) (hv : Lib.validRune r = true) (henc : Utf8.encode r = ⟨#[x, z, y]⟩) (hy : 128 ≤ y.toNat) :
    Calls Tryd.prog 39 #[.string ⟨#[32, 9, 13]⟩, .int .i32 r] w fun e w' => e = .returned (.int .i64 (-1)) ∧ Below w.heap.size w w' := by
  have c1 : (0 ≤ r) := by omega
  have c2 : ¬ (r < 128) := by omega
  have HV := Aside0.mk (Tryd.utf8_ValidRune r)
  rw [hv] at HV
  have hyb : ((13 : Int) != (y.toNat : Int)) = true := by rw [bne_iff_ne]; omega
  have hyb2 : ¬ ((13 : Int) = (y.toNat : Int)) := by omega
  have HIB := Aside0.mk (fun w => Tryd.strings_IndexByte ⟨(litS.drop 3).toArray⟩ (y.toNat : Int) w)
  rw [show ((⟨(litS.drop 3).toArray⟩ : ByteArray)).data.toList = litS.drop 3 from rfl, Int.toNat_natCast, show y.toNat.toUInt8 = y by simp, lit_noS y hy 3] at HIB
  clear hv hy
  go_enter Tryd.func39, Tryd.ntmps39
  go_wp2_with (go_at_call 48; refine (HV.out _).mono ?_; rintro e w2 ⟨rfl, rfl⟩)
  go_step3
  go_wp2
  go_loopw [9] (fun v9 wr => v9 = .int .i64 2 ∧ w2 = wr) (fun _ _ => 0)
  case atStart => exact ⟨rfl, rfl⟩
  case round =>
    obtain ⟨rfl, rfl⟩ := hrel
    go_wp2
    go_step3
    go_wp2
    go_region
    rw [show (((((⟨#[32, 9, 13]⟩ : ByteArray)[2]'(by decide)).toNat : Nat) : Int) != ((((⟨#[x, z, y]⟩ : ByteArray)[2]'(by show 2 < 3; decide)).toNat : Nat) : Int)) = true from hyb]
    go_wp2
    go_region_with (go_at_call 47; refine (HIB.out _).mono ?_; rintro e w3 ⟨rfl, rfl⟩)
    all_goals first
      | (rename_i hb_; exact absurd hb_ (by first | (rw [show IntKind.i64.wrap 3 = 3 by decide]; decide) | decide))
      | (go_wp2
         rw [Exit.noGoto_ret]
         first | (go_ret; exact ⟨rfl, by repeat (first | exact Below.refl _ _ | apply below_drew)⟩) | (go_wp2; rw [Exit.noGoto_ret]; go_ret; exact ⟨rfl, by repeat (first | exact Below.refl _ _ | apply below_drew)⟩))
set_option maxHeartbeats 8000000 in
set_option maxRecDepth 100000 in
theorem IndexRuneS_four (r : Int) (x z u y : UInt8) (w : World) (h0 : 128 ≤ r) (h1 : r ≤ 2147483647) (hne : r ≠ 65533) (hv : Lib.validRune r = true) (henc : Utf8.encode r = ⟨#[x, z, u, y]⟩) (hy : 128 ≤ y.toNat) :
    Calls Tryd.prog 39 #[.string ⟨#[32, 9, 13]⟩, .int .i32 r] w fun e w' => e = .returned (.int .i64 (-1)) ∧ Below w.heap.size w w' := by
  have c1 : (0 ≤ r) := by omega
  have c2 : ¬ (r < 128) := by omega
  have HV := Aside0.mk (Tryd.utf8_ValidRune r)
  rw [hv] at HV
  clear hv hy
  go_enter Tryd.func39, Tryd.ntmps39
  go_wp2_with (go_at_call 48; refine (HV.out _).mono ?_; rintro e w2 ⟨rfl, rfl⟩)
  go_step3
  go_wp2
  go_loopw [9] (fun v9 wr => v9 = .int .i64 3 ∧ w2 = wr) (fun _ _ => 0)
  case atStart => exact ⟨rfl, rfl⟩
  case round =>
    obtain ⟨rfl, rfl⟩ := hrel
    go_wp2
    first | (rw [Exit.noGoto_ret]; go_ret; exact ⟨rfl, Below.refl _ _⟩) | (go_step3; go_wp2; rw [Exit.noGoto_ret]; go_ret; exact ⟨rfl, Below.refl _ _⟩)
theorem IndexRuneS_high (r : Int) (w : World) (h0 : 128 ≤ r) (h1 : r ≤ 2147483647) :
    Calls Tryd.prog 39 #[.string ⟨#[32, 9, 13]⟩, .int .i32 r] w fun e w' => e = .returned (.int .i64 (-1)) ∧ Below w.heap.size w w' := by
  by_cases he : r = 65533
  · subst he; exact IndexRuneS_err w
  · cases hv : Lib.validRune r with
    | false => exact IndexRuneS_bad r w h0 h1 he hv
    | true =>
      rcases enc_high r h0 hv with ⟨x, y, e, hy⟩ | ⟨x, z, y, e, hy⟩ | ⟨x, z, u, y, e, hy⟩
      · exact IndexRuneS_two r x y w h0 h1 he hv e hy
      · exact IndexRuneS_three r x z y w h0 h1 he hv e hy
      · exact IndexRuneS_four r x z u y w h0 h1 he hv e hy
/-! ### strings.ContainsRune at the three literal texts -/
def litI (l : List UInt8) (c : Int) : Bool := l.any fun b => (b.toNat : Int) == c
theorem litI_high (l : List UInt8) (hl : ∀ b ∈ l, b.toNat < 128) (c : Int) (h : 128 ≤ c) : litI l c = false := by
  unfold litI
  refine List.any_eq_false.2 fun b hb => ?_
  have := hl b hb
  simp
  omega
theorem litM_low128 : ∀ b ∈ litM, b.toNat < 128 := by decide
theorem litM_index (c : Int) (h0 : 0 ≤ c) (h1 : c < 128) : decide (0 ≤ Lib.indexByte [44, 91, 93, 43, 45, 58] c.toNat.toUInt8) = litI litM c := by
  have h : ∀ n : Fin 128, decide (0 ≤ Lib.indexByte [44, 91, 93, 43, 45, 58] n.1.toUInt8) = litI litM n.1 := by decide +kernel
  have h2 := h ⟨c.toNat, by omega⟩
  have e : ((c.toNat : Nat) : Int) = c := by omega
  dsimp only at h2
  rw [e] at h2
  exact h2
set_option maxHeartbeats 2000000 in
set_option maxRecDepth 100000 in
theorem ContainsM (c : Int) (w : World) (h0 : 0 ≤ c) (h1 : c ≤ 2147483647) :
    Calls Tryd.prog 24 #[.string ⟨#[44, 91, 93, 43, 45, 58]⟩, .int .i32 c] w fun e w' => e = .returned (.bool (litI litM c)) ∧ Below w.heap.size w w' := by
  by_cases hc : c < 128
  · refine (Tryd.strings_ContainsRune_ascii _ c w h0 hc).mono ?_
    rintro e w' ⟨rfl, rfl⟩
    exact ⟨by rw [← litM_index c h0 hc], Below.refl _ _⟩
  · have hX := Aside0.mk (IndexRuneM_high c w (by omega) h1)
    have hr : litI litM c = false := litI_high _ litM_low128 c (by omega)
    rw [hr]
    clear hr hc
    go_enter Tryd.func24, Tryd.ntmps24
    go_wp2_with (go_at_call 39; refine hX.out.mono ?_; rintro e w2 ⟨rfl, hb2⟩; have HB2 := Aside0.mk hb2; clear hb2)
    go_ret
    exact ⟨rfl, HB2.out⟩
theorem litC_low128 : ∀ b ∈ litC, b.toNat < 128 := by decide
theorem litC_index (c : Int) (h0 : 0 ≤ c) (h1 : c < 128) : decide (0 ≤ Lib.indexByte [59, 35] c.toNat.toUInt8) = litI litC c := by
  have h : ∀ n : Fin 128, decide (0 ≤ Lib.indexByte [59, 35] n.1.toUInt8) = litI litC n.1 := by decide +kernel
  have h2 := h ⟨c.toNat, by omega⟩
  have e : ((c.toNat : Nat) : Int) = c := by omega
  dsimp only at h2
  rw [e] at h2
  exact h2
set_option maxHeartbeats 2000000 in
set_option maxRecDepth 100000 in
theorem ContainsC (c : Int) (w : World) (h0 : 0 ≤ c) (h1 : c ≤ 2147483647) :
    Calls Tryd.prog 24 #[.string ⟨#[59, 35]⟩, .int .i32 c] w fun e w' => e = .returned (.bool (litI litC c)) ∧ Below w.heap.size w w' := by
  by_cases hc : c < 128
  · refine (Tryd.strings_ContainsRune_ascii _ c w h0 hc).mono ?_
    rintro e w' ⟨rfl, rfl⟩
    exact ⟨by rw [← litC_index c h0 hc], Below.refl _ _⟩
  · have hX := Aside0.mk (IndexRuneC_high c w (by omega) h1)
    have hr : litI litC c = false := litI_high _ litC_low128 c (by omega)
    rw [hr]
    clear hr hc
    go_enter Tryd.func24, Tryd.ntmps24
    go_wp2_with (go_at_call 39; refine hX.out.mono ?_; rintro e w2 ⟨rfl, hb2⟩; have HB2 := Aside0.mk hb2; clear hb2)
    go_ret
    exact ⟨rfl, HB2.out⟩
theorem litS_low128 : ∀ b ∈ litS, b.toNat < 128 := by decide
theorem litS_index (c : Int) (h0 : 0 ≤ c) (h1 : c < 128) : decide (0 ≤ Lib.indexByte [32, 9, 13] c.toNat.toUInt8) = litI litS c := by
  have h : ∀ n : Fin 128, decide (0 ≤ Lib.indexByte [32, 9, 13] n.1.toUInt8) = litI litS n.1 := by decide +kernel
  have h2 := h ⟨c.toNat, by omega⟩
  have e : ((c.toNat : Nat) : Int) = c := by omega
  dsimp only at h2
  rw [e] at h2
  exact h2
set_option maxHeartbeats 2000000 in
set_option maxRecDepth 100000 in
theorem ContainsS (c : Int) (w : World) (h0 : 0 ≤ c) (h1 : c ≤ 2147483647) :
    Calls Tryd.prog 24 #[.string ⟨#[32, 9, 13]⟩, .int .i32 c] w fun e w' => e = .returned (.bool (litI litS c)) ∧ Below w.heap.size w w' := by
  by_cases hc : c < 128
  · refine (Tryd.strings_ContainsRune_ascii _ c w h0 hc).mono ?_
    rintro e w' ⟨rfl, rfl⟩
    exact ⟨by rw [← litS_index c h0 hc], Below.refl _ _⟩
  · have hX := Aside0.mk (IndexRuneS_high c w (by omega) h1)
    have hr : litI litS c = false := litI_high _ litS_low128 c (by omega)
    rw [hr]
    clear hr hc
    go_enter Tryd.func24, Tryd.ntmps24
    go_wp2_with (go_at_call 39; refine hX.out.mono ?_; rintro e w2 ⟨rfl, hb2⟩; have HB2 := Aside0.mk hb2; clear hb2)
    go_ret
    exact ⟨rfl, HB2.out⟩
end Go.Proofs.YtdjljggdbflohaaDoor.PAll
