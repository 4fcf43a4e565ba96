-- By a program of this session (xp.py) over the kit's print, with texts of this session.
import Derived.Test.YtbepheikefkaiaaPAllx0
import Derived.WalkSpells
import Derived.Test.YtbepheikefkaiaaShelf
import Derived.Test.YtbepheikefkaiaaStrPure
namespace Go.Proofs.Ytbepheikefkaiaa.PAll
open Go.RowKit Go.Proofs.YtbepheikefkaiaaW.PrintWords Go.Proofs.YtbepheikefkaiaaW.PrintLast Go.Proofs.YtbepheikefkaiaaW.PrintMore
attribute [local go_sem] max2_int min2_int max_two min_two max_three min_three max_four min_four   -- for this text's walks alone
set_option linter.unusedVariables false
set_option linter.unusedSimpArgs false

-- EXTERN
-- XIMPORT Derived.WalkSpells Derived.Test.YtbepheikefkaiaaShelf Derived.Test.YtbepheikefkaiaaStrPure
/-! ### strtab.Get: function 19 -/
def zeroAt (l : List Int) : Int := Lib.indexByte (Lib.bytesOf l) 0
def getR (l : List Int) (off : Int) : ByteArray × Int :=
  if off < 0 ∨ (l.length : Int) ≤ off then (⟨#[]⟩, 4) else
    if 0 ≤ zeroAt (l.drop off.toNat) then (strOfNums ((l.drop off.toNat).take (zeroAt (l.drop off.toNat)).toNat), 0) else (⟨#[]⟩, 4)
def strtab_Get.f (l0 : List Int) (a1 : Int) : Option (ByteArray × Int) := if l0.length ≤ 1073741824 then some (getR l0 a1) else none
theorem bytesOf_len (l : List Int) : (Lib.bytesOf l).length = l.length := Lib.bytesOf_length l
theorem indexByte_lt (l : List UInt8) (c : UInt8) : Lib.indexByte l c < l.length ∨ Lib.indexByte l c = -1 := by
  induction l with
  | nil => right; rfl
  | cons b r ih =>
    unfold Lib.indexByte
    split
    · left; simp
    · split
      · right; rfl
      · left
        rename_i h
        have h2 : Lib.indexByte r c ≠ -1 := by simpa using h
        simp only [List.length_cons]; omega
set_option maxHeartbeats 8000000 in
set_option maxRecDepth 100000 in
theorem strtab_Get.any (A0 : Option Addr) (c0 : Nat) (l0 : List Int) (a1 : Int) (w : World) (hr0 : Kd.C (Kd.int .u8) w A0 l0.length l0) (hc0 : l0.length ≤ c0) (hm : l0.length ≤ 1073741824) :
    Calls Try.prog 19 #[.slice A0 l0.length c0, .int .i64 a1] w fun e w' => e = .returned (.tuple #[.string (getR l0 a1).1, .int .i64 (getR l0 a1).2]) ∧ Below w.heap.size w w' := by
  by_cases h1 : a1 < 0
  · have e : getR l0 a1 = (⟨#[]⟩, 4) := by unfold getR; rw [if_pos (.inl h1)]
    rw [e]
    clear hr0
    go_enter Try.func19, Try.ntmps19
    go_wp2
    go_ret2
    exact ⟨rfl, Below.refl _ _⟩
  · by_cases h2 : (l0.length : Int) ≤ a1
    · have e : getR l0 a1 = (⟨#[]⟩, 4) := by unfold getR; rw [if_pos (.inr h2)]
      rw [e]
      clear hr0
      go_enter Try.func19, Try.ntmps19
      go_wp2
      all_goals go_ret2
      all_goals exact ⟨rfl, Below.refl _ _⟩
    · obtain ⟨off, rfl⟩ : ∃ off : Nat, a1 = off := ⟨a1.toNat, by omega⟩
      have hlt : off < l0.length := by omega
      have hr1 := Kd.reads_of_C (enc := Value.int .u8) (d := (0 : Int)) (h1 := fun _ => rfl) hr0
      obtain ⟨ad, rfl, hc⟩ := hr1.2.2 (by omega)
      have HC := Aside0.mk hc
      have hge := Lib.indexByte_ge (Lib.bytesOf (l0.drop off)) 0
      have hup := indexByte_lt (Lib.bytesOf (l0.drop off)) 0
      rw [bytesOf_len, List.length_drop] at hup
      have hdef : getR l0 (off : Int) = if 0 ≤ zeroAt (l0.drop off) then (strOfNums ((l0.drop off).take (zeroAt (l0.drop off)).toNat), 0) else (⟨#[]⟩, 4) := by
        unfold getR; rw [if_neg (by omega), Int.toNat_natCast]
      rw [hdef]
      obtain ⟨z, hz⟩ : ∃ z, z = zeroAt (l0.drop off) := ⟨_, rfl⟩
      have hz' : Lib.indexByte (Lib.bytesOf (l0.drop off)) 0 = z := hz.symm
      rw [← hz]
      rw [hz'] at hge hup
      have HZ := Aside0.mk hz'
      have HR0 := Aside0.mk hr0
      clear hr0 hr1 hc hdef hz hz' h1 h2
      have hne : ¬ c0 - off = 0 := by omega
      have HD := Aside0.mk (show ∀ W : World, (∀ j, j < l0.length → W.cell? (ad.add j) = some (.int .u8 (l0.getD j 0))) → ∀ i, i < l0.length - off → W.cell? ((ad.add off).add i) = some (.int .u8 ((l0.drop off).getD i 0)) from fun W hW i hi => by
        rw [add_add, hW _ (by omega)]
        simp [List.getD_eq_getElem?_getD, List.getElem?_drop])
      have HW := Aside0.mk (show ∀ j, j < l0.length → (w.alloc (.cells #[.int .u8 0] 5)).cell? (ad.add j) = some (.int .u8 (l0.getD j 0)) from fun j hj => pw_cell_below (below_alloc (Below.refl _ _) _) (HC.out j hj))
      have HI := Aside0.mk (show Calls Try.prog 25 #[.slice (some (ad.add off)) (l0.length - off) (c0 - off), .slice (some ⟨w.heap.size, 0, none⟩) 1 1] (w.alloc (.cells #[.int .u8 0] 5)) (fun e w' => e = .returned (.int .i64 z) ∧ ∃ q, w' = (w.alloc (.cells #[.int .u8 0] 5)).drewN q) from
        (Try.bytes_Index_one_at (ad.add off) (l0.length - off) (c0 - off) w.heap.size 0 1 (l0.drop off) 0 _ (by simp) (HD.out _ HW.out) (by rw [World.cell?, heap_alloc_new]; rfl)).mono (fun e w' ⟨he, hw⟩ => ⟨he.trans (by rw [← HZ.out]; rfl), 0, hw⟩))
      by_cases hz0 : 0 ≤ z
      · have HCUT := Aside0.mk (show Lib.cutV (some (ad.add off)) (l0.length - off) (c0 - off) 1 z = .tuple #[.slice (some (ad.add off)) z.toNat (c0 - off), Lib.fromV (some (ad.add off)) (l0.length - off) (c0 - off) (z.toNat + 1), .bool true] from if_pos hz0)
        rw [if_pos hz0]
        have htl : ((l0.drop off).take z.toNat).length = z.toNat := by rw [List.length_take, List.length_drop]; omega
        have HRT := Aside0.mk (show Kd.C (Kd.int .u8) (w.alloc (.cells #[.int .u8 0] 5)) (some (ad.add off)) ((l0.drop off).take z.toNat).length ((l0.drop off).take z.toNat) from Kd.C_of_reads (d := (0 : Int)) (h1 := fun _ => rfl) ⟨rfl, by rw [htl]; omega, fun _ => ⟨_, rfl, fun j hj => by
          rw [htl] at hj
          rw [HD.out _ HW.out j (by rcases hup with h | h <;> omega)]
          simp [List.getD_eq_getElem?_getD, List.getElem?_take, hj]⟩⟩)
        rw [htl] at HRT
        have hcv := fun q => Kd.C_string (P := Try.prog) (A := some (ad.add off)) (c := c0 - off) Try.underlying25 Try.underlying5 Try.underlying9 (Kd.C_drewN HRT.out q)
        clear htl
        go_enter Try.func19, Try.ntmps19
        go_wp2_with (go_at_call 24; (refine (Try.bytes_Cut_of (some (ad.add off)) (some ⟨w.heap.size, 0, none⟩) (l0.length - off) (c0 - off) 1 1 z _ (by omega) hge (by intro h; rcases hup with h2 | h2 <;> omega) (by omega) HI.out).mono ?_); rintro e w1 ⟨he, q, rfl⟩; rw [HCUT.out] at he; subst he)
        go_ret2
        exact ⟨rfl, pw_below_drewN (below_alloc (Below.refl _ _) _) q⟩
      · have HCUT := Aside0.mk (show Lib.cutV (some (ad.add off)) (l0.length - off) (c0 - off) 1 z = .tuple #[.slice (some (ad.add off)) (l0.length - off) (c0 - off), .slice none 0 0, .bool false] from if_neg hz0)
        rw [if_neg hz0]
        go_enter Try.func19, Try.ntmps19
        go_wp2_with (go_at_call 24; (refine (Try.bytes_Cut_of (some (ad.add off)) (some ⟨w.heap.size, 0, none⟩) (l0.length - off) (c0 - off) 1 1 z _ (by omega) hge (by intro h; rcases hup with h2 | h2 <;> omega) (by omega) HI.out).mono ?_); rintro e w1 ⟨he, q, rfl⟩; rw [HCUT.out] at he; subst he)
        go_ret2
        exact ⟨rfl, pw_below_drewN (below_alloc (Below.refl _ _) _) q⟩
theorem strtab_Get.calls (A0 : Option Addr) (c0 : Nat) (l0 : List Int) (a1 : Int) (r1 : ByteArray) (r2 : Int) (w : World) (hr0 : Kd.C (Kd.int .u8) w A0 l0.length l0) (hc0 : l0.length ≤ c0) (h : strtab_Get.f l0 a1 = some (r1, r2)) :
    Calls Try.prog 19 #[.slice A0 l0.length c0, .int .i64 a1] w fun e w' => e = .returned (.tuple #[.string r1, .int .i64 r2]) ∧ Below w.heap.size w w' := by
  unfold strtab_Get.f at h
  split at h
  · rename_i hm
    have e : getR l0 a1 = (r1, r2) := Option.some.inj h
    have := strtab_Get.any A0 c0 l0 a1 w hr0 hc0 hm
    rw [e] at this
    exact this
  · cases h

end Go.Proofs.Ytbepheikefkaiaa.PAll
