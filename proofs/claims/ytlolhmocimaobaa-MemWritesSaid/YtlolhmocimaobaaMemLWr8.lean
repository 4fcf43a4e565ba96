/- mem: the law MemWrites where a number is written, its walk. -/
import Derived.Test.YtlolhmocimaobaaMemLWrites
set_option linter.unusedVariables false
set_option linter.unusedSimpArgs false
namespace Go.Proofs.Ytlolhmocimaobaa.PAll
open Go.RowKit Go.Shelf Go.Proofs.YtlolhmocimaobaaW.PrintWords Go.Proofs.YtlolhmocimaobaaW.PrintLast Go.Proofs.YtlolhmocimaobaaW.PrintMore
set_option maxHeartbeats 2000000 in
set_option maxRecDepth 100000 in
theorem memWrites_w8 (X : World) (A0 : Option Addr) (c0 : Nat) (l0 : List Int) (a : Nat) (p x n : Int) (hr0 : Kd.C (Kd.int .u8) X A0 l0.length l0) (hc0 : l0.length ≤ c0) (hw : ∀ y ∈ l0, 0 ≤ y ∧ y < 256) (h1 : 0 < l0.length) (h2 : l0.length ≤ 600) (ha : a < 65536) (hx0 : 0 ≤ x) (hx1 : x < 18446744073709551616) (hn : IntKind.i64.wrap p = n) (hn0 : -9223372036854775808 ≤ n) (hn1 : n < 9223372036854775808) (hno : n = 8 ∧ a + 8 ≤ l0.length) :
    Calls Try.prog 4 #[.slice A0 l0.length c0, .int .u16 a, .agg #[.int .u64 p, .int .u64 x]] X fun e X' => e = .returned (.bool true) ∧ Below X.heap.size X X' := by
  have HXX : Aside0 (Below X.heap.size X (X.alloc (.cells #[.int .u64 p, .int .u64 x] 38)).drew) := ⟨below_drew (below_alloc (Below.refl _ _) _)⟩
  have HC := Aside0.mk hr0
  have HC0 := Aside0.mk hc0
  have HW0 := Aside0.mk hw
  have HX := Aside0.mk (And.intro hx0 hx1)
  have HN := Aside0.mk (And.intro hn0 hn1)
  have hz : ((l0.length : Int) == 0) = false := beq_eq_false_iff_ne.mpr (by omega)
  obtain ⟨rfl, hfit⟩ := hno
  obtain ⟨d, y, hdl, HW, HR, HI, HO, HY⟩ : ∃ (d : List Int) (y : Int), d.length = l0.length ∧ Aside0 (writeF [⟨1000, l0⟩] (1000 + (a : Int)) 8 x = some [⟨1000, d⟩]) ∧ Aside0 (readF [⟨1000, d⟩] (1000 + (a : Int)) 8 = (y, true)) ∧ Aside0 (Inv [⟨1000, d⟩]) ∧ Aside0 (∀ i : Nat, i < a ∨ a + 8 ≤ i → rdOf (0 : Int) d i = rdOf 0 l0 i) ∧ Aside0 (y = x) := by
    have hl : (splice l0 a (le 8 x)).length = l0.length := length_splice _ _ _ (by rw [le_length]; exact hfit)
    exact ⟨_, _, hl, ⟨w_some (k := 8) (by decide) hfit⟩, ⟨r_back (k := 8) (by decide) hfit⟩, ⟨inv_one (by rw [hl]; exact h1) (by decide) (by rw [hl]; omega) (spl_wf hw) (by rw [hl]; omega)⟩, ⟨fun i hi => spl_out (by rw [le_length]; exact hfit) (by rw [le_length]; exact hi)⟩, ⟨leV_8 x hx0 hx1⟩⟩
  clear hr0 hc0 hw hx0 hx1 hn0 hn1
  go_enter Try.func4, Try.ntmps4
  go_wp2_with fail
  go_region
  clear hn
  go_wp2_with fail
  refine (new_c _ (X.heap.size + 1) (by simp)).mono ?_
  rintro e w1 ⟨rfl, hm1, hb1⟩
  have HM1 : Aside0 (Mem w1 (X.heap.size + 1) (X.heap.size + 1) []) := ⟨by simpa using hm1⟩
  have HB1 : Aside0 (Below X.heap.size X w1) := ⟨HXX.out.trans (hb1.mono HXX.out.size)⟩
  clear hm1 hb1
  go_wp2_with fail
  refine (add0_c w1 (X.heap.size + 1) (X.heap.size + 1) 1000 A0 c0 l0 HM1.out (by decide) (Kd.C_below HC.out HB1.out) HC0.out (by omega) (by omega) (by omega) HW0.out).mono ?_
  rintro e w2 ⟨rfl, hm2, hb2⟩
  have HM2 := Aside0.mk hm2
  have HB2 : Aside0 (Below X.heap.size X w2) := ⟨HB1.out.trans (hb2.mono (Nat.le_succ _))⟩
  clear hm2 hb2
  go_wp2_with fail
  refine (write_c w2 (X.heap.size + 1) (X.heap.size + 1) _ (1000 + (a : Int)) 8 x HM2.out (show 1 ≤ 999999 by decide) (by omega) (by omega) HX.out.1 HX.out.2 _ HW.out (fun q h => by cases h; exact HI.out)).mono ?_
  rintro e w3 ⟨rfl, hm3, hb3⟩
  have HM3 : Aside0 (Mem w3 (X.heap.size + 1) (X.heap.size + 1) [⟨1000, d⟩]) := ⟨hm3⟩
  have HB3 : Aside0 (Below X.heap.size X w3) := ⟨HB2.out.trans (hb3.mono (Nat.le_succ _))⟩
  clear hm3 hb3
  go_wp2_with fail
  refine (read_c w3 (X.heap.size + 1) (X.heap.size + 1) _ (1000 + (a : Int)) 8 HM3.out (show 1 ≤ 999999 by decide) (by omega) (by omega) (by decide) (by decide) _ _ HR.out).mono ?_
  rintro e w4 ⟨rfl, hb4⟩
  have HM4 := Aside0.mk (HM3.out.below hb4)
  have HB4 : Aside0 (Below X.heap.size X w4) := ⟨HB3.out.trans (hb4.mono HB3.out.size)⟩
  clear hb4
  go_wp2_with fail
  have hba := bytes_all 1000 d (by omega)
  rw [hdl] at hba
  refine (bytes_c w4 (X.heap.size + 1) (X.heap.size + 1) _ 1000 l0.length HM4.out (show 1 ≤ 999999 by decide) (by decide) (by decide) (by omega) (by omega) _ hba).mono ?_
  rintro e w5 ⟨⟨v5, rfl, hr5⟩, hb5⟩
  obtain ⟨g5, cap5, rfl, _, _, _⟩ := Kd.R_form (show Kd.R (Kd.int .u8) 5 w5 w4.heap.size (fun _ => True) v5 d from hr5) (by omega)
  have HR5 := Aside0.mk (show Kd.R (Kd.int .u8) 5 w5 w4.heap.size (fun _ => True) (.slice (some ⟨g5, 0, none⟩) d.length cap5) d from hr5)
  have HB5 : Aside0 (Below X.heap.size X w5) := ⟨HB4.out.trans (hb5.mono HB4.out.size)⟩
  clear hr5 hb5 hba
  have hy : y = x := HY.out
  go_wp2_with fail
  clear hy
  go_loopw [18, 139] (fun v18 v139 wr => ∃ k : Nat, k ≤ l0.length ∧ v139 = .int .i64 k ∧ Aside0 (Below w5.heap.size w5 wr)) (fun _ v139 _ => l0.length - (intOf v139).toNat)
  case atStart => exact ⟨0, Nat.zero_le _, rfl, ⟨Below.refl _ _⟩⟩
  case round =>
    obtain ⟨k, hk, rfl, HB⟩ := hrel
    by_cases hlt : k < l0.length
    · have HBd : Below w5.heap.size w5 wr.drew := below_drew HB.out
      obtain ⟨hcell, hfro⟩ := Kd.R_cell (0 : Int) (Kd.R_below HR5.out HBd) (k : Int) (by omega) (by omega)
      obtain ⟨ad, rfl, hcell2⟩ := Kd.at_int (Kd.C_below (Kd.C_below HC.out HB5.out) HBd) (k : Int) (by omega) (by omega)
      rw [Int.toNat_natCast] at hcell hfro hcell2
      have HBD := Aside0.mk HBd
      clear HBd
      have hwa : IntKind.i64.wrap (a : Int) = a := by rw [IntKind.wrap_i64]; omega
      have hwb : IntKind.i64.wrap ((a : Int) + 8) = a + 8 := by rw [IntKind.wrap_i64]; omega
      by_cases hq : k < a
      · have he : rdOf (0 : Int) d (k : Int) = rd l0 (k : Int) := HO.out k (.inl hq)
        rw [he] at hcell
        have hd1 : decide ((k : Int) < (a : Int)) = true := decide_eq_true (by omega)
        clear he
        go_wp2
        go_region
        go_wp2
        exact ⟨⟨k + 1, by omega, by congr 1, HBD⟩, by simp [intOf]; omega⟩
      · by_cases hq2 : a + 8 ≤ k
        · have he : rdOf (0 : Int) d (k : Int) = rd l0 (k : Int) := HO.out k (.inr hq2)
          rw [he] at hcell
          have hd1 : decide ((k : Int) < (a : Int)) = false := decide_eq_false (by omega)
          have hd2 : decide ((a : Int) + 8 ≤ (k : Int)) = true := decide_eq_true (by omega)
          clear he
          go_wp2
          go_region
          go_wp2
          exact ⟨⟨k + 1, by omega, by congr 1, HBD⟩, by simp [intOf]; omega⟩
        · have hd1 : decide ((k : Int) < (a : Int)) = false := decide_eq_false (by omega)
          have hd2 : decide ((a : Int) + 8 ≤ (k : Int)) = false := decide_eq_false (by omega)
          clear hcell hcell2 hfro
          go_wp2
          go_region
          go_wp2
          exact ⟨⟨k + 1, by omega, by congr 1, HBD⟩, by simp [intOf]; omega⟩
    · obtain rfl : k = l0.length := by omega
      go_wp2_with fail
      refine (alive_c wr).mono ?_
      rintro e w6 ⟨rfl, hb6⟩
      go_wp2_with fail
      go_ret
      exact ⟨rfl, HB5.out.trans ((HB.out.trans (hb6.mono HB.out.size)).mono HB5.out.size)⟩
end Go.Proofs.Ytlolhmocimaobaa.PAll
