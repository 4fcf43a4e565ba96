/- maps: the law MapsFill. -/
import Derived.Test.YtmkmldpcoonepaaGMapsC
set_option linter.unusedVariables false
set_option linter.unusedSimpArgs false
namespace Go.Proofs.Ytmkmldpcoonepaa.PAll
open Go.RowKit Go.Shelf Go.Maps Go.Proofs.YtmkmldpcoonepaaW.PrintWords Go.Proofs.YtmkmldpcoonepaaW.PrintLast Go.Proofs.YtmkmldpcoonepaaW.PrintMore
def fe (k : Nat) : List (List Int × Int) := (List.range k).map fun (j : Nat) => ([(j : Int)], (j : Int))
def fk : Nat → List Reg
  | 0 => []
  | k + 1 => ⟨addrF 0 k, [1]⟩ :: fk k
def fe2 (n : Nat) : List (List Int × Int) := delE (fe n) [0]
def fe3 (n : Nat) : List (List Int × Int) := fe2 n ++ [([(n : Int)], (n : Int))]
def fk2 (n : Nat) : List Reg := putG (fk n) (addrF 0 ((n : Int) - 1)) [2]
def fk3 (n : Nat) : List Reg := remR (fk2 n) (addrF 0 0)
def fk4 (n : Nat) : List Reg := addG (fk3 n) (addrF 0 n) [2]
theorem fill_step : ∀ k : Fin 61, addOk (fk k) (addrF 0 (k : Nat)) 1 = true ∧ lookE (fe k) [((k : Nat) : Int)] = none ∧ IntKind.u64.wrap (((k : Nat) : Int) + 1) = (((k : Nat) + 1 : Nat) : Int) := by decide +kernel
theorem fill_end : ∀ n : Fin 61, 1 ≤ (n : Nat) → lookE (fe n) [((n : Nat) : Int) - 1] = some (((n : Nat) : Int) - 1) ∧ lookE (fe n) [0] = some 0 ∧ lookE (fe2 n) [((n : Nat) : Int)] = none ∧ (fe2 n).length + 1 = (n : Nat) ∧ lookE (fe3 n) [((n : Nat) : Int)] = some ((n : Nat) : Int) ∧ (fk4 n).length = (n : Nat) ∧ (fe3 n).length = (n : Nat) ∧
    addrF 0 ((n : Nat) : Int) = 4611686018427387904 + ((n : Nat) : Int) * 65536 ∧ (fk2 n).length ≤ 60 ∧ (fk3 n).length ≤ 60 := by decide +kernel
theorem fe_len (k : Nat) : (fe k).length = k := by unfold fe; rw [List.length_map, List.length_range]
theorem fk_len : ∀ k, (fk k).length = k
  | 0 => rfl
  | k + 1 => by simp [fk, fk_len k]
theorem fe_succ (k : Nat) : fe (k + 1) = fe k ++ [([(k : Int)], (k : Int))] := by unfold fe; rw [List.range_succ, List.map_append]; rfl
theorem fill1 {k n : Nat} (hk : k < n) (hn : n ≤ 60) : updR (kS 1 1 n (fe k) k) 0 [(k : Int)] [1] = 0 ∧ updS (kS 1 1 n (fe k) k) 0 [(k : Int)] [1] = kS 1 1 n (fe (k + 1)) ((k + 1 : Nat) : Int) ∧ updK (kS 1 1 n (fe k) k) (fk k) 0 [(k : Int)] [1] = fk (k + 1) := by
  obtain ⟨h1, h2, h3⟩ := fill_step ⟨k, by omega⟩
  dsimp only at h1 h2 h3
  obtain ⟨g1, g2, g3⟩ := one_new (kl := 1) (vl := 1) (n := (n : Int)) (next := (k : Int)) (ents := fe k) (K := fk k) (key := [(k : Int)]) (value := [1]) rfl rfl h2 (by rw [fe_len]; omega)
  refine ⟨g1, ?_, ?_⟩
  · rw [g2, h3, fe_succ]
  · rw [g3]
    unfold addG
    rw [show (([1] : List Int).length) = 1 from rfl, if_pos h1]
    rfl
theorem byte1 {k : Nat} (h : k < 256) : ([(k : Int)]).all (fun x => decide (0 ≤ x ∧ x < 256)) = true := by
  simp
  omega
set_option maxHeartbeats 4000000 in
set_option maxRecDepth 100000 in
theorem mapsFill_c (X : World) (n0 : Int) (h0 : 0 ≤ n0) (h1 : n0 < 256) : Calls Try.prog 7 #[.int .u8 n0] X fun e X' => e = .returned (.bool true) ∧ Below X.heap.size X X' := by
  by_cases hc : n0 = 0 ∨ 60 < n0
  · have hq : (decide (n0 = 0) || decide (60 < n0)) = true := by
      rcases hc with h | h <;> simp [h]
    rcases hc with rfl | hc
    · clear hq h0 h1
      go_enter Try.func7, Try.ntmps7
      go_wp2_with fail
      refine (lm_mem X rfl).mono ?_
      rintro e w1 ⟨rfl, hm1, hb1⟩
      have HB1 := Aside0.mk hb1
      clear hm1 hb1
      go_wp2_with fail
      refine (alive_c w1).mono ?_
      rintro e w2 ⟨rfl, hb⟩
      have HB2 : Aside0 (Below X.heap.size X w2) := ⟨HB1.out.trans (hb.mono HB1.out.size)⟩
      clear hb
      go_wp2_with fail
      go_ret
      exact ⟨rfl, HB2.out⟩
    · have hz : decide (n0 = 0) = false := by rw [decide_eq_false_iff_not]; omega
      have hz' : (n0 == 0) = false := by rw [beq_eq_false_iff_ne]; omega
      have hg : decide (60 < n0) = true := decide_eq_true hc
      have hg' : decide (n0 > 60) = true := decide_eq_true hc
      clear hq h0 h1 hc
      go_enter Try.func7, Try.ntmps7
      go_wp2_with fail
      refine (lm_mem X rfl).mono ?_
      rintro e w1 ⟨rfl, hm1, hb1⟩
      have HB1 := Aside0.mk hb1
      clear hm1 hb1
      go_wp2_with fail
      refine (alive_c w1).mono ?_
      rintro e w2 ⟨rfl, hb⟩
      have HB2 : Aside0 (Below X.heap.size X w2) := ⟨HB1.out.trans (hb.mono HB1.out.size)⟩
      clear hb
      go_wp2_with fail
      go_ret
      exact ⟨rfl, HB2.out⟩
  · obtain ⟨n, rfl⟩ : ∃ n : Nat, n0 = n := ⟨n0.toNat, by omega⟩
    have hn1 : 1 ≤ n := by omega
    have hn2 : n ≤ 60 := by omega
    have hz : decide ((n : Int) = 0) = false := by rw [decide_eq_false_iff_not]; omega
    have hz' : ((n : Int) == 0) = false := by rw [beq_eq_false_iff_ne]; omega
    have hg : decide (60 < (n : Int)) = false := by rw [decide_eq_false_iff_not]; omega
    have hg' : decide ((n : Int) > 60) = false := by rw [decide_eq_false_iff_not]; omega
    have hcv : IntKind.i64.wrap (n : Int) = (n : Int) := IntWalk.i64_in _ (by omega)
    have HN1 := Aside0.mk hn1
    have HN2 := Aside0.mk hn2
    clear hc h0 h1 hn1 hn2
    go_enter Try.func7, Try.ntmps7
    go_wp2_with fail
    refine (lm_mem X rfl).mono ?_
    rintro e w1 ⟨rfl, hm1, hb1⟩
    have HM1 := Aside0.mk hm1
    have HB1 := Aside0.mk hb1
    clear hm1 hb1
    go_wp2_with fail
    refine (new1_c w1 X.heap.size X.heap.size ⟨⟨#[]⟩, 1, 1, n⟩ HM1.out HB1.out.size).mono ?_
    rintro e w2 ⟨hp, hb2⟩
    rw [if_pos ((sizes_iff _).2 ⟨⟨by show (1 : Int) ≤ 1; decide, by show (1 : Int) ≤ 64; decide⟩, ⟨by show (1 : Int) ≤ 1; decide, by show (1 : Int) ≤ 256; decide⟩, by have := HN1.out; have := HN2.out; dsimp only; omega⟩)] at hp
    obtain ⟨t, rfl, hm2⟩ := hp
    have HM2 : Aside0 (LM X.heap.size 0 w2 t X.heap.size (kS 1 1 n (fe 0) (0 : Nat)) (fk 0)) := ⟨hm2⟩
    have HB2 : Aside0 (Below X.heap.size X w2) := ⟨HB1.out.trans (hb2.mono HB1.out.size)⟩
    clear hm2 hb2 hz hz' hg hg'
    go_wp2_with fail
    go_loopw [37] (fun v37 w => ∃ k : Nat, k ≤ n ∧ v37 = .int .u8 k ∧ Aside0 (LM X.heap.size k w t X.heap.size (kS 1 1 n (fe k) k) (fk k)) ∧ Aside0 (Below X.heap.size X w)) (fun v37 _ => n - (intOf v37).toNat)
    case atStart => exact ⟨0, Nat.zero_le _, rfl, HM2, HB2⟩
    case round =>
      obtain ⟨k, hk, rfl, HM, HB⟩ := hrel
      by_cases hlt : k < n
      · obtain ⟨u1, u2, u3⟩ := fill1 hlt HN2.out
        have U1 := Aside0.mk u1
        have U2 := Aside0.mk u2
        have U3 := Aside0.mk u3
        have hwk : IntKind.u8.wrap ((k : Int) + 1) = ((k + 1 : Nat) : Int) := by
          have h2 := HN2.out
          have : IntKind.u8.wrap ((k : Int) + 1) = (k : Int) + 1 := by
            show ((k : Int) + 1) % 256 = _
            exact Int.emod_eq_of_lt (by omega) (by omega)
          rw [this]
          omega
        clear u1 u2 u3
        go_wp2_with fail
        refine (lm_update2 wr X.heap.size k t X.heap.size _ _ 0 _ _ 1 1 [(k : Int)] [1] HM.out (by have := HN2.out; omega) (by rw [fk_len]; have := HN2.out; omega) rfl rfl rfl rfl (byte1 (by have := HN2.out; omega)) (by decide) (by decide) (by decide) _ _ _ U1.out U2.out U3.out).mono ?_
        rintro e w3 ⟨rfl, hm3, hb3⟩
        have HM3 := Aside0.mk hm3
        have HB3 : Aside0 (Below X.heap.size X w3) := ⟨HB.out.trans hb3⟩
        clear hm3 hb3
        go_wp2_with fail
        refine ⟨⟨k + 1, hlt, by simp, HM3, HB3⟩, ?_⟩
        show n - ((k : Int) + 1).toNat < n - ((k : Nat) : Int).toNat
        omega
      · have hkn : k = n := by omega
        subst hkn
        obtain ⟨e1, e2, e3, e4, e5, e6, e7, e8, e9, e10⟩ := fill_end ⟨k, by have := HN2.out; omega⟩ HN1.out
        dsimp only at e1 e2 e3 e4 e5 e6 e7 e8 e9 e10
        have hk1 : lookE (fe k) [(k : Int)] = none := (fill_step ⟨k, by have := HN2.out; omega⟩).2.1
        have hk2 : IntKind.u64.wrap ((k : Int) + 1) = ((k + 1 : Nat) : Int) := (fill_step ⟨k, by have := HN2.out; omega⟩).2.2
        obtain ⟨p1, p2, p3⟩ := one_full (kl := 1) (vl := 1) (n := (k : Int)) (next := (k : Int)) (ents := fe k) (K := fk k) (key := [(k : Int)]) (value := [2]) rfl rfl hk1 (by rw [fe_len]; exact Int.le_refl _)
        obtain ⟨q1, q2, q3⟩ := one_old (kl := 1) (vl := 1) (n := (k : Int)) (next := (k : Int)) (ents := fe k) (K := fk k) (key := [(k : Int) - 1]) (value := [2]) rfl rfl e1
        obtain ⟨r1, r2, r3⟩ := one_del (kl := 1) (vl := 1) (n := (k : Int)) (next := (k : Int)) (ents := fe k) (K := fk2 k) (key := [0]) rfl e2
        obtain ⟨s1, s2, s3⟩ := one_new (kl := 1) (vl := 1) (n := (k : Int)) (next := (k : Int)) (ents := fe2 k) (K := fk3 k) (key := [(k : Int)]) (value := [2]) rfl rfl e3 (by omega)
        rw [hk2] at s2
        have P1 := Aside0.mk p1
        have P2 := Aside0.mk p2
        have P3 := Aside0.mk p3
        have Q1 := Aside0.mk q1
        have Q2 := Aside0.mk q2
        have Q3 : Aside0 (updK (kS 1 1 k (fe k) k) (fk k) 0 [(k : Int) - 1] [2] = fk2 k) := ⟨q3⟩
        have R1 := Aside0.mk r1
        have R2 : Aside0 (delS (kS 1 1 k (fe k) k) 0 [0] = kS 1 1 k (fe2 k) k) := ⟨r2⟩
        have R3 : Aside0 (delK (kS 1 1 k (fe k) k) (fk2 k) 0 [0] = fk3 k) := ⟨r3⟩
        have S1 := Aside0.mk s1
        have S2 : Aside0 (updS (kS 1 1 k (fe2 k) k) 0 [(k : Int)] [2] = kS 1 1 k (fe3 k) ((k + 1 : Nat) : Int)) := ⟨s2⟩
        have S3 : Aside0 (updK (kS 1 1 k (fe2 k) k) (fk3 k) 0 [(k : Int)] [2] = fk4 k) := ⟨s3⟩
        have LK : Aside0 (lookF (kS 1 1 k (fe3 k) ((k + 1 : Nat) : Int)) 0 [(k : Int)] = 4611686018427387904 + (k : Int) * 65536) := ⟨(one_look e5).trans e8⟩
        have EL : Aside0 ((entF (kS 1 1 k (fe3 k) ((k + 1 : Nat) : Int)) (fk4 k) 0).length = k) := ⟨by
          unfold entF
          rw [getP_kS]
          unfold entsF
          rw [List.length_map]
          exact e7⟩
        have KL : Aside0 ((fk4 k).length = k ∧ (fk2 k).length ≤ 60 ∧ (fk3 k).length ≤ 60 ∧ (fk k).length ≤ 60) := ⟨e6, e9, e10, by rw [fk_len]; exact HN2.out⟩
        have hsub : IntKind.u8.wrap ((k : Int) - 1) = (k : Int) - 1 := by
          have h2 := HN2.out
          have h1 := HN1.out
          show ((k : Int) - 1) % 256 = _
          exact Int.emod_eq_of_lt (by omega) (by omega)
        have hcv64 : IntKind.u64.wrap (k : Int) = (k : Int) := by
          have h2 := HN2.out
          rw [u64_mod]
          exact Int.emod_eq_of_lt (by omega) (by omega)
        have HB1k : Aside0 (([(k : Int) - 1]).all (fun x => decide (0 ≤ x ∧ x < 256)) = true) := ⟨by
          have h2 := HN2.out
          have h1 := HN1.out
          simp
          omega⟩
        clear e1 e2 e3 e4 e5 e6 e7 e8 e9 e10 hk1 hk2 p1 p2 p3 q1 q2 q3 r1 r2 r3 s1 s2 s3 hlt hk
        go_wp2_with fail
        refine (lm_update2 wr X.heap.size k t X.heap.size _ _ 0 _ _ 1 1 [(k : Int)] [2] HM.out (by have := HN2.out; omega) (Nat.le_trans KL.out.2.2.2 (by decide)) rfl rfl rfl rfl (byte1 (by have := HN2.out; omega)) (by decide) (by decide) (by decide) _ _ _ P1.out P2.out P3.out).mono ?_
        rintro e w3 ⟨rfl, hm3, hb3⟩
        have HM3 := Aside0.mk hm3
        have HB3 : Aside0 (Below X.heap.size X w3) := ⟨HB.out.trans hb3⟩
        clear hm3 hb3
        go_wp2_with fail
        refine (lm_update2 w3 X.heap.size (k + 1) t X.heap.size _ _ 0 _ _ 1 1 [(k : Int) - 1] [2] HM3.out (by have := HN2.out; omega) (Nat.le_trans KL.out.2.2.2 (by decide)) rfl rfl rfl rfl HB1k.out (by decide) (by decide) (by decide) _ _ _ Q1.out Q2.out Q3.out).mono ?_
        rintro e w4 ⟨rfl, hm4, hb4⟩
        have HM4 := Aside0.mk hm4
        have HB4 : Aside0 (Below X.heap.size X w4) := ⟨HB3.out.trans hb4⟩
        clear hm4 hb4
        go_wp2_with fail
        refine (lm_delete1 w4 X.heap.size (k + 1 + 1) t X.heap.size _ _ 0 _ 1 [0] HM4.out (by have := HN2.out; omega) (Nat.le_trans KL.out.2.1 (by decide)) rfl rfl (by decide) (by decide) _ _ _ R1.out R2.out R3.out).mono ?_
        rintro e w5 ⟨rfl, hm5, hb5⟩
        have HM5 := Aside0.mk hm5
        have HB5 : Aside0 (Below X.heap.size X w5) := ⟨HB4.out.trans hb5⟩
        clear hm5 hb5
        go_wp2_with fail
        refine (lm_update2 w5 X.heap.size (k + 1 + 1) t X.heap.size _ _ 0 _ _ 1 1 [(k : Int)] [2] HM5.out (by have := HN2.out; omega) (Nat.le_trans KL.out.2.2.1 (by decide)) rfl rfl rfl rfl (byte1 (by have := HN2.out; omega)) (by decide) (by decide) (by decide) _ _ _ S1.out S2.out S3.out).mono ?_
        rintro e w6 ⟨rfl, hm6, hb6⟩
        have HM6 := Aside0.mk hm6
        have HB6 : Aside0 (Below X.heap.size X w6) := ⟨HB5.out.trans hb6⟩
        clear hm6 hb6
        go_wp2_with fail
        refine (alive_c w6).mono ?_
        rintro e w7 ⟨rfl, hb7⟩
        have HM7 := Aside0.mk (HM6.out.below hb7)
        have HB7 : Aside0 (Below X.heap.size X w7) := ⟨HB6.out.trans (hb7.mono HB6.out.size)⟩
        clear hb7
        go_wp2_with fail
        refine (lm_entries w7 X.heap.size _ t X.heap.size _ _ 0 HM7.out (by have := HN2.out; omega) (by rw [KL.out.1]; have := HN2.out; omega) _ rfl).mono ?_
        rintro e w8 ⟨⟨vR, vs, rfl, hR⟩, hb8⟩
        have hrow := hR.row
        rw [EL.out] at hrow
        obtain ⟨A8, c8, rfl⟩ := own_slice hrow
        have HM8 := Aside0.mk (HM7.out.below hb8)
        have HB8 : Aside0 (Below X.heap.size X w8) := ⟨HB7.out.trans (hb8.mono HB7.out.size)⟩
        clear hb8 hR hrow
        go_wp2_with fail
        refine (lm_lookup1 w8 X.heap.size _ t X.heap.size _ _ 0 _ 1 [(k : Int)] HM8.out rfl rfl (byte1 (by have := HN2.out; omega)) (by decide) _ LK.out).mono ?_
        rintro e w9 ⟨rfl, hm9, hb9⟩
        have HM9 := Aside0.mk hm9
        have HB9 : Aside0 (Below X.heap.size X w9) := ⟨HB8.out.trans hb9⟩
        clear hm9 hb9
        have hshl : IntKind.u64.wrap ((k : Int) * 65536) = (k : Int) * 65536 := by
          have h2 := HN2.out
          rw [u64_mod]
          exact Int.emod_eq_of_lt (by omega) (by omega)
        have hadd : IntKind.u64.wrap (4611686018427387904 + (k : Int) * 65536) = 4611686018427387904 + (k : Int) * 65536 := by
          have h2 := HN2.out
          rw [u64_mod]
          exact Int.emod_eq_of_lt (by omega) (by omega)
        go_wp2_with fail
        refine (lm_len w9 X.heap.size _ t X.heap.size _ _ HM9.out).mono ?_
        rintro e w10 ⟨rfl, rfl⟩
        rw [KL.out.1]
        go_wp2_with fail
        go_ret
        exact ⟨rfl, HB9.out⟩
end Go.Proofs.Ytmkmldpcoonepaa.PAll
