/- helper: the law HelperFaults. Written by gen_faults.py. -/
import Derived.Test.YtomnfkihieinbaaDoorGHelpF
import Derived.Test.YtomnfkihieinbaaDoorGHelpC
import Derived.ChangeKeysEq
set_option linter.unusedVariables false
set_option linter.unusedSimpArgs false
namespace Go.Proofs.YtomnfkihieinbaaDoor.PAll
open Go.RowKit Go.Shelf Go.Maps Go.Proofs.YtomnfkihieinbaaDoorW.PrintWords Go.Proofs.YtomnfkihieinbaaDoorW.PrintLast Go.Proofs.YtomnfkihieinbaaDoorW.PrintMore
theorem putG_len (K : List Reg) (a : Int) (bs : List Int) : (putG K a bs).length = K.length := by unfold putG; simp
theorem updK_len (S : List MapS) (K : List Reg) (i : Int) (key value : List Int) : (updK S K i key value).length ≤ K.length + 1 := by
  unfold updK
  cases getP S i with
  | none => exact Nat.le_succ _
  | some s =>
    dsimp only
    split
    · cases lookE s.ents key with
      | some n => dsimp only; rw [putG_len]; exact Nat.le_succ _
      | none =>
        dsimp only
        split
        · exact Nat.le_succ _
        · unfold addG; split <;> simp
    · exact Nat.le_succ _
theorem delK_len (S : List MapS) (K : List Reg) (i : Int) (key : List Int) : (delK S K i key).length ≤ K.length + 1 := by
  unfold delK
  cases getP S i with
  | none => exact Nat.le_succ _
  | some s =>
    dsimp only
    split
    · cases lookE s.ents key with
      | some n => exact Nat.le_trans (List.length_filter_le _ _) (Nat.le_succ _)
      | none => exact Nat.le_succ _
    · exact Nat.le_succ _
theorem callG_facts (S : List MapS) (K : List Reg) (which r1 r2 r3 : Int) : (callG S K which r1 r2 r3).S.length = S.length ∧ (callG S K which r1 r2 r3).K.length ≤ K.length + 1 ∧ ((indexF S.length r1).2 = true → (callG S K which r1 r2 r3).fault = 0 ∨ (callG S K which r1 r2 r3).fault = 1) ∧ ((indexF S.length r1).2 = false → (callG S K which r1 r2 r3).fault = 2) := by
  unfold callG
  by_cases h : (indexF S.length r1).2 = true
  · rw [if_pos h]
    cases bytesF K r2 (defF S (indexF S.length r1).1).f1 with
    | none => exact ⟨rfl, Nat.le_succ _, fun _ => .inr rfl, fun e => by rw [h] at e; cases e⟩
    | some key =>
      dsimp only
      by_cases h2 : which = 2
      · rw [if_pos h2]
        cases bytesF K r3 (defF S (indexF S.length r1).1).f2 with
        | none => exact ⟨rfl, Nat.le_succ _, fun _ => .inr rfl, fun e => by rw [h] at e; cases e⟩
        | some value => exact ⟨upd_len _ _ _ _, updK_len _ _ _ _ _, fun _ => .inl rfl, fun e => by rw [h] at e; cases e⟩
      · rw [if_neg h2]
        by_cases h1 : which = 1
        · rw [if_pos h1]
          exact ⟨rfl, Nat.le_succ _, fun _ => .inl rfl, fun e => by rw [h] at e; cases e⟩
        · rw [if_neg h1]
          exact ⟨del_len _ _ _, delK_len _ _ _ _, fun _ => .inl rfl, fun e => by rw [h] at e; cases e⟩
  · rw [if_neg h]
    exact ⟨rfl, Nat.le_succ _, fun e => absurd e h, fun _ => rfl⟩
theorem eq_items (w : World) (l : List Int) : ∀ is : List Nat, (∀ i ∈ is, i < l.length) → (Op.eqItems 9999 30 1 (l.map (Value.int .u64)).toArray (l.map (Value.int .u64)).toArray is).run Tryd.prog w = .ok true w
  | [], _ => rfl
  | i :: is, h => by
    have hi : i < l.length := h i (List.mem_cons_self)
    have px : (part 30 (l.map (Value.int .u64)).toArray (i * 1)).run Tryd.prog w = .ok (.int .u64 (l.getD i 0)) w := by
      simp [part, isAgg, run_underlying Tryd.underlying30, List.getD, List.getElem?_eq_getElem hi]
    have pe : (Op.equalIn 9999 30 (.int .u64 (l.getD i 0)) (.int .u64 (l.getD i 0))).run Tryd.prog w = .ok true w := by
      rw [run_equalIn_int w 9998 30 .u64 .u64 _ _ Tryd.underlying30]
      simp
    simp only [Op.eqItems, Sem.run_bind, px, pe, Result.andThen_ok]
    simpa using eq_items w l is (fun j hj => h j (List.mem_cons_of_mem _ hj))
theorem eq_regs (r0 r1 r2 r3 r4 r5 r6 r7 r8 r9 r10 : Int) (w : World) : (Op.equalIn 10000 33 (.agg #[.int .u64 r0, .int .u64 r1, .int .u64 r2, .int .u64 r3, .int .u64 r4, .int .u64 r5, .int .u64 r6, .int .u64 r7, .int .u64 r8, .int .u64 r9, .int .u64 r10]) (.agg #[.int .u64 r0, .int .u64 r1, .int .u64 r2, .int .u64 r3, .int .u64 r4, .int .u64 r5, .int .u64 r6, .int .u64 r7, .int .u64 r8, .int .u64 r9, .int .u64 r10])).run Tryd.prog w = .ok true w := by
  obtain ⟨i, hi⟩ : ∃ i, Tryd.prog.info? 30 = some i := by
    cases h : Tryd.prog.info? 30 with
    | none => have : (Tryd.prog.info? 30).isSome = true := by kernel_rfl
              rw [h] at this; cases this
    | some i => exact ⟨i, rfl⟩
  have hc : Tryd.prog.cellsOf 30 = 1 := by kernel_rfl
  rw [show (10000 : Nat) = 9999 + 1 from rfl, run_equalIn_array w 9999 _ _ Tryd.underlying33 hi, hc]
  exact eq_items w [r0, r1, r2, r3, r4, r5, r6, r7, r8, r9, r10] (List.range 11) (fun i hi => by simpa using hi)
theorem keys_new (ds : List S28) (hs : ds.all sizesB = true) : KeysOk (ds.map newS) := fun s hm => by
  obtain ⟨d, hd, rfl⟩ := List.mem_map.1 hm
  have h := (sizes_iff d).1 (List.all_eq_true.1 hs d hd)
  exact ⟨by show 0 ≤ d.f1; omega, by show d.f1 ≤ 64; omega⟩
theorem rightF_facts {data : List Int} {ds : List S28} {l : List OpH} (h : rightF data ds l = true) : 0 < data.length ∧ data.length ≤ 600 ∧ ds.length ≤ 20 ∧ ds.all sizesB = true ∧ l.length ≤ 40 ∧ ∀ o ∈ l, o.which = 1 ∨ o.which = 2 ∨ o.which = 3 := by
  unfold rightF at h
  simp only [Bool.and_eq_true, decide_eq_true_eq] at h
  obtain ⟨⟨⟨⟨⟨h1, h2⟩, h3⟩, h4⟩, h5⟩, h6⟩ := h
  refine ⟨by omega, h2, h3, ?_, h5, fun o ho => ?_⟩
  · unfold checkF at h4
    split at h4
    · cases h4
    · split at h4
      · assumption
      · cases h4
  · have := List.all_eq_true.1 h6 o ho
    unfold whichB at this
    simp only [Bool.and_eq_true, decide_eq_true_eq] at this
    omega
set_option maxHeartbeats 8000000 in
set_option maxRecDepth 100000 in
theorem helperFaults_r (X : World) (hL : LaidH X) (A0 A1 : Option Addr) (c0 c1 : Nat) (data : List Int) (ds : List S28) (wh r0 r1 r2 r3 r4 r5 r6 r7 r8 r9 r10 : Int) (hr0 : Kd.C (Kd.int .u8) X A0 data.length data) (hr1 : Kd.C k28 X A1 ds.length ds) (hc0 : data.length ≤ c0) (hc1 : ds.length ≤ c1) (hw0 : IsBytes data) (hok : OpHOk ⟨wh, r0, r1, r2, r3, r4, r5, r6, r7, r8, r9, r10⟩) :
    Calls Tryd.prog 7 #[.slice A0 data.length c0, .slice A1 ds.length c1, .agg #[.int .i64 wh, .int .u64 r0, .int .u64 r1, .int .u64 r2, .int .u64 r3, .int .u64 r4, .int .u64 r5, .int .u64 r6, .int .u64 r7, .int .u64 r8, .int .u64 r9, .int .u64 r10]] X fun e X' => e = .returned (.bool true) ∧ Below X.heap.size X X' := by
  have HL := Aside0.mk hL
  have HR0 := Aside0.mk hr0
  have HR1 := Aside0.mk hr1
  have HC0 := Aside0.mk hc0
  have HC1 := Aside0.mk hc1
  have HB0 := Aside0.mk hw0
  have HOK := Aside0.mk hok
  clear hL hr0 hr1 hc0 hc1 hw0 hok
  obtain ⟨X0, hX0⟩ : ∃ X0, X.alloc (.cells #[.int .i64 wh, .int .u64 r0, .int .u64 r1, .int .u64 r2, .int .u64 r3, .int .u64 r4, .int .u64 r5, .int .u64 r6, .int .u64 r7, .int .u64 r8, .int .u64 r9, .int .u64 r10] 57) = X0 := ⟨_, rfl⟩
  obtain ⟨W1, hW1⟩ : ∃ W1, X0.alloc (.cells #[.int .i64 wh, .int .u64 r0, .int .u64 r1, .int .u64 r2, .int .u64 r3, .int .u64 r4, .int .u64 r5, .int .u64 r6, .int .u64 r7, .int .u64 r8, .int .u64 r9, .int .u64 r10] 57) = W1 := ⟨_, rfl⟩
  have HX0 := Aside0.mk hX0
  have HW1 := Aside0.mk hW1
  have HS0 : Aside0 (X.heap.size + 1 = X0.heap.size) := ⟨by rw [← hX0]; simp⟩
  have HB1 : Aside0 (Below X.heap.size X W1) := ⟨by rw [← hW1, ← hX0]; exact below_alloc (below_alloc (Below.refl _ _) _) _⟩
  have HBX : Aside0 (W1.heap[X.heap.size]? = some (.cells #[.int .i64 wh, .int .u64 r0, .int .u64 r1, .int .u64 r2, .int .u64 r3, .int .u64 r4, .int .u64 r5, .int .u64 r6, .int .u64 r7, .int .u64 r8, .int .u64 r9, .int .u64 r10] 57 (0, 0))) := ⟨by rw [← hW1]; refine below_blk (below_alloc (Below.refl _ _) _) ?_; rw [← hX0]; exact heap_alloc_new X _⟩
  have HOP : Aside0 (OpsAt W1 (some ⟨X0.heap.size, 0, none⟩) [⟨wh, r0, r1, r2, r3, r4, r5, r6, r7, r8, r9, r10⟩]) := ⟨by rw [← hW1]; exact ops_lit _ ⟨wh, r0, r1, r2, r3, r4, r5, r6, r7, r8, r9, r10⟩ _ (heap_alloc_new X0 _)⟩
  have HIN : Aside0 ((Tryd.prog.info? 33).map (·.size) = some 11) := ⟨by kernel_rfl⟩
  have heq : ∀ w : World, (Op.equalIn 10000 33 (.agg #[.int .u64 r0, .int .u64 r1, .int .u64 r2, .int .u64 r3, .int .u64 r4, .int .u64 r5, .int .u64 r6, .int .u64 r7, .int .u64 r8, .int .u64 r9, .int .u64 r10]) (.agg #[.int .u64 r0, .int .u64 r1, .int .u64 r2, .int .u64 r3, .int .u64 r4, .int .u64 r5, .int .u64 r6, .int .u64 r7, .int .u64 r8, .int .u64 r9, .int .u64 r10])).run Tryd.prog w = .ok true w := fun w => eq_regs r0 r1 r2 r3 r4 r5 r6 r7 r8 r9 r10 w
  clear hX0 hW1
  obtain ⟨n, hn⟩ : ∃ n, data.length = n := ⟨_, rfl⟩
  have HN := Aside0.mk hn
  obtain ⟨b, hb⟩ : ∃ b, rightF data ds [⟨wh, r0, r1, r2, r3, r4, r5, r6, r7, r8, r9, r10⟩] = b := ⟨_, rfl⟩
  have HRT := Aside0.mk hb
  have HRC : Aside0 (Calls Tryd.prog 16 #[.slice A0 data.length c0, .slice A1 ds.length c1, .slice (some ⟨X0.heap.size, 0, none⟩) 1 1] W1 fun e X' => e = .returned (.bool b) ∧ Below W1.heap.size W1 X') := ⟨hb ▸ hright_c W1 A0 A1 _ c0 c1 1 data ds [⟨wh, r0, r1, r2, r3, r4, r5, r6, r7, r8, r9, r10⟩] (Kd.C_below HR1.out HB1.out) HC1.out HOP.out⟩
  clear hb hn
  cases b with
  | false =>
    go_enter Tryd.func7, Tryd.ntmps7
    go_wp2_with fail
    rw [HX0.out, HS0.out, HW1.out]
    refine HRC.out.mono ?_
    rintro e w3 ⟨rfl, hb3⟩
    have HB3 : Aside0 (Below X.heap.size X w3) := ⟨HB1.out.trans (hb3.mono HB1.out.size)⟩
    clear hb3 heq
    go_wp2_with fail
    refine (halive_c w3 (HL.out.below HB3.out)).mono ?_
    rintro e w4 ⟨rfl, hb4⟩
    have HB4 : Aside0 (Below X.heap.size X w4) := ⟨HB3.out.trans (hb4.mono HB3.out.size)⟩
    clear hb4
    go_wp2_with fail
    go_ret
    exact ⟨rfl, HB4.out⟩
  | true =>
    have HF := Aside0.mk (rightF_facts HRT.out)
    have HWH : Aside0 (wh = 1 ∨ wh = 2 ∨ wh = 3) := ⟨HF.out.2.2.2.2.2 _ (List.mem_singleton.2 rfl)⟩
    go_enter Tryd.func7, Tryd.ntmps7
    go_wp2_with fail
    rw [HX0.out, HS0.out, HW1.out]
    refine HRC.out.mono ?_
    rintro e w3 ⟨rfl, hb3⟩
    have HB3 : Aside0 (Below X.heap.size X w3) := ⟨HB1.out.trans (hb3.mono HB1.out.size)⟩
    have HBX3 := Aside0.mk (below_blk hb3 HBX.out)
    clear hb3
    go_wp2_with fail
    refine (start_c w3 A0 A1 c0 c1 data ds (Kd.C_below HR0.out HB3.out) HC0.out HF.out.1 (by have := HF.out; omega) HB0.out (Kd.C_below HR1.out HB3.out) (by have := HF.out; omega) HF.out.2.2.2.1).mono ?_
    rintro e w4 ⟨⟨t, m, rfl, hm4⟩, hb4⟩
    have HM4 := Aside0.mk hm4
    have HB4 : Aside0 (Below X.heap.size X w4) := ⟨HB3.out.trans (hb4.mono HB3.out.size)⟩
    have HBX4 := Aside0.mk (below_blk hb4 HBX3.out)
    have HFX : Aside0 (X.heap.size < w3.heap.size) := ⟨(Array.getElem?_eq_some_iff.1 HBX3.out).1⟩
    have HKS := Aside0.mk (keys_new ds HF.out.2.2.2.1)
    have HCG := Aside0.mk (callG_facts (ds.map newS) [⟨4294967296, data⟩] wh r1 r2 r3)
    obtain ⟨S0, hS0⟩ : ∃ S0, ds.map newS = S0 := ⟨_, rfl⟩
    obtain ⟨K0, hK0⟩ : ∃ K0, ([⟨4294967296, data⟩] : List Reg) = K0 := ⟨_, rfl⟩
    have HK0 : Aside0 (K0.length = 1) := ⟨by rw [← hK0]; rfl⟩
    rw [hS0] at HM4 HKS HCG
    rw [hK0] at HM4 HCG
    obtain ⟨B, hB⟩ : ∃ B, w3.heap.size = B := ⟨_, rfl⟩
    have HBB : Aside0 (X.heap.size ≤ B) := ⟨hB ▸ HB3.out.size⟩
    rw [hB] at HM4 HFX
    clear hm4 hb4 hS0 hK0 hB
    have a0 : w4.cell? ⟨X.heap.size, 0, none⟩ = some (.int .i64 wh) := by have h := HBX4.out; simp [World.cell?, h]
    have a1 : w4.cell? ⟨X.heap.size, 1, none⟩ = some (.int .u64 r0) := by have h := HBX4.out; simp [World.cell?, h]
    have a2 : w4.cell? ⟨X.heap.size, 2, none⟩ = some (.int .u64 r1) := by have h := HBX4.out; simp [World.cell?, h]
    have a3 : w4.cell? ⟨X.heap.size, 3, none⟩ = some (.int .u64 r2) := by have h := HBX4.out; simp [World.cell?, h]
    have a4 : w4.cell? ⟨X.heap.size, 4, none⟩ = some (.int .u64 r3) := by have h := HBX4.out; simp [World.cell?, h]
    have a5 : w4.cell? ⟨X.heap.size, 5, none⟩ = some (.int .u64 r4) := by have h := HBX4.out; simp [World.cell?, h]
    have a6 : w4.cell? ⟨X.heap.size, 6, none⟩ = some (.int .u64 r5) := by have h := HBX4.out; simp [World.cell?, h]
    have a7 : w4.cell? ⟨X.heap.size, 7, none⟩ = some (.int .u64 r6) := by have h := HBX4.out; simp [World.cell?, h]
    have a8 : w4.cell? ⟨X.heap.size, 8, none⟩ = some (.int .u64 r7) := by have h := HBX4.out; simp [World.cell?, h]
    have a9 : w4.cell? ⟨X.heap.size, 9, none⟩ = some (.int .u64 r8) := by have h := HBX4.out; simp [World.cell?, h]
    have a10 : w4.cell? ⟨X.heap.size, 10, none⟩ = some (.int .u64 r9) := by have h := HBX4.out; simp [World.cell?, h]
    have a11 : w4.cell? ⟨X.heap.size, 11, none⟩ = some (.int .u64 r10) := by have h := HBX4.out; simp [World.cell?, h]
    go_upto_region 6 with (fail)
    obtain ⟨⟨f, x, S1, K1⟩, hg⟩ : ∃ g, callG S0 K0 wh r1 r2 r3 = g := ⟨_, rfl⟩
    have HG := Aside0.mk hg
    rw [hg] at HCG
    clear hg
    dsimp only at HCG
    have HOKS : Aside0 ((0 ≤ r1 ∧ r1 < 18446744073709551616) ∧ (0 ≤ r2 ∧ r2 < 18446744073709551616) ∧ (0 ≤ r3 ∧ r3 < 18446744073709551616)) := ⟨HOK.out.r1, HOK.out.r2, HOK.out.r3⟩
    obtain ⟨i, ok, hix⟩ : ∃ i ok, indexF S0.length r1 = (i, ok) := ⟨_, _, rfl⟩
    have HIX := Aside0.mk hix
    have HCF : Aside0 (∀ f0, f = f0 → f0 ≠ 0 → Calls Tryd.prog 11 #[.pointer (some ⟨t, 0, none⟩), .pointer (some ⟨m, 0, none⟩), .int .i64 wh, .agg #[.int .u64 r0, .int .u64 r1, .int .u64 r2, .int .u64 r3, .int .u64 r4, .int .u64 r5, .int .u64 r6, .int .u64 r7, .int .u64 r8, .int .u64 r9, .int .u64 r10]] w4 fun e X' => e = .returned (.tuple #[.agg #[.int .u64 r0, .int .u64 r1, .int .u64 r2, .int .u64 r3, .int .u64 r4, .int .u64 r5, .int .u64 r6, .int .u64 r7, .int .u64 r8, .int .u64 r9, .int .u64 r10], .int .i64 f0]) ∧ Below w4.heap.size w4 X') := ⟨fun f0 e1 e2 => call_fault w4 B 0 _ t m S0 K0 wh r0 r1 r2 r3 r4 r5 r6 r7 r8 r9 r10 HM4.out (by rw [HK0.out]; decide) HKS.out HOKS.out.1.1 HOKS.out.1.2 HOKS.out.2.1.1 HOKS.out.2.1.2 HOKS.out.2.2.1 HOKS.out.2.2.2 HWH.out f0 (by rw [HG.out]; exact e1) e2⟩
    clear hix
    cases ok with
    | false =>
      go_wp2_with fail
      refine (HCF.out 2 (HCG.out.2.2.2 (by rw [HIX.out])) (by decide)).mono ?_
      rintro e w5 ⟨rfl, hb5⟩
      obtain ⟨W6, hW6⟩ : ∃ W6, w5.alloc (.cells #[.int .u64 r0, .int .u64 r1, .int .u64 r2, .int .u64 r3, .int .u64 r4, .int .u64 r5, .int .u64 r6, .int .u64 r7, .int .u64 r8, .int .u64 r9, .int .u64 r10] 33) = W6 := ⟨_, rfl⟩
      have hb6 : Below w4.heap.size w4 W6 := by rw [← hW6]; exact below_alloc hb5 _
      have HT6 : Aside0 (W6.heap[w5.heap.size]? = some (.cells #[.int .u64 r0, .int .u64 r1, .int .u64 r2, .int .u64 r3, .int .u64 r4, .int .u64 r5, .int .u64 r6, .int .u64 r7, .int .u64 r8, .int .u64 r9, .int .u64 r10] 33 (0, 0))) := ⟨by rw [← hW6]; exact heap_alloc_new w5 _⟩
      have HM6 := Aside0.mk (HM4.out.below hb6)
      have HB6 : Aside0 (Below X.heap.size X W6) := ⟨HB4.out.trans (hb6.mono HB4.out.size)⟩
      have HBX6 := Aside0.mk (below_blk hb6 HBX4.out)
      have HW6 := Aside0.mk hW6
      clear hb5 hb6 hW6
      go_upto_region 7 with (fail)
      rw [HW6.out]
      obtain ⟨bt, hbt⟩ : ∃ bt, w5.heap.size = bt := ⟨_, rfl⟩
      rw [hbt] at HT6 ⊢
      clear hbt a0 a1 a2 a3 a4 a5 a6 a7 a8 a9 a10 a11
      have c2 : W6.cell? ⟨X.heap.size, 2, none⟩ = some (.int .u64 r1) := by have h := HBX6.out; simp [World.cell?, h]
      go_wp2_with fail
      refine (lm_index W6 B 0 t m S0 K0 r1 HM6.out.lm HOKS.out.1.1 HOKS.out.1.2 (i, false) HIX.out).mono ?_
      rintro e w7 ⟨rfl, rfl⟩
      dsimp only
      clear c2
      go_wp2_with fail
      refine (halive_c W6 (HL.out.below HB6.out)).mono ?_
      rintro e w8 ⟨rfl, hb8⟩
      have HB8 : Aside0 (Below X.heap.size X w8) := ⟨HB6.out.trans (hb8.mono HB6.out.size)⟩
      have HM8 := Aside0.mk (HM6.out.below hb8)
      have HBX8 := below_blk hb8 HBX6.out
      have HT8 := below_blk hb8 HT6.out
      have a0 : w8.cell? ⟨X.heap.size, 0, none⟩ = some (.int .i64 wh) := by have h := HBX8; simp [World.cell?, h]
      have a1 : w8.cell? ⟨X.heap.size, 1, none⟩ = some (.int .u64 r0) := by have h := HBX8; simp [World.cell?, h]
      have a2 : w8.cell? ⟨X.heap.size, 2, none⟩ = some (.int .u64 r1) := by have h := HBX8; simp [World.cell?, h]
      have a3 : w8.cell? ⟨X.heap.size, 3, none⟩ = some (.int .u64 r2) := by have h := HBX8; simp [World.cell?, h]
      have a4 : w8.cell? ⟨X.heap.size, 4, none⟩ = some (.int .u64 r3) := by have h := HBX8; simp [World.cell?, h]
      have a5 : w8.cell? ⟨X.heap.size, 5, none⟩ = some (.int .u64 r4) := by have h := HBX8; simp [World.cell?, h]
      have a6 : w8.cell? ⟨X.heap.size, 6, none⟩ = some (.int .u64 r5) := by have h := HBX8; simp [World.cell?, h]
      have a7 : w8.cell? ⟨X.heap.size, 7, none⟩ = some (.int .u64 r6) := by have h := HBX8; simp [World.cell?, h]
      have a8 : w8.cell? ⟨X.heap.size, 8, none⟩ = some (.int .u64 r7) := by have h := HBX8; simp [World.cell?, h]
      have a9 : w8.cell? ⟨X.heap.size, 9, none⟩ = some (.int .u64 r8) := by have h := HBX8; simp [World.cell?, h]
      have a10 : w8.cell? ⟨X.heap.size, 10, none⟩ = some (.int .u64 r9) := by have h := HBX8; simp [World.cell?, h]
      have a11 : w8.cell? ⟨X.heap.size, 11, none⟩ = some (.int .u64 r10) := by have h := HBX8; simp [World.cell?, h]
      have b0 : w8.cell? ⟨bt, 0, none⟩ = some (.int .u64 r0) := by have h := HT8; simp [World.cell?, h]
      have b1 : w8.cell? ⟨bt, 1, none⟩ = some (.int .u64 r1) := by have h := HT8; simp [World.cell?, h]
      have b2 : w8.cell? ⟨bt, 2, none⟩ = some (.int .u64 r2) := by have h := HT8; simp [World.cell?, h]
      have b3 : w8.cell? ⟨bt, 3, none⟩ = some (.int .u64 r3) := by have h := HT8; simp [World.cell?, h]
      have b4 : w8.cell? ⟨bt, 4, none⟩ = some (.int .u64 r4) := by have h := HT8; simp [World.cell?, h]
      have b5 : w8.cell? ⟨bt, 5, none⟩ = some (.int .u64 r5) := by have h := HT8; simp [World.cell?, h]
      have b6 : w8.cell? ⟨bt, 6, none⟩ = some (.int .u64 r6) := by have h := HT8; simp [World.cell?, h]
      have b7 : w8.cell? ⟨bt, 7, none⟩ = some (.int .u64 r7) := by have h := HT8; simp [World.cell?, h]
      have b8 : w8.cell? ⟨bt, 8, none⟩ = some (.int .u64 r8) := by have h := HT8; simp [World.cell?, h]
      have b9 : w8.cell? ⟨bt, 9, none⟩ = some (.int .u64 r9) := by have h := HT8; simp [World.cell?, h]
      have b10 : w8.cell? ⟨bt, 10, none⟩ = some (.int .u64 r10) := by have h := HT8; simp [World.cell?, h]
      clear hb8 HBX8 HT8
      go_wp2_with fail
      refine (lm_len w8 B _ t m _ _ HM8.out.lm).mono ?_
      rintro e w9 ⟨rfl, rfl⟩
      have hone := HK0.out
      rw [hone]
      clear hone
      go_wp2_with fail
      go_ret
      exact ⟨rfl, HB8.out⟩
    | true =>
      rcases HCG.out.2.2.1 (by rw [HIX.out]) with hf0 | hf1
      · subst hf0
        have HCK : Aside0 (Calls Tryd.prog 11 #[.pointer (some ⟨t, 0, none⟩), .pointer (some ⟨m, 0, none⟩), .int .i64 wh, .agg #[.int .u64 r0, .int .u64 r1, .int .u64 r2, .int .u64 r3, .int .u64 r4, .int .u64 r5, .int .u64 r6, .int .u64 r7, .int .u64 r8, .int .u64 r9, .int .u64 r10]] w4 fun e X' => e = .returned (.tuple #[.agg #[.int .u64 x, .int .u64 0, .int .u64 0, .int .u64 0, .int .u64 0, .int .u64 0, .int .u64 r6, .int .u64 r7, .int .u64 r8, .int .u64 r9, .int .u64 r10], .int .i64 0]) ∧ LMF B (0 + 1) (fun k => k < B) X' t m S1 K1 ∧ Kept (fun k => k < B) w4 X') := ⟨call_ok w4 B 0 _ t m S0 K0 wh r0 r1 r2 r3 r4 r5 r6 r7 r8 r9 r10 HM4.out (by decide) (by rw [HK0.out]; decide) HKS.out HOKS.out.1.1 HOKS.out.1.2 HOKS.out.2.1.1 HOKS.out.2.1.2 HOKS.out.2.2.1 HOKS.out.2.2.2 HWH.out x S1 K1 HG.out⟩
        go_wp2_with fail
        refine HCK.out.mono ?_
        rintro e w5 ⟨rfl, hm5, hk5⟩
        have HBX5 := Aside0.mk (kept_blk hk5 HBX4.out HFX.out)
        have HB5 : Aside0 (Below X.heap.size X w5) := ⟨HB4.out.trans ((hk5.below HM4.out.1 HM4.out.2.2.1).mono HBB.out)⟩
        obtain ⟨W6, hW6⟩ : ∃ W6, w5.alloc (.cells #[.int .u64 x, .int .u64 0, .int .u64 0, .int .u64 0, .int .u64 0, .int .u64 0, .int .u64 r6, .int .u64 r7, .int .u64 r8, .int .u64 r9, .int .u64 r10] 33) = W6 := ⟨_, rfl⟩
        have hb6 : Below w5.heap.size w5 W6 := by rw [← hW6]; exact below_alloc (Below.refl _ _) _
        have HT6 : Aside0 (W6.heap[w5.heap.size]? = some (.cells #[.int .u64 x, .int .u64 0, .int .u64 0, .int .u64 0, .int .u64 0, .int .u64 0, .int .u64 r6, .int .u64 r7, .int .u64 r8, .int .u64 r9, .int .u64 r10] 33 (0, 0))) := ⟨by rw [← hW6]; exact heap_alloc_new w5 _⟩
        have HM6 := Aside0.mk (hm5.below hb6)
        have HB6 : Aside0 (Below X.heap.size X W6) := ⟨HB5.out.trans (hb6.mono HB5.out.size)⟩
        have HBX6 := Aside0.mk (below_blk hb6 HBX5.out)
        have HW6 := Aside0.mk hW6
        clear hb6 hW6 hm5 hk5
        go_upto_region 7 with (fail)
        rw [HW6.out]
        obtain ⟨bt, hbt⟩ : ∃ bt, w5.heap.size = bt := ⟨_, rfl⟩
        rw [hbt] at HT6 ⊢
        clear hbt a0 a1 a2 a3 a4 a5 a6 a7 a8 a9 a10 a11
        have c2 : W6.cell? ⟨X.heap.size, 2, none⟩ = some (.int .u64 r1) := by have h := HBX6.out; simp [World.cell?, h]
        go_wp2_with fail
        refine (lm_index W6 B _ t m S1 K1 r1 HM6.out.lm HOKS.out.1.1 HOKS.out.1.2 (i, true) (by rw [HCG.out.1]; exact HIX.out)).mono ?_
        rintro e w7 ⟨rfl, rfl⟩
        dsimp only
        clear c2
        go_wp2_with fail
        refine (halive_c W6 (HL.out.below HB6.out)).mono ?_
        rintro e w8 ⟨rfl, hb8⟩
        have HB8 : Aside0 (Below X.heap.size X w8) := ⟨HB6.out.trans (hb8.mono HB6.out.size)⟩
        have HM8 := Aside0.mk (HM6.out.below hb8)
        have HBX8 := below_blk hb8 HBX6.out
        have HT8 := below_blk hb8 HT6.out
        have a0 : w8.cell? ⟨X.heap.size, 0, none⟩ = some (.int .i64 wh) := by have h := HBX8; simp [World.cell?, h]
        have a1 : w8.cell? ⟨X.heap.size, 1, none⟩ = some (.int .u64 r0) := by have h := HBX8; simp [World.cell?, h]
        have a2 : w8.cell? ⟨X.heap.size, 2, none⟩ = some (.int .u64 r1) := by have h := HBX8; simp [World.cell?, h]
        have a3 : w8.cell? ⟨X.heap.size, 3, none⟩ = some (.int .u64 r2) := by have h := HBX8; simp [World.cell?, h]
        have a4 : w8.cell? ⟨X.heap.size, 4, none⟩ = some (.int .u64 r3) := by have h := HBX8; simp [World.cell?, h]
        have a5 : w8.cell? ⟨X.heap.size, 5, none⟩ = some (.int .u64 r4) := by have h := HBX8; simp [World.cell?, h]
        have a6 : w8.cell? ⟨X.heap.size, 6, none⟩ = some (.int .u64 r5) := by have h := HBX8; simp [World.cell?, h]
        have a7 : w8.cell? ⟨X.heap.size, 7, none⟩ = some (.int .u64 r6) := by have h := HBX8; simp [World.cell?, h]
        have a8 : w8.cell? ⟨X.heap.size, 8, none⟩ = some (.int .u64 r7) := by have h := HBX8; simp [World.cell?, h]
        have a9 : w8.cell? ⟨X.heap.size, 9, none⟩ = some (.int .u64 r8) := by have h := HBX8; simp [World.cell?, h]
        have a10 : w8.cell? ⟨X.heap.size, 10, none⟩ = some (.int .u64 r9) := by have h := HBX8; simp [World.cell?, h]
        have a11 : w8.cell? ⟨X.heap.size, 11, none⟩ = some (.int .u64 r10) := by have h := HBX8; simp [World.cell?, h]
        have b0 : w8.cell? ⟨bt, 0, none⟩ = some (.int .u64 x) := by have h := HT8; simp [World.cell?, h]
        have b1 : w8.cell? ⟨bt, 1, none⟩ = some (.int .u64 0) := by have h := HT8; simp [World.cell?, h]
        have b2 : w8.cell? ⟨bt, 2, none⟩ = some (.int .u64 0) := by have h := HT8; simp [World.cell?, h]
        have b3 : w8.cell? ⟨bt, 3, none⟩ = some (.int .u64 0) := by have h := HT8; simp [World.cell?, h]
        have b4 : w8.cell? ⟨bt, 4, none⟩ = some (.int .u64 0) := by have h := HT8; simp [World.cell?, h]
        have b5 : w8.cell? ⟨bt, 5, none⟩ = some (.int .u64 0) := by have h := HT8; simp [World.cell?, h]
        have b6 : w8.cell? ⟨bt, 6, none⟩ = some (.int .u64 r6) := by have h := HT8; simp [World.cell?, h]
        have b7 : w8.cell? ⟨bt, 7, none⟩ = some (.int .u64 r7) := by have h := HT8; simp [World.cell?, h]
        have b8 : w8.cell? ⟨bt, 8, none⟩ = some (.int .u64 r8) := by have h := HT8; simp [World.cell?, h]
        have b9 : w8.cell? ⟨bt, 9, none⟩ = some (.int .u64 r9) := by have h := HT8; simp [World.cell?, h]
        have b10 : w8.cell? ⟨bt, 10, none⟩ = some (.int .u64 r10) := by have h := HT8; simp [World.cell?, h]
        clear hb8 HBX8 HT8
        go_wp2_with fail
        refine (lm_len w8 B _ t m _ _ HM8.out.lm).mono ?_
        rintro e w9 ⟨rfl, rfl⟩
        have hle : decide ((K1.length : Int) ≤ 2) = true := decide_eq_true (by have := HCG.out.2.1; rw [HK0.out] at this; omega)
        have har : ∀ w : World, (Instr.arrayAt 74 (.slice (some ⟨bt, 1, none⟩) 5 10)).run Tryd.prog w = .ok (.pointer (some ⟨bt, 1, none⟩)) w := fun w => by simp [Instr.arrayAt, run_underlying Tryd.underlying74]
        have he5 : ∀ w : World, (Op.equalIn 10000 74 (.agg #[.int .u64 0, .int .u64 0, .int .u64 0, .int .u64 0, .int .u64 0]) (.agg #[.int .u64 0, .int .u64 0, .int .u64 0, .int .u64 0, .int .u64 0])).run Tryd.prog w = .ok true w := fun _ => by kernel_rfl
        go_wp2_with fail
        go_ret
        exact ⟨rfl, HB8.out⟩
      · go_wp2_with fail
        refine (HCF.out 1 hf1 (by decide)).mono ?_
        rintro e w5 ⟨rfl, hb5⟩
        obtain ⟨W6, hW6⟩ : ∃ W6, w5.alloc (.cells #[.int .u64 r0, .int .u64 r1, .int .u64 r2, .int .u64 r3, .int .u64 r4, .int .u64 r5, .int .u64 r6, .int .u64 r7, .int .u64 r8, .int .u64 r9, .int .u64 r10] 33) = W6 := ⟨_, rfl⟩
        have hb6 : Below w4.heap.size w4 W6 := by rw [← hW6]; exact below_alloc hb5 _
        have HT6 : Aside0 (W6.heap[w5.heap.size]? = some (.cells #[.int .u64 r0, .int .u64 r1, .int .u64 r2, .int .u64 r3, .int .u64 r4, .int .u64 r5, .int .u64 r6, .int .u64 r7, .int .u64 r8, .int .u64 r9, .int .u64 r10] 33 (0, 0))) := ⟨by rw [← hW6]; exact heap_alloc_new w5 _⟩
        have HM6 := Aside0.mk (HM4.out.below hb6)
        have HB6 : Aside0 (Below X.heap.size X W6) := ⟨HB4.out.trans (hb6.mono HB4.out.size)⟩
        have HBX6 := Aside0.mk (below_blk hb6 HBX4.out)
        have HW6 := Aside0.mk hW6
        clear hb5 hb6 hW6
        go_upto_region 7 with (fail)
        rw [HW6.out]
        obtain ⟨bt, hbt⟩ : ∃ bt, w5.heap.size = bt := ⟨_, rfl⟩
        rw [hbt] at HT6 ⊢
        clear hbt a0 a1 a2 a3 a4 a5 a6 a7 a8 a9 a10 a11
        have c2 : W6.cell? ⟨X.heap.size, 2, none⟩ = some (.int .u64 r1) := by have h := HBX6.out; simp [World.cell?, h]
        go_wp2_with fail
        refine (lm_index W6 B 0 t m S0 K0 r1 HM6.out.lm HOKS.out.1.1 HOKS.out.1.2 (i, true) HIX.out).mono ?_
        rintro e w7 ⟨rfl, rfl⟩
        dsimp only
        clear c2
        go_wp2_with fail
        refine (halive_c W6 (HL.out.below HB6.out)).mono ?_
        rintro e w8 ⟨rfl, hb8⟩
        have HB8 : Aside0 (Below X.heap.size X w8) := ⟨HB6.out.trans (hb8.mono HB6.out.size)⟩
        have HM8 := Aside0.mk (HM6.out.below hb8)
        have HBX8 := below_blk hb8 HBX6.out
        have HT8 := below_blk hb8 HT6.out
        have a0 : w8.cell? ⟨X.heap.size, 0, none⟩ = some (.int .i64 wh) := by have h := HBX8; simp [World.cell?, h]
        have a1 : w8.cell? ⟨X.heap.size, 1, none⟩ = some (.int .u64 r0) := by have h := HBX8; simp [World.cell?, h]
        have a2 : w8.cell? ⟨X.heap.size, 2, none⟩ = some (.int .u64 r1) := by have h := HBX8; simp [World.cell?, h]
        have a3 : w8.cell? ⟨X.heap.size, 3, none⟩ = some (.int .u64 r2) := by have h := HBX8; simp [World.cell?, h]
        have a4 : w8.cell? ⟨X.heap.size, 4, none⟩ = some (.int .u64 r3) := by have h := HBX8; simp [World.cell?, h]
        have a5 : w8.cell? ⟨X.heap.size, 5, none⟩ = some (.int .u64 r4) := by have h := HBX8; simp [World.cell?, h]
        have a6 : w8.cell? ⟨X.heap.size, 6, none⟩ = some (.int .u64 r5) := by have h := HBX8; simp [World.cell?, h]
        have a7 : w8.cell? ⟨X.heap.size, 7, none⟩ = some (.int .u64 r6) := by have h := HBX8; simp [World.cell?, h]
        have a8 : w8.cell? ⟨X.heap.size, 8, none⟩ = some (.int .u64 r7) := by have h := HBX8; simp [World.cell?, h]
        have a9 : w8.cell? ⟨X.heap.size, 9, none⟩ = some (.int .u64 r8) := by have h := HBX8; simp [World.cell?, h]
        have a10 : w8.cell? ⟨X.heap.size, 10, none⟩ = some (.int .u64 r9) := by have h := HBX8; simp [World.cell?, h]
        have a11 : w8.cell? ⟨X.heap.size, 11, none⟩ = some (.int .u64 r10) := by have h := HBX8; simp [World.cell?, h]
        have b0 : w8.cell? ⟨bt, 0, none⟩ = some (.int .u64 r0) := by have h := HT8; simp [World.cell?, h]
        have b1 : w8.cell? ⟨bt, 1, none⟩ = some (.int .u64 r1) := by have h := HT8; simp [World.cell?, h]
        have b2 : w8.cell? ⟨bt, 2, none⟩ = some (.int .u64 r2) := by have h := HT8; simp [World.cell?, h]
        have b3 : w8.cell? ⟨bt, 3, none⟩ = some (.int .u64 r3) := by have h := HT8; simp [World.cell?, h]
        have b4 : w8.cell? ⟨bt, 4, none⟩ = some (.int .u64 r4) := by have h := HT8; simp [World.cell?, h]
        have b5 : w8.cell? ⟨bt, 5, none⟩ = some (.int .u64 r5) := by have h := HT8; simp [World.cell?, h]
        have b6 : w8.cell? ⟨bt, 6, none⟩ = some (.int .u64 r6) := by have h := HT8; simp [World.cell?, h]
        have b7 : w8.cell? ⟨bt, 7, none⟩ = some (.int .u64 r7) := by have h := HT8; simp [World.cell?, h]
        have b8 : w8.cell? ⟨bt, 8, none⟩ = some (.int .u64 r8) := by have h := HT8; simp [World.cell?, h]
        have b9 : w8.cell? ⟨bt, 9, none⟩ = some (.int .u64 r9) := by have h := HT8; simp [World.cell?, h]
        have b10 : w8.cell? ⟨bt, 10, none⟩ = some (.int .u64 r10) := by have h := HT8; simp [World.cell?, h]
        clear hb8 HBX8 HT8
        go_wp2_with fail
        refine (lm_len w8 B _ t m _ _ HM8.out.lm).mono ?_
        rintro e w9 ⟨rfl, rfl⟩
        have hone := HK0.out
        rw [hone]
        clear hone
        go_wp2_with fail
        go_ret
        exact ⟨rfl, HB8.out⟩
theorem helperFaults_c (X : World) (hL : LaidH X) (A0 A1 : Option Addr) (c0 c1 : Nat) (data : List Int) (ds : List S28) (o : OpH) (hr0 : Kd.C (Kd.int .u8) X A0 data.length data) (hr1 : Kd.C k28 X A1 ds.length ds) (hc0 : data.length ≤ c0) (hc1 : ds.length ≤ c1) (hw0 : IsBytes data) (hok : OpHOk o) :
    Calls Tryd.prog 7 #[.slice A0 data.length c0, .slice A1 ds.length c1, .agg (opCells o).toArray] X fun e X' => e = .returned (.bool true) ∧ Below X.heap.size X X' := by
  obtain ⟨wh, r0, r1, r2, r3, r4, r5, r6, r7, r8, r9, r10⟩ := o
  exact helperFaults_r X hL A0 A1 c0 c1 data ds wh r0 r1 r2 r3 r4 r5 r6 r7 r8 r9 r10 hr0 hr1 hc0 hc1 hw0 hok
end Go.Proofs.YtomnfkihieinbaaDoor.PAll
