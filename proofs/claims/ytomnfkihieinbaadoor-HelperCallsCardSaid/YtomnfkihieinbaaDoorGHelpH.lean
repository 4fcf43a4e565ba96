/- The texts HelpR7 of this claim, joined. -/
import Derived.Test.YtomnfkihieinbaaDoorGHelpG
import Derived.Test.YtomnfkihieinbaaDoorGRMapD
import Derived.Test.YtomnfkihieinbaaDoorGHelpF
/- helper: both Calls, side by side. -/
set_option linter.unusedVariables false
set_option linter.unusedSimpArgs false
namespace Go.Proofs.YtomnfkihieinbaaDoor.PAll
open Go.RowKit Go.Shelf Go.Maps Go.Proofs.YtomnfkihieinbaaDoorW.PrintWords Go.Proofs.YtomnfkihieinbaaDoorW.PrintLast Go.Proofs.YtomnfkihieinbaaDoorW.PrintMore
theorem eq_items (w : World) (l : List Int) : ∀ is : List Nat, (∀ i ∈ is, i < l.length) → (Op.eqItems 9999 30 1 (l.map (Value.int .u64)).toArray (l.map (Value.int .u64)).toArray is).run Tryd.prog w = .ok true w
  | [], _ => rfl
  | i :: is, h => by
    have hi : i < l.length := h i (List.mem_cons_self)
    have px : (part 30 (l.map (Value.int .u64)).toArray (i * 1)).run Tryd.prog w = .ok (.int .u64 (l.getD i 0)) w := by
      simp [part, isAgg, run_underlying Tryd.underlying30, List.getD, List.getElem?_eq_getElem hi]
    have pe : (Op.equalIn 9999 30 (.int .u64 (l.getD i 0)) (.int .u64 (l.getD i 0))).run Tryd.prog w = .ok true w := by
      rw [run_equalIn_int w 9998 30 .u64 .u64 _ _ Tryd.underlying30]
      simp
    simp only [Op.eqItems, Sem.run_bind, px, pe, Result.andThen_ok]
    simpa using eq_items w l is (fun j hj => h j (List.mem_cons_of_mem _ hj))
theorem eq_regs (r0 r1 r2 r3 r4 r5 r6 r7 r8 r9 r10 : Int) (w : World) : (Op.equalIn 10000 33 (.agg #[.int .u64 r0, .int .u64 r1, .int .u64 r2, .int .u64 r3, .int .u64 r4, .int .u64 r5, .int .u64 r6, .int .u64 r7, .int .u64 r8, .int .u64 r9, .int .u64 r10]) (.agg #[.int .u64 r0, .int .u64 r1, .int .u64 r2, .int .u64 r3, .int .u64 r4, .int .u64 r5, .int .u64 r6, .int .u64 r7, .int .u64 r8, .int .u64 r9, .int .u64 r10])).run Tryd.prog w = .ok true w := by
  obtain ⟨i, hi⟩ : ∃ i, Tryd.prog.info? 30 = some i := by
    cases h : Tryd.prog.info? 30 with
    | none => have : (Tryd.prog.info? 30).isSome = true := by kernel_rfl
              rw [h] at this; cases this
    | some i => exact ⟨i, rfl⟩
  have hc : Tryd.prog.cellsOf 30 = 1 := by kernel_rfl
  rw [show (10000 : Nat) = 9999 + 1 from rfl, run_equalIn_array w 9999 _ _ Tryd.underlying33 hi, hc]
  exact eq_items w [r0, r1, r2, r3, r4, r5, r6, r7, r8, r9, r10] (List.range 11) (fun i hi => by simpa using hi)
theorem rightF_facts {data : List Int} {ds : List S28} {l : List OpH} (h : rightF data ds l = true) : 0 < data.length ∧ data.length ≤ 600 ∧ ds.length ≤ 20 ∧ ds.all sizesB = true ∧ l.length ≤ 40 ∧ ∀ o ∈ l, o.which = 1 ∨ o.which = 2 ∨ o.which = 3 := by
  unfold rightF at h
  simp only [Bool.and_eq_true, decide_eq_true_eq] at h
  obtain ⟨⟨⟨⟨⟨h1, h2⟩, h3⟩, h4⟩, h5⟩, h6⟩ := h
  refine ⟨by omega, h2, h3, ?_, h5, fun o ho => ?_⟩
  · unfold checkF at h4
    split at h4
    · cases h4
    · split at h4
      · assumption
      · cases h4
  · have := List.all_eq_true.1 h6 o ho
    unfold whichB at this
    simp only [Bool.and_eq_true, decide_eq_true_eq] at this
    omega
/-- The addresses of values lie far above the bytes. -/
theorem addr_hi {i n : Int} (h0 : 0 ≤ i) (h1 : i < 255) (h2 : 0 ≤ n) (h3 : n ≤ 100000) : 4611686018427387904 ≤ addrF i n := by
  unfold addrF addrI
  simp only [u64_mod]
  omega
theorem lookE_in {ents : List (List Int × Int)} {key : List Int} {n : Int} (h : lookE ents key = some n) : ∃ e ∈ ents, e.2 = n := by
  rcases findE_look (ents := ents) (key := key) with ⟨_, e2⟩ | ⟨j, e, _, e3, _, e2⟩
  · rw [e2] at h; cases h
  · rw [e2] at h
    cases h
    exact ⟨e, List.mem_of_getElem? e3, rfl⟩
theorem getP_lt {S : List MapS} {i : Int} {s : MapS} (h : getP S i = some s) : 0 ≤ i ∧ i < S.length := by
  obtain ⟨_, h0, h1⟩ := getP_mem3 h
  have := (List.getElem?_eq_some_iff.1 h1).1
  omega
theorem put_other {r : Reg} {a : Int} {bs : List Int} (h : r.base + r.data.length ≤ a) : putR a bs r = r := by
  unfold putR
  rw [if_neg]
  intro hh
  have := hit_iff.1 hh
  omega
theorem updK_mem {N : Nat} {S : List MapS} {K : List Reg} {r : Reg} (hS : GoodS N S) (hN : N ≤ 1000) (hr : r ∈ K) (hb : r.base + r.data.length ≤ 4611686018427387904) (i : Int) (key value : List Int) : r ∈ updK S K i key value := by
  unfold updK
  cases hg : getP S i with
  | none => exact hr
  | some s =>
    obtain ⟨h0, h1⟩ := getP_lt hg
    have hsg := hS.2 s (getP_mem hg)
    have hl := hS.1
    dsimp only
    split
    · cases hk : lookE s.ents key with
      | some n =>
        obtain ⟨e, he, rfl⟩ := lookE_in hk
        have hn := hsg.rng e he
        have hn1 := hsg.n1
        have := addr_hi (i := i) (n := e.2) h0 (by omega) hn.1 (by omega)
        exact List.mem_map.2 ⟨r, hr, put_other (by omega)⟩
      | none =>
        dsimp only
        split
        · exact hr
        · unfold addG
          split
          · exact List.mem_cons_of_mem _ hr
          · exact hr
    · exact hr
theorem delK_mem {N : Nat} {S : List MapS} {K : List Reg} {r : Reg} (hS : GoodS N S) (hN : N ≤ 1000) (hr : r ∈ K) (hb : r.base < 4611686018427387904) (i : Int) (key : List Int) : r ∈ delK S K i key := by
  unfold delK
  cases hg : getP S i with
  | none => exact hr
  | some s =>
    obtain ⟨h0, h1⟩ := getP_lt hg
    have hsg := hS.2 s (getP_mem hg)
    have hl := hS.1
    dsimp only
    split
    · cases hk : lookE s.ents key with
      | none => exact hr
      | some n =>
        obtain ⟨e, he, rfl⟩ := lookE_in hk
        have hn := hsg.rng e he
        have hn1 := hsg.n1
        have := addr_hi (i := i) (n := e.2) h0 (by omega) hn.1 (by omega)
        refine List.mem_filter.2 ⟨hr, ?_⟩
        simp
        omega
    · exact hr
theorem updS_keyP {P : Int → Prop} {S : List MapS} (h : ∀ s ∈ S, P s.key) (i : Int) (key value : List Int) : ∀ s ∈ updS S i key value, P s.key := by
  unfold updS
  cases hg : getP S i with
  | none => exact h
  | some s =>
    dsimp only
    split
    · cases lookE s.ents key with
      | some z => exact h
      | none =>
        dsimp only
        split
        · exact h
        · intro s' hs'
          rcases mem_set' hs' with hs' | rfl
          · exact h s' hs'
          · exact h s (getP_mem hg)
    · exact h
theorem delS_keyP {P : Int → Prop} {S : List MapS} (h : ∀ s ∈ S, P s.key) (i : Int) (key : List Int) : ∀ s ∈ delS S i key, P s.key := by
  unfold delS
  cases hg : getP S i with
  | none => exact h
  | some s =>
    dsimp only
    split
    · cases lookE s.ents key with
      | none => exact h
      | some z =>
        intro s' hs'
        rcases mem_set' hs' with hs' | rfl
        · exact h s' hs'
        · exact h s (getP_mem hg)
    · exact h
structure HSim (N : Nat) (data : List Int) (S : List MapS) (K R : List Reg) : Prop where
  sim : Sim N S K R
  ok : ∀ s ∈ S, s.key ≤ 64
  mem : (⟨4294967296, data⟩ : Reg) ∈ K
theorem ref_def (S : List MapS) (i : Int) : defF (refL S) i = defF S i := by
  unfold defF
  rw [refL_getP]
  cases getP S i <;> rfl
theorem HSim.succ {N : Nat} {data : List Int} {S : List MapS} {K R : List Reg} (h : HSim N data S K R) : HSim (N + 1) data S K R := ⟨h.sim.succ, h.ok, h.mem⟩
theorem HSim.keysOk {N : Nat} {data : List Int} {S : List MapS} {K R : List Reg} (h : HSim N data S K R) : KeysOk S := fun s hs => ⟨by have := h.sim.key1 s hs; omega, h.ok s hs⟩
theorem HSim.rhg {N : Nat} {data : List Int} {S : List MapS} {K R : List Reg} (h : HSim N data S K R) (hN : N ≤ 1000) (hD : DL K) : RHG (refL S) R := by
  refine ⟨ref_good h.sim.good (by omega), by rw [← h.sim.perm.length_eq]; exact Nat.le_trans h.sim.len (by omega), hD.perm h.sim.perm, ref_addr h.sim.key1, fun t ht => ?_⟩
  obtain ⟨n, s, hs, rfl⟩ := refL_mem ht
  have hm := List.mem_of_getElem? hs
  have hg := h.sim.good.2 s hm
  exact ⟨h.ok s hm, hg.v0, hg.v1⟩
/-- One call keeps both alike. -/
theorem call_step {N : Nat} {data : List Int} {S : List MapS} {K R : List Reg} (h : HSim N data S K R) (hN : N ≤ 1000) (hD : DL K) (hdl : data.length ≤ 600) (w r1 r2 r3 : Int) (f x : Int) (S' : List MapS) (K' : List Reg) (hg : callG S K w r1 r2 r3 = ⟨f, x, S', K'⟩) :
    ∃ R', rcallG (refL S) R w r1 r2 r3 = ⟨f, x, refL S', R'⟩ ∧ HSim (N + 1) data S' K' R' ∧ S'.length = S.length := by
  unfold callG at hg
  unfold rcallG
  rw [refL_len]
  by_cases hi : (indexF S.length r1).2 = true
  · rw [if_pos hi] at hg
    rw [if_pos hi]
    obtain ⟨i, hx⟩ : ∃ i, (indexF S.length r1).1 = i := ⟨_, rfl⟩
    rw [hx] at hg
    rw [hx, ref_def, ← bytesF_perm hD h.sim.perm]
    have hdf := defF_ok h.sim.good h.keysOk i
    cases hk : bytesF K r2 (defF S i).f1 with
    | none => rw [hk] at hg; cases hg; exact ⟨R, rfl, h.succ, rfl⟩
    | some key =>
      rw [hk] at hg
      dsimp only at hg ⊢
      obtain ⟨kb, kl⟩ := bytes_wf hD hk (by omega)
      by_cases h2 : w = 2
      · rw [if_pos h2] at hg
        rw [if_pos h2, ← bytesF_perm hD h.sim.perm]
        cases hv : bytesF K r3 (defF S i).f2 with
        | none => rw [hv] at hg; cases hg; exact ⟨R, rfl, h.succ, rfl⟩
        | some value =>
          rw [hv] at hg
          dsimp only at hg ⊢
          cases hg
          refine ⟨_, by rw [ref_updR, ref_updS], ⟨h.sim.upd (by omega) i key value kl, updS_keyP (P := fun k => k ≤ 64) h.ok i key value, updK_mem h.sim.good hN h.mem (by show (4294967296 : Int) + data.length ≤ _; omega) i key value⟩, upd_len _ _ _ _⟩
      · rw [if_neg h2] at hg
        rw [if_neg h2]
        by_cases h1 : w = 1
        · rw [if_pos h1] at hg
          rw [if_pos h1, ref_look h.sim.keys]
          cases hg
          exact ⟨R, rfl, h.succ, rfl⟩
        · rw [if_neg h1] at hg
          rw [if_neg h1]
          cases hg
          refine ⟨_, by rw [ref_delR, ref_delS (fun s hs => (h.sim.good.2 s hs).nd)], ⟨h.sim.del i key, delS_keyP (P := fun k => k ≤ 64) h.ok i key, delK_mem h.sim.good hN h.mem (by show (4294967296 : Int) < _; omega) i key⟩, del_len _ _ _⟩
  · rw [if_neg hi] at hg
    rw [if_neg hi]
    cases hg
    exact ⟨R, rfl, h.succ, rfl⟩
theorem HSim.bytes {N : Nat} {data : List Int} {S : List MapS} {K R : List Reg} (h : HSim N data S K R) (hD : DL K) (h1 : 0 < data.length) : bytesF K 4294967296 data.length = some data := by
  refine (bytesF_iff hD).2 ⟨_, h.mem, hit_iff.2 ⟨by omega, Int.le_refl _, Int.le_refl _⟩, ?_⟩
  show data = (data.drop ((4294967296 : Int) - 4294967296).toNat).take ((data.length : Int)).toNat
  rw [Int.sub_self, Int.toNat_natCast]
  simp
theorem hsim_new (ds : List S28) (data : List Int) (hl : ds.length ≤ 255) (hb : ds.all sizesB = true) : HSim 1 data (ds.map newS) [⟨4294967296, data⟩] [⟨4294967296, data⟩] := by
  have h := (sim_new ds hl hb).succ
  refine ⟨⟨h.good, h.keys, h.key1, List.Perm.refl _, Nat.le_refl _⟩, fun s hs => ?_, List.mem_singleton.2 rfl⟩
  obtain ⟨d, hd, rfl⟩ := List.mem_map.1 hs
  exact ((sizes_iff d).1 (List.all_eq_true.1 hb d hd)).1.2
theorem call_same {S S' : List MapS} {K K' R R' : List Reg} {w r1 r2 r3 f x : Int} (hg : callG S K w r1 r2 r3 = ⟨f, x, S', K'⟩) (hr : rcallG (refL S) R w r1 r2 r3 = ⟨f, x, refL S', R'⟩) (hf : f ≠ 0) : S' = S ∧ K' = K ∧ R' = R := by
  have h1 : S' = S ∧ K' = K := by
    unfold callG at hg
    split at hg
    · split at hg
      · cases hg; exact ⟨rfl, rfl⟩
      · split at hg
        · split at hg
          · cases hg; exact ⟨rfl, rfl⟩
          · cases hg; exact absurd rfl hf
        · split at hg
          · cases hg; exact absurd rfl hf
          · cases hg; exact absurd rfl hf
    · cases hg; exact ⟨rfl, rfl⟩
  refine ⟨h1.1, h1.2, ?_⟩
  unfold rcallG at hr
  split at hr
  · split at hr
    · exact (congrArg CallR.K hr).symm
    · split at hr
      · split at hr
        · exact (congrArg CallR.K hr).symm
        · exact absurd (congrArg CallR.fault hr).symm hf
      · split at hr
        · exact absurd (congrArg CallR.fault hr).symm hf
        · exact absurd (congrArg CallR.fault hr).symm hf
  · exact (congrArg CallR.K hr).symm
set_option maxHeartbeats 1000000 in
set_option maxRecDepth 100000 in
/-- A call on both answers alike. -/
theorem call_both {N : Nat} {data : List Int} {S : List MapS} {K R : List Reg} (h : HSim N data S K R) (hN : N ≤ 1000) (hD : DL K) (hdl : data.length ≤ 600) (which r0 r1 r2 r3 r4 r5 r6 r7 r8 r9 r10 : Int) (h10 : 0 ≤ r1) (h11 : r1 < 18446744073709551616) (h20 : 0 ≤ r2) (h21 : r2 < 18446744073709551616) (h30 : 0 ≤ r3) (h31 : r3 < 18446744073709551616) (hw : which = 1 ∨ which = 2 ∨ which = 3) :
    ∃ (f y0 y1 y2 y3 y4 y5 y6 y7 y8 y9 y10 : Int) (S' : List MapS) (K' R' : List Reg), HSim (N + 1) data S' K' R' ∧ S'.length = S.length ∧
      (∀ (X : World) (fr : Nat → Prop) (t m b mb : Nat), Both X fr t m b mb S K (refL S) R → Calls Tryd.prog 11 #[.pointer (some ⟨t, 0, none⟩), .pointer (some ⟨m, 0, none⟩), .int .i64 which, .agg #[.int .u64 r0, .int .u64 r1, .int .u64 r2, .int .u64 r3, .int .u64 r4, .int .u64 r5, .int .u64 r6, .int .u64 r7, .int .u64 r8, .int .u64 r9, .int .u64 r10]] X fun e X' => e = .returned (.tuple #[.agg #[.int .u64 y0, .int .u64 y1, .int .u64 y2, .int .u64 y3, .int .u64 y4, .int .u64 y5, .int .u64 y6, .int .u64 y7, .int .u64 y8, .int .u64 y9, .int .u64 y10], .int .i64 f]) ∧ Both X' fr t m b mb S' K' (refL S) R ∧ Kept fr X X') ∧
      (∀ (X : World) (fr : Nat → Prop) (t m b mb : Nat), Both X fr t m b mb S' K' (refL S) R → Calls Tryd.prog 19 #[.pointer (some ⟨b, 0, none⟩), .int .i64 which, .agg #[.int .u64 r0, .int .u64 r1, .int .u64 r2, .int .u64 r3, .int .u64 r4, .int .u64 r5, .int .u64 r6, .int .u64 r7, .int .u64 r8, .int .u64 r9, .int .u64 r10]] X fun e X' => e = .returned (.tuple #[.agg #[.int .u64 y0, .int .u64 y1, .int .u64 y2, .int .u64 y3, .int .u64 y4, .int .u64 y5, .int .u64 y6, .int .u64 y7, .int .u64 y8, .int .u64 y9, .int .u64 y10], .int .i64 f]) ∧ Both X' fr t m b mb S' K' (refL S') R' ∧ Kept fr X X') := by
  obtain ⟨⟨f, x, S', K'⟩, hg⟩ : ∃ g, callG S K which r1 r2 r3 = g := ⟨_, rfl⟩
  obtain ⟨R', hr, hs', hl⟩ := call_step h hN hD hdl which r1 r2 r3 f x S' K' hg
  have hKl : K.length ≤ 99999 := Nat.le_trans h.sim.len (by omega)
  have hrhg := h.rhg hN hD
  by_cases hf : f = 0
  · subst hf
    refine ⟨0, x, 0, 0, 0, 0, 0, r6, r7, r8, r9, r10, S', K', R', hs', hl, fun X fr t m b mb hB => ?_, fun X fr t m b mb hB => ?_⟩
    · exact frameC (R' := MRes t m S' K') hB fun fr' hf' hh => (call_ok X 0 N fr' t m S K which r0 r1 r2 r3 r4 r5 r6 r7 r8 r9 r10 ⟨Nat.zero_le _, h.sim.good, fun k hk => absurd hk (Nat.not_lt_zero k), mres_iff.1 hh⟩ (by omega) hKl h.keysOk h10 h11 h20 h21 h30 h31 hw x S' K' hg).mono fun e X' ⟨he, hm, hk⟩ => ⟨he, mres_iff.2 hm.2.2.2, hk⟩
    · exact (frameC (R' := RRes b mb (refL S') R') (Has.swap hB) fun fr' hf' hh => (rcall_ok X fr' b mb (refL S) R which r0 r1 r2 r3 r4 r5 r6 r7 r8 r9 r10 (rres_iff.1 hh) hrhg h10 h11 h20 h21 h30 h31 hw x (refL S') R' hr).mono fun e X' ⟨he, hm, hk⟩ => ⟨he, rres_iff.2 hm, hk⟩).mono fun e X' ⟨he, hm, hk⟩ => ⟨he, hm.swap, hk⟩
  · have hff : (callG S K which r1 r2 r3).fault = f := by rw [hg]
    have hrf : (rcallG (refL S) R which r1 r2 r3).fault = f := by rw [hr]
    obtain ⟨rfl, rfl, rfl⟩ : S' = S ∧ K' = K ∧ R' = R := call_same hg hr hf
    refine ⟨f, r0, r1, r2, r3, r4, r5, r6, r7, r8, r9, r10, S', K', R', hs', hl, fun X fr t m b mb hB => ?_, fun X fr t m b mb hB => ?_⟩
    · exact (call_fault X 0 N fr t m S' K' which r0 r1 r2 r3 r4 r5 r6 r7 r8 r9 r10 ⟨Nat.zero_le _, h.sim.good, fun k hk => absurd hk (Nat.not_lt_zero k), hB.mm⟩ hKl h.keysOk h10 h11 h20 h21 h30 h31 hw f hff hf).mono fun e X' ⟨he, hb⟩ => ⟨he, hB.below hb, below_kept hb fr⟩
    · exact (rcall_fault X fr b mb (refL S') R' which r0 r1 r2 r3 r4 r5 r6 r7 r8 r9 r10 hB.rmm hrhg h10 h11 h20 h21 h30 h31 hw f hrf hf).mono fun e X' ⟨he, hb⟩ => ⟨he, hB.below hb, below_kept hb fr⟩
end Go.Proofs.YtomnfkihieinbaaDoor.PAll
