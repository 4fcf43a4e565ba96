/- The texts RMapW2, RMapW3, RMapW4, RMapW5, RMapW6, RMapW7 of this claim, joined. -/
import Derived.Test.YtomnfkihieinbaaDoorGRMapA
import Derived.Laws.OwnMore
import Derived.Deep.RegionHeld3
/- maps: the reference's maps: one of them taken out; right, find, Lookup. -/
set_option linter.unusedVariables false
set_option linter.unusedSimpArgs false
namespace Go.Proofs.YtomnfkihieinbaaDoor.PAll
open Go.RowKit Go.Shelf Go.Maps Go.Proofs.YtomnfkihieinbaaDoorW.PrintWords Go.Proofs.YtomnfkihieinbaaDoorW.PrintLast Go.Proofs.YtomnfkihieinbaaDoorW.PrintMore
theorem lrs_len : ∀ (lvs : List Value) (qss : List (List (Nat × Nat))) (S : List MapS) (X : World) (own : Nat → Prop), (LRs lvs qss S).at_ X own → lvs.length = S.length ∧ qss.length = S.length
  | [], [], [], _, _, _ => ⟨rfl, rfl⟩
  | _ :: lvs, _ :: qss, _ :: S, X, own, h => by
    obtain ⟨o1, o2, h1, h2, h3, h4⟩ := h
    obtain ⟨e1, e2⟩ := lrs_len lvs qss S X o2 h4
    exact ⟨by simp [e1], by simp [e2]⟩
  | [], [], _ :: _, _, _, h => h.elim
  | [], _ :: _, [], _, _, h => h.elim
  | [], _ :: _, _ :: _, _, _, h => h.elim
  | _ :: _, [], [], _, _, h => h.elim
  | _ :: _, [], _ :: _, _, _, h => h.elim
  | _ :: _, _ :: _, [], _, _, h => h.elim
theorem res_swap3 {R F G : Res} {X : World} {own : Nat → Prop} (h : (R.and (F.and G)).at_ X own) : (F.and (R.and G)).at_ X own := by
  obtain ⟨o1, o23, h1, h2, h3, o2, o3, g1, g2, g3, g4⟩ := h
  refine ⟨o2, fun k => o1 k ∨ o3 k, fun k => ?_, ?_, g3, o1, o3, fun k => Iff.rfl, fun k hk hk' => h2 k hk ((g1 k).2 (.inr hk')), h3, g4⟩
  · rw [h1, g1]
    constructor
    · rintro (h | h | h); exact .inr (.inl h); exact .inl h; exact .inr (.inr h)
    · rintro (h | h | h); exact .inr (.inl h); exact .inl h; exact .inr (.inr h)
  · rintro k hk (h | h)
    · exact h2 k h ((g1 k).2 (.inl hk))
    · exact g2 k hk h
/-- One list of entries is taken out; another may be put in its place. -/
theorem lrs_split : ∀ (lvs : List Value) (qss : List (List (Nat × Nat))) (S : List MapS) (i : Nat) (lv : Value) (qs : List (Nat × Nat)) (s : MapS), lvs[i]? = some lv → qss[i]? = some qs → S[i]? = some s →
    ∃ F : Res, (∀ X own, (LRs lvs qss S).at_ X own → ((LR lv qs s.ents).and F).at_ X own) ∧ (∀ lv' qs' s' X own, ((LR lv' qs' s'.ents).and F).at_ X own → (LRs (lvs.set i lv') (qss.set i qs') (S.set i s')).at_ X own)
  | [], _, _, i, _, _, _, h, _, _ => by simp at h
  | _ :: _, [], _, i, _, _, _, _, h, _ => by simp at h
  | _ :: _, _ :: _, [], i, _, _, _, _, _, h => by simp at h
  | l :: lvs, q :: qss, t :: S, 0, lv, qs, s, hl, hq, hs => by
    simp at hl hq hs
    subst hl; subst hq; subst hs
    exact ⟨LRs lvs qss S, fun X own h => h, fun lv' qs' s' X own h => h⟩
  | l :: lvs, q :: qss, t :: S, i + 1, lv, qs, s, hl, hq, hs => by
    obtain ⟨F, hF1, hF2⟩ := lrs_split lvs qss S i lv qs s (by simpa using hl) (by simpa using hq) (by simpa using hs)
    refine ⟨(LR l q t.ents).and F, fun X own h => ?_, fun lv' qs' s' X own h => ?_⟩
    · obtain ⟨o1, o2, h1, h2, h3, h4⟩ := h
      exact res_swap3 ⟨o1, o2, h1, h2, h3, hF1 X o2 h4⟩
    · obtain ⟨o1, o2, h1, h2, h3, h4⟩ := res_swap3 h
      exact ⟨o1, o2, h1, h2, h3, hF2 lv' qs' s' X o2 h4⟩
/-- What is read of a map with an index. -/
structure RAt (X : World) (b : Nat) (n : Nat) (S : List MapS) (s : MapS) (g c : Nat) (A : Option Addr) (lc : Nat) : Prop where
  c1 : X.cell? ⟨b, 1, none⟩ = some (.slice (some ⟨g, 0, none⟩) S.length c)
  key : X.cell? ⟨g, n * 6 + 1, none⟩ = some (.int .i64 s.key)
  value : X.cell? ⟨g, n * 6 + 2, none⟩ = some (.int .i64 s.value)
  entries : X.cell? ⟨g, n * 6 + 3, none⟩ = some (.int .i64 s.entries)
  list : X.cell? ⟨g, n * 6 + 4, none⟩ = some (.slice A s.ents.length lc)
  next : X.cell? ⟨g, n * 6 + 5, none⟩ = some (.int .u64 s.next)
  ent : ∀ (j : Nat) (e : List Int × Int), s.ents[j]? = some e → ∃ (g2 : Nat) (q : Nat × Nat), A = some ⟨g2, 0, none⟩ ∧ X.cell? ⟨g2, j * 2, none⟩ = some (.slice (some ⟨q.1, 0, none⟩) e.1.length q.2) ∧ X.cell? ⟨g2, j * 2 + 1, none⟩ = some (.int .u64 e.2) ∧ Kd.C (Kd.int .u8) X (some ⟨q.1, 0, none⟩) e.1.length e.1 ∧ e.1.length ≤ q.2
theorem own_some {w : World} {base e size n cap : Nat} {A : Option Addr} {xs : List Value} (h : w.ownsRow base e size (.slice A n cap) n xs) (hn : 0 < n) : ∃ g, A = some ⟨g, 0, none⟩ := by
  rcases h.2 with ⟨h', h0⟩ | ⟨g', cap', cur, h', _⟩
  · omega
  · cases h'; exact ⟨g', rfl⟩
theorem rp_at {X : World} {own : Nat → Prop} {b mb : Nat} {v : Value} {lvs : List Value} {qss : List (List (Nat × Nat))} {S : List MapS} (h : (RP b mb v lvs qss S).at_ X own) {n : Nat} {s : MapS} (hs : S[n]? = some s) : ∃ g c A lc, RAt X b n S s g c A lc := by
  obtain ⟨o1, o2, h1, h2, ⟨f1, f2, f3, f4⟩, h4⟩ := h
  obtain ⟨e1, e2⟩ := lrs_len _ _ _ _ _ h4
  have hn : n < S.length := (List.getElem?_eq_some_iff.1 hs).1
  obtain ⟨lv, hlv⟩ : ∃ lv, lvs[n]? = some lv := ⟨_, List.getElem?_eq_getElem (by omega)⟩
  obtain ⟨qs, hqs⟩ : ∃ qs, qss[n]? = some qs := ⟨_, List.getElem?_eq_getElem (by omega)⟩
  obtain ⟨F, hF, _⟩ := lrs_split lvs qss S n lv qs s hlv hqs hs
  obtain ⟨o3, o4, g1, g2, ⟨k1, k2, k3, k4, k5, k6⟩, g4⟩ := hF X o2 h4
  obtain ⟨A0, c, rfl⟩ := own_slice f4
  obtain ⟨g, rfl⟩ := own_some f4 (by omega)
  obtain ⟨A, lc, rfl⟩ := own_slice k5
  have hc : ∀ j, j < 6 → X.cell? ⟨g, n * 6 + j, none⟩ = (rcell s (.slice A s.ents.length lc))[j]? := fun j hj => by
    rw [f4.cellAt _ (by omega)]
    exact rcells_at S lvs n s _ hs hlv j hj
  refine ⟨g, c, A, lc, (blk2 f3).2.1, hc 1 (by decide), hc 2 (by decide), hc 3 (by decide), hc 4 (by decide), hc 5 (by decide), fun j e he => ?_⟩
  have hj : j < s.ents.length := (List.getElem?_eq_some_iff.1 he).1
  obtain ⟨q, hq⟩ : ∃ q, qs[j]? = some q := ⟨_, List.getElem?_eq_getElem (by omega)⟩
  obtain ⟨gA, rfl⟩ := own_some k5 (by omega)
  obtain ⟨c0, c1⟩ := lcells_at s.ents qs j e q he hq
  obtain ⟨A', c', hv, hcap, _, hC⟩ := row_C (k6 j q e hq he)
  cases hv
  exact ⟨gA, q, rfl, by rw [k5.cellAt _ (by omega)]; exact c0, by rw [k5.cellAt _ (by omega)]; exact c1, hC, hcap⟩
theorem RAt.drew {X : World} {b n : Nat} {S : List MapS} {s : MapS} {g c : Nat} {A : Option Addr} {lc : Nat} (h : RAt X b n S s g c A lc) (k : Nat) : RAt (X.drewN k) b n S s g c A lc :=
  ⟨h.c1, h.key, h.value, h.entries, h.list, h.next, fun j e he => by
    obtain ⟨g2, q, e1, e2, e3, e4, e5⟩ := h.ent j e he
    exact ⟨g2, q, e1, e2, e3, Kd.C_below e4 (pw_below_drewN (Below.refl _ _) _), e5⟩⟩
/-- Whether there is a map for a key. -/
def rightB (S : List MapS) (i : Int) (key : List Int) : Bool := match getP S i with
  | none => false
  | some s => decide ((key.length : Int) = s.key)
set_option maxHeartbeats 1000000 in
set_option maxRecDepth 100000 in
theorem right_c (X : World) (own : Nat → Prop) (b mb : Nat) (v : Value) (lvs : List Value) (qss : List (List (Nat × Nat))) (S : List MapS) (i : Int) (A0 : Option Addr) (c0 : Nat) (key : List Int) (h : (RP b mb v lvs qss S).at_ X own) (hl : S.length ≤ 255) (hk : key.length ≤ 65536) :
    Calls Tryd.prog 60 #[.pointer (some ⟨b, 0, none⟩), .int .i64 i, .slice A0 key.length c0] X fun e X' => e = .returned (.bool (rightB S i key)) ∧ X = X' := by
  unfold rightB getP
  by_cases hi : 0 ≤ i
  · obtain ⟨n, rfl⟩ : ∃ n : Nat, i = n := ⟨i.toNat, by omega⟩
    rw [if_pos hi, Int.toNat_natCast]
    have hge : decide ((n : Int) ≥ 0) = true := decide_eq_true hi
    by_cases hn : n < S.length
    · have e1 : S[n]? = some S[n] := List.getElem?_eq_getElem hn
      obtain ⟨s, hs⟩ : ∃ s, S[n]? = some s := ⟨_, e1⟩
      obtain ⟨g, c, A, lc, hR⟩ := rp_at h hs
      rw [hs]
      show Calls _ _ _ _ (fun e X' => e = .returned (.bool (decide ((key.length : Int) = s.key))) ∧ X = X')
      obtain ⟨c1, ck⟩ := And.intro hR.c1 hR.key
      have hn0 : (0 : Int) ≤ (n : Int) := by omega
      have hn1 : (n : Int) < (S.length : Int) := by omega
      have hlt : decide ((n : Int) < (S.length : Int)) = true := decide_eq_true hn1
      clear h hR hs e1 hl
      by_cases hke : (key.length : Int) = s.key
      · have hb : ((key.length : Int) == s.key) = true := by rw [hke]; simp
        have hd : decide ((key.length : Int) = s.key) = true := decide_eq_true hke
        rw [hd]
        obtain ⟨z, hz⟩ : ∃ z, s.key = z := ⟨_, rfl⟩
        rw [hz] at ck hb hd
        clear hke hz
        go_enter Tryd.func60, Tryd.ntmps60
        go_wp2
        go_ret
        exact ⟨rfl, rfl⟩
      · have hb : ((key.length : Int) == s.key) = false := by simpa using hke
        have hd : decide ((key.length : Int) = s.key) = false := decide_eq_false hke
        rw [hd]
        obtain ⟨z, hz⟩ : ∃ z, s.key = z := ⟨_, rfl⟩
        rw [hz] at ck hb hd
        clear hke hz
        go_enter Tryd.func60, Tryd.ntmps60
        go_wp2
        go_ret
        exact ⟨rfl, rfl⟩
    · rw [List.getElem?_eq_none (by omega)]
      obtain ⟨A, c, rfl, _, c1, _, _⟩ := rp_head h
      have hlt : decide ((n : Int) < (S.length : Int)) = false := decide_eq_false (by omega)
      clear h hl
      go_enter Tryd.func60, Tryd.ntmps60
      go_wp2
      go_ret
      exact ⟨rfl, rfl⟩
  · rw [if_neg hi]
    have hge : decide (i ≥ 0) = false := decide_eq_false hi
    have hge' : decide (0 ≤ i) = false := decide_eq_false hi
    clear h
    go_enter Tryd.func60, Tryd.ntmps60
    go_wp2
    go_ret
    exact ⟨rfl, rfl⟩
/-- Where a key stands. -/
def findE (ents : List (List Int × Int)) (key : List Int) : Option Nat := ents.findIdx? (fun e => decide (e.1 = key))
def findV (ents : List (List Int × Int)) (key : List Int) : Int := match findE ents key with
  | none => -1
  | some j => j
theorem findE_none {ents : List (List Int × Int)} {key : List Int} (h : ∀ (j : Nat) e, ents[j]? = some e → e.1 ≠ key) : findE ents key = none := by
  unfold findE
  rw [List.findIdx?_eq_none_iff]
  intro e he
  obtain ⟨j, hj⟩ := List.mem_iff_getElem?.1 he
  simpa using h j e hj
theorem findE_some {ents : List (List Int × Int)} {key : List Int} {j : Nat} {e : List Int × Int} (he : ents[j]? = some e) (hk : e.1 = key) (hb : ∀ (j' : Nat) e', j' < j → ents[j']? = some e' → e'.1 ≠ key) : findE ents key = some j := by
  unfold findE
  obtain ⟨hlt, he2⟩ := List.getElem?_eq_some_iff.1 he
  rw [List.findIdx?_eq_some_iff_getElem]
  refine ⟨hlt, by simpa [he2] using hk, fun j' hj' => ?_⟩
  have := hb j' _ hj' (List.getElem?_eq_getElem (by omega))
  simpa using this
set_option maxHeartbeats 2000000 in
set_option maxRecDepth 100000 in
theorem find_c (X : World) (own : Nat → Prop) (b mb : Nat) (v : Value) (lvs : List Value) (qss : List (List (Nat × Nat))) (S : List MapS) (n : Nat) (s : MapS) (A0 : Option Addr) (c0 : Nat) (key : List Int) (h : (RP b mb v lvs qss S).at_ X own) (hs : S[n]? = some s) (hl : S.length ≤ 255) (hel : s.ents.length ≤ 100000) (hsh : ∀ e ∈ s.ents, e.1.length ≤ 65536) (hk : Kd.C (Kd.int .u8) X A0 key.length key) (hkc : key.length ≤ c0) :
    Calls Tryd.prog 61 #[.pointer (some ⟨b, 0, none⟩), .int .i64 n, .slice A0 key.length c0] X fun e X' => e = .returned (.int .i64 (findV s.ents key)) ∧ ∃ k, X' = X.drewN k := by
  obtain ⟨g, c, A, lc, hR⟩ := rp_at h hs
  have HR := Aside0.mk hR
  have HEL := Aside0.mk hel
  have HSH := Aside0.mk hsh
  have HK := Aside0.mk hk
  have hn1 : (n : Int) < (S.length : Int) := by have := (List.getElem?_eq_some_iff.1 hs).1; omega
  have hn0 : (0 : Int) ≤ (n : Int) := by omega
  obtain ⟨el, hell⟩ : ∃ el, s.ents.length = el := ⟨_, rfl⟩
  have HELL := Aside0.mk hell
  have hlist := hR.list
  have hc1 := hR.c1
  rw [hell] at hlist
  clear h hR hs hl hel hsh hk hell
  go_enter Tryd.func61, Tryd.ntmps61
  go_wp2_with fail
  go_loopw [7] (fun v7 w => ∃ (j kd : Nat), j ≤ el ∧ v7 = .int .i64 j ∧ Aside0 (w = X.drewN kd) ∧ Aside0 (∀ (j' : Nat) e', j' < j → s.ents[j']? = some e' → e'.1 ≠ key)) (fun v7 _ => el - (intOf v7).toNat)
  case atStart => exact ⟨0, 0, Nat.zero_le _, rfl, ⟨rfl⟩, ⟨fun j' e' hj => absurd hj (Nat.not_lt_zero _)⟩⟩
  case round =>
    obtain ⟨j, kd, hj, rfl, HW, HB⟩ := hrel
    obtain rfl := HW.out
    have hc1' : (X.drewN kd).cell? ⟨b, 1, none⟩ = some (.slice (some ⟨g, 0, none⟩) S.length c) := hc1
    have hlist' : (X.drewN kd).cell? ⟨g, n * 6 + 4, none⟩ = some (.slice A el lc) := hlist
    by_cases hlt : j < el
    · have hwk : wrap64 ((j : Int) + 1) = ((j + 1 : Nat) : Int) := wk hlt (by have := HELL.out; have := HEL.out; omega)
      obtain ⟨e, he⟩ : ∃ e, s.ents[j]? = some e := ⟨_, List.getElem?_eq_getElem (by have := HELL.out; omega)⟩
      obtain ⟨g2, q, rfl, d0, d1, dC, dq⟩ := HR.out.ent j e he
      have d0' : (X.drewN kd).cell? ⟨g2, j * 2, none⟩ = some (.slice (some ⟨q.1, 0, none⟩) e.1.length q.2) := d0
      have hj0 : (0 : Int) ≤ (j : Int) := by omega
      have hj1 : (j : Int) < (el : Int) := by omega
      have hd : decide ((j : Int) < (el : Int)) = true := decide_eq_true hj1
      obtain ⟨r, hr⟩ : ∃ r, decide (e.1 = key) = r := ⟨_, rfl⟩
      have HS : Aside0 (Calls Tryd.prog 23 #[.slice (some ⟨q.1, 0, none⟩) e.1.length q.2, .slice A0 key.length c0] (X.drewN kd) fun e w' => e = .returned (.bool r) ∧ ∃ k, w' = (X.drewN kd).drewN k) := ⟨same_c _ q.2 e.1 A0 c0 key _ (Kd.C_below dC (pw_below_drewN (Below.refl _ _) _)) dq (Kd.C_below HK.out (pw_below_drewN (Below.refl _ _) _)) hkc (by have := HSH.out e (List.mem_of_getElem? he); omega) r hr⟩
      have HE := Aside0.mk he
      have HRR := Aside0.mk hr
      clear d0 d1 dC dq he hr
      cases r with
      | true =>
        have HF : Aside0 (findV s.ents key = j) := ⟨by unfold findV; rw [findE_some HE.out (of_decide_eq_true HRR.out) HB.out]⟩
        go_wp2_with fail
        refine HS.out.mono ?_
        rintro e1 w1 ⟨rfl, k1, rfl⟩
        go_wp2_with fail
        go_ret
        exact ⟨by rw [HF.out]; rfl, kd + k1, by simp⟩
      | false =>
        have HB2 : Aside0 (∀ (j' : Nat) e', j' < j + 1 → s.ents[j']? = some e' → e'.1 ≠ key) := ⟨fun j' e' hj' he' => by
          rcases Nat.lt_succ_iff_lt_or_eq.1 hj' with hj' | rfl
          · exact HB.out j' e' hj' he'
          · rw [HE.out] at he'
            cases he'
            exact of_decide_eq_false HRR.out⟩
        go_wp2_with fail
        refine HS.out.mono ?_
        rintro e1 w1 ⟨rfl, k1, rfl⟩
        go_wp2_with fail
        rw [hwk]
        refine ⟨⟨j + 1, kd + k1, hlt, rfl, ⟨by simp⟩, HB2⟩, ?_⟩
        show el - (((j + 1 : Nat) : Int)).toNat < el - ((j : Nat) : Int).toNat
        rw [Int.toNat_natCast, Int.toNat_natCast]
        exact Nat.sub_lt_sub_left hlt (Nat.lt_succ_self j)
    · obtain rfl : j = el := Nat.le_antisymm hj (Nat.le_of_not_lt hlt)
      have hd : decide ((j : Int) < (j : Int)) = false := decide_eq_false (by omega)
      have HF : Aside0 (findV s.ents key = -1) := ⟨by
        unfold findV
        rw [findE_none (fun j' e' he' => HB.out j' e' (by have := (List.getElem?_eq_some_iff.1 he').1; have := HELL.out; omega) he')]⟩
      go_wp2_with fail
      go_ret
      exact ⟨by rw [HF.out]; rfl, kd, rfl⟩
end Go.Proofs.YtomnfkihieinbaaDoor.PAll
/- maps: the reference's Lookup. -/
set_option linter.unusedVariables false
set_option linter.unusedSimpArgs false
namespace Go.Proofs.YtomnfkihieinbaaDoor.PAll
open Go.RowKit Go.Shelf Go.Maps Go.Proofs.YtomnfkihieinbaaDoorW.PrintWords Go.Proofs.YtomnfkihieinbaaDoorW.PrintLast Go.Proofs.YtomnfkihieinbaaDoorW.PrintMore
theorem findE_look {ents : List (List Int × Int)} {key : List Int} : (findE ents key = none ∧ lookE ents key = none) ∨ ∃ j e, findE ents key = some j ∧ ents[j]? = some e ∧ e.1 = key ∧ lookE ents key = some e.2 := by
  unfold lookE
  cases hf : findE ents key with
  | none =>
    left
    unfold findE at hf
    rw [List.findIdx?_eq_none_iff] at hf
    refine ⟨rfl, ?_⟩
    rw [show ents.find? (fun e => decide (e.1 = key)) = none from List.find?_eq_none.2 (fun e he => by have := hf e he; simpa using this)]
    rfl
  | some j =>
    right
    unfold findE at hf
    obtain ⟨hj, hk, hb⟩ := List.findIdx?_eq_some_iff_getElem.1 hf
    refine ⟨j, ents[j], rfl, List.getElem?_eq_getElem hj, by simpa using hk, ?_⟩
    have : ents.find? (fun e => decide (e.1 = key)) = some ents[j] := by
      rw [List.find?_eq_some_iff_getElem]
      exact ⟨hk, j, hj, rfl, fun j' hj' => by have := hb j' hj'; simpa using this⟩
    rw [this]
    rfl
/-- What the reference's maps keep. -/
def RGood (S : List MapS) : Prop := S.length ≤ 255 ∧ ∀ s ∈ S, s.ents.length ≤ 100000 ∧ ∀ e ∈ s.ents, e.1.length ≤ 65536
def rlookF (S : List MapS) (i : Int) (key : List Int) : Int := if rightB S i key = true then match getP S i with
  | none => 0
  | some s => (lookE s.ents key).getD 0
  else 0
theorem right_some {S : List MapS} {i : Int} {key : List Int} (h : rightB S i key = true) : ∃ (n : Nat) (s : MapS), i = n ∧ S[n]? = some s ∧ getP S i = some s ∧ (key.length : Int) = s.key := by
  unfold rightB at h
  cases hg : getP S i with
  | none => rw [hg] at h; cases h
  | some s =>
    rw [hg] at h
    have hk := of_decide_eq_true h
    unfold getP at hg
    split at hg
    · rename_i h0
      exact ⟨i.toNat, s, by omega, hg, rfl, hk⟩
    · cases hg
set_option maxHeartbeats 2000000 in
set_option maxRecDepth 100000 in
theorem rlookup_c (X : World) (own : Nat → Prop) (b mb : Nat) (v : Value) (lvs : List Value) (qss : List (List (Nat × Nat))) (S : List MapS) (i : Int) (A0 : Option Addr) (c0 : Nat) (key : List Int) (h : (RP b mb v lvs qss S).at_ X own) (hS : RGood S) (hk : Kd.C (Kd.int .u8) X A0 key.length key) (hkc : key.length ≤ c0) (hkl : key.length ≤ 65536) (r : Int) (hr : rlookF S i key = r) :
    Calls Tryd.prog 41 #[.pointer (some ⟨b, 0, none⟩), .int .i64 i, .slice A0 key.length c0] X fun e X' => e = .returned (.int .u64 r) ∧ ∃ k, X' = X.drewN k := by
  have HRT := Aside0.mk (right_c X own b mb v lvs qss S i A0 c0 key h hS.1 hkl)
  unfold rlookF at hr
  cases hb : rightB S i key with
  | false =>
    rw [hb] at HRT hr
    simp at hr
    subst hr
    clear h hS hk hkc hkl hb
    go_enter Tryd.func41, Tryd.ntmps41
    go_wp2_with fail
    refine HRT.out.mono ?_
    rintro e X' ⟨rfl, rfl⟩
    go_wp2_with fail
    go_ret
    exact ⟨rfl, 0, rfl⟩
  | true =>
    rw [hb] at HRT
    rw [hb, if_pos rfl] at hr
    obtain ⟨n, s, rfl, hs, hg, _⟩ := right_some hb
    rw [hg] at hr
    dsimp only at hr
    have hgd := hS.2 s (List.mem_of_getElem? hs)
    have HFD := Aside0.mk (find_c X own b mb v lvs qss S n s A0 c0 key h hs hS.1 hgd.1 hgd.2 hk hkc)
    obtain ⟨g, c, A, lc, hR⟩ := rp_at h hs
    have HR := Aside0.mk hR
    have hn1 : (n : Int) < (S.length : Int) := by have := (List.getElem?_eq_some_iff.1 hs).1; omega
    have hn0 : (0 : Int) ≤ (n : Int) := by omega
    have HEL := Aside0.mk hgd.1
    unfold findV at HFD
    rcases findE_look (ents := s.ents) (key := key) with ⟨e1, e2⟩ | ⟨j, e, e1, e2, e3, e4⟩
    · rw [e2] at hr
      rw [e1] at HFD
      dsimp only [Option.getD] at hr HFD
      subst hr
      clear h hS hk hkc hkl hb hs hg hR hgd e1 e2
      go_enter Tryd.func41, Tryd.ntmps41
      go_wp2_with fail
      refine HRT.out.mono ?_
      rintro e X' ⟨rfl, rfl⟩
      go_wp2_with fail
      refine HFD.out.mono ?_
      rintro e X' ⟨rfl, k1, rfl⟩
      go_wp2_with fail
      go_ret
      exact ⟨rfl, k1, rfl⟩
    · rw [e4] at hr
      rw [e1] at HFD
      dsimp only [Option.getD] at hr HFD
      subst hr
      have hjl : j < s.ents.length := (List.getElem?_eq_some_iff.1 e2).1
      have hj0 : decide ((j : Int) < 0) = false := decide_eq_false (by omega)
      have hj1 : (0 : Int) ≤ (j : Int) := by omega
      have hj2 : (j : Int) < (s.ents.length : Int) := by omega
      obtain ⟨g2, q, rfl, d0, d1, _, _⟩ := hR.ent j e e2
      have c1 := hR.c1
      have c4 := hR.list
      clear h hS hk hkc hkl hb hs hg hR hgd e1 e2 e3 e4 hjl d0
      go_enter Tryd.func41, Tryd.ntmps41
      go_wp2_with fail
      refine HRT.out.mono ?_
      rintro e9 X' ⟨rfl, rfl⟩
      go_wp2_with fail
      refine HFD.out.mono ?_
      rintro e9 X' ⟨rfl, k1, rfl⟩
      go_wp2_with fail
      go_ret
      exact ⟨rfl, k1, rfl⟩
end Go.Proofs.YtomnfkihieinbaaDoor.PAll
/- maps: one of the reference's maps turns. -/
set_option linter.unusedVariables false
set_option linter.unusedSimpArgs false
namespace Go.Proofs.YtomnfkihieinbaaDoor.PAll
open Go.RowKit Go.Shelf Go.Maps Go.Proofs.YtomnfkihieinbaaDoorW.PrintWords Go.Proofs.YtomnfkihieinbaaDoorW.PrintLast Go.Proofs.YtomnfkihieinbaaDoorW.PrintMore
theorem rcells_next : ∀ (S : List MapS) (lvs : List Value) (n : Nat) (s : MapS) (x : Int), S[n]? = some s → lvs.length = S.length → (rcells S lvs).set (n * 6 + 5) (.int .u64 x) = rcells (S.set n { s with next := x }) lvs
  | [], _, n, s, x, h, _ => by simp at h
  | _ :: _, [], n, s, x, _, h => by simp at h
  | t :: S, u :: lvs, 0, s, x, h, hl => by
    simp at h
    subst h
    simp [rcells, rcell]
  | t :: S, u :: lvs, n + 1, s, x, h, hl => by
    have ih := rcells_next S lvs n s x (by simpa using h) (by simpa using hl)
    simp only [rcells, List.set_cons_succ]
    rw [List.set_append_right _ _ (by simp [rcell]; omega), ← ih]
    congr 2
    simp [rcell]
    omega
theorem rcells_list : ∀ (S : List MapS) (lvs : List Value) (n : Nat) (s : MapS) (lv : Value) (es : List (List Int × Int)), S[n]? = some s → lvs.length = S.length → (rcells S lvs).set (n * 6 + 4) lv = rcells (S.set n { s with ents := es }) (lvs.set n lv)
  | [], _, n, s, lv, es, h, _ => by simp at h
  | _ :: _, [], n, s, lv, es, _, h => by simp at h
  | t :: S, u :: lvs, 0, s, lv, es, h, hl => by
    simp at h
    subst h
    simp [rcells, rcell]
  | t :: S, u :: lvs, n + 1, s, lv, es, h, hl => by
    have ih := rcells_list S lvs n s lv es (by simpa using h) (by simpa using hl)
    simp only [rcells, List.set_cons_succ]
    rw [List.set_append_right _ _ (by simp [rcell]; omega), ← ih]
    congr 2
    simp [rcell]
    omega
/-- The parts of the reference's maps around one of them. -/
structure RPart (X : World) (own : Nat → Prop) (b mb : Nat) (v : Value) (lvs : List Value) (qss : List (List (Nat × Nat))) (S : List MapS) (n : Nat) (s : MapS) (lv : Value) (qs : List (Nat × Nat)) : Prop where
  hlv : lvs[n]? = some lv
  hqs : qss[n]? = some qs
  ll : lvs.length = S.length
  lq : qss.length = S.length
  blk : X.heap[b]? = some (.cells #[.pointer (some ⟨mb, 0, none⟩), v] 55 (0, 0))
  row : X.ownsRow 0 106 6 v S.length (rcells S lvs)
  ents : X.ownsRow 0 122 2 lv s.ents.length (lcells s.ents qs)
  len : qs.length = s.ents.length
  nd : (qs.map (·.1)).Nodup
  nl : ∀ k, lv.ownBlock = some k → k ∉ qs.map (·.1)
  keys : ∀ (i : Nat) (q : Nat × Nat) (e : List Int × Int), qs[i]? = some q → s.ents[i]? = some e → X.ownsRow 0 5 1 (.slice (some ⟨q.1, 0, none⟩) e.1.length q.2) e.1.length (nums .u8 e.1)
  ob : own b
  ov : ∀ k, v.ownBlock = some k → own k
  ol : ∀ k, lv.ownBlock = some k → own k
  oq : ∀ q ∈ qs, own q.1
theorem rp_part {X : World} {own : Nat → Prop} {b mb : Nat} {v : Value} {lvs : List Value} {qss : List (List (Nat × Nat))} {S : List MapS} (h : (RP b mb v lvs qss S).at_ X own) {n : Nat} {s : MapS} (hs : S[n]? = some s) : ∃ lv qs, RPart X own b mb v lvs qss S n s lv qs := by
  obtain ⟨o1, o2, h1, h2, ⟨f1, f2, f3, f4⟩, h4⟩ := h
  obtain ⟨e1, e2⟩ := lrs_len _ _ _ _ _ h4
  have hn : n < S.length := (List.getElem?_eq_some_iff.1 hs).1
  obtain ⟨lv, hlv⟩ : ∃ lv, lvs[n]? = some lv := ⟨_, List.getElem?_eq_getElem (by omega)⟩
  obtain ⟨qs, hqs⟩ : ∃ qs, qss[n]? = some qs := ⟨_, List.getElem?_eq_getElem (by omega)⟩
  obtain ⟨F, hF, _⟩ := lrs_split lvs qss S n lv qs s hlv hqs hs
  obtain ⟨o3, o4, g1, g2, ⟨k1, k2, k3, k4, k5, k6⟩, g4⟩ := hF X o2 h4
  refine ⟨lv, qs, hlv, hqs, e1, e2, f3, f4, k5, k2, k3, k4, k6, (h1 b).2 (.inl ((f1 b).2 (.inl rfl))), fun k hk => (h1 k).2 (.inl ((f1 k).2 (.inr hk))), fun k hk => (h1 k).2 (.inr ((g1 k).2 (.inl ((k1 k).2 (.inl hk))))), fun q hq => (h1 _).2 (.inr ((g1 _).2 (.inl ((k1 _).2 (.inr (List.mem_map_of_mem hq))))))⟩
theorem rpart_at {X : World} {own : Nat → Prop} {b mb : Nat} {v : Value} {lvs : List Value} {qss : List (List (Nat × Nat))} {S : List MapS} {n : Nat} {s : MapS} {lv : Value} {qs : List (Nat × Nat)} (h : RPart X own b mb v lvs qss S n s lv qs) (hs : S[n]? = some s) :
    ∃ g c A lc, v = .slice (some ⟨g, 0, none⟩) S.length c ∧ lv = .slice A s.ents.length lc ∧ RAt X b n S s g c A lc ∧ (∀ (j : Nat) e q, s.ents[j]? = some e → qs[j]? = some q → ∃ g2, A = some ⟨g2, 0, none⟩ ∧ own g2 ∧ X.cell? ⟨g2, j * 2, none⟩ = some (.slice (some ⟨q.1, 0, none⟩) e.1.length q.2) ∧ X.cell? ⟨g2, j * 2 + 1, none⟩ = some (.int .u64 e.2)) ∧ (∀ o, X.frozen? ⟨g, o, none⟩ = false) ∧ own g ∧ g ≠ b := by
  have hn : n < S.length := (List.getElem?_eq_some_iff.1 hs).1
  obtain ⟨p1, p2, p3, p4, p5, p6, p7, p8, p9, p10, p11, p12, p13, p14, p15⟩ := h
  obtain ⟨A0, c, rfl⟩ := own_slice p6
  obtain ⟨g, rfl⟩ := own_some p6 (by omega)
  obtain ⟨A, lc, rfl⟩ := own_slice p7
  have hc : ∀ j, j < 6 → X.cell? ⟨g, n * 6 + j, none⟩ = (rcell s (.slice A s.ents.length lc))[j]? := fun j hj => by
    rw [p6.cellAt _ (by omega)]
    exact rcells_at S lvs n s _ hs p1 j hj
  have hE : ∀ (j : Nat) e q, s.ents[j]? = some e → qs[j]? = some q → ∃ g2, A = some ⟨g2, 0, none⟩ ∧ own g2 ∧ X.cell? ⟨g2, j * 2, none⟩ = some (.slice (some ⟨q.1, 0, none⟩) e.1.length q.2) ∧ X.cell? ⟨g2, j * 2 + 1, none⟩ = some (.int .u64 e.2) := fun j e q he hq => by
    have hj : j < s.ents.length := (List.getElem?_eq_some_iff.1 he).1
    obtain ⟨gA, rfl⟩ := own_some p7 (by omega)
    obtain ⟨c0, c1⟩ := lcells_at s.ents qs j e q he hq
    exact ⟨gA, rfl, p14 gA rfl, by rw [p7.cellAt _ (by omega)]; exact c0, by rw [p7.cellAt _ (by omega)]; exact c1⟩
  have hgb : g ≠ b := by
    rcases p6.2 with ⟨h', _⟩ | ⟨g', cap', cur', h', _, hh', _⟩
    · cases h'
    · cases h'
      exact two_blocks hh' p5 (by decide)
  refine ⟨g, c, A, lc, rfl, rfl, ⟨(blk2 p5).2.1, hc 1 (by decide), hc 2 (by decide), hc 3 (by decide), hc 4 (by decide), hc 5 (by decide), fun j e he => ?_⟩, hE, fun o => p6.frozenAt o, p13 g rfl, hgb⟩
  have hj : j < s.ents.length := (List.getElem?_eq_some_iff.1 he).1
  obtain ⟨q, hq⟩ : ∃ q, qs[j]? = some q := ⟨_, List.getElem?_eq_getElem (by omega)⟩
  obtain ⟨g2, e1, _, e3, e4⟩ := hE j e q he hq
  obtain ⟨A', c', hv, hcap, _, hC⟩ := row_C (p11 j q e hq he)
  cases hv
  exact ⟨g2, q, e1, e3, e4, hC, hcap⟩
theorem RAt.below {X X' : World} {b n : Nat} {S : List MapS} {s : MapS} {g c : Nat} {A : Option Addr} {lc : Nat} (h : RAt X b n S s g c A lc) (hb : Below X.heap.size X X') : RAt X' b n S s g c A lc :=
  ⟨pw_cell_below hb h.c1, pw_cell_below hb h.key, pw_cell_below hb h.value, pw_cell_below hb h.entries, pw_cell_below hb h.list, pw_cell_below hb h.next, fun j e he => by
    obtain ⟨g2, q, e1, e2, e3, e4, e5⟩ := h.ent j e he
    exact ⟨g2, q, e1, pw_cell_below hb e2, pw_cell_below hb e3, Kd.C_below e4 hb, e5⟩⟩
/-- One map turns: its row's cells, its list. -/
theorem rp_set {X X' : World} {own : Nat → Prop} {b mb : Nat} {v : Value} {lvs : List Value} {qss : List (List (Nat × Nat))} {S : List MapS} (h : (RP b mb v lvs qss S).at_ X own) (hown : ∀ k, own k → k < X.heap.size) {n : Nat} {s : MapS} (hs : S[n]? = some s) {lv : Value} {qs : List (Nat × Nat)} (hp : RPart X own b mb v lvs qss S n s lv qs)
    (lv' : Value) (qs' : List (Nat × Nat)) (s' : MapS)
    (hkeep : ∀ k, own k → v.ownBlock ≠ some k → lv.ownBlock ≠ some k → X'.heap[k]? = X.heap[k]?)
    (hrow : X'.ownsRow 0 106 6 v S.length (rcells (S.set n s') (lvs.set n lv')))
    (hL : X'.ownsRow 0 122 2 lv' s'.ents.length (lcells s'.ents qs')) (hlen : qs'.length = s'.ents.length) (hnd : (qs'.map (·.1)).Nodup) (hnl : ∀ k, lv'.ownBlock = some k → k ∉ qs'.map (·.1))
    (hkeys : ∀ (i : Nat) (q : Nat × Nat) (e : List Int × Int), qs'[i]? = some q → s'.ents[i]? = some e → X'.ownsRow 0 5 1 (.slice (some ⟨q.1, 0, none⟩) e.1.length q.2) e.1.length (nums .u8 e.1))
    (hlnew : ∀ k, lv'.ownBlock = some k → lv.ownBlock = some k ∨ X.heap.size ≤ k) (hqnew : ∀ q ∈ qs', q ∈ qs ∨ X.heap.size ≤ q.1)
    (hsz : X.heap.size ≤ X'.heap.size) :
    ∃ own', (RP b mb v (lvs.set n lv') (qss.set n qs') (S.set n s')).at_ X' own' ∧ ∀ k, own' k → (own k ∨ X.heap.size ≤ k) ∧ k < X'.heap.size := by
  obtain ⟨o1, o2, h1, h2, ⟨f1, f2, f3, f4⟩, h4⟩ := h
  obtain ⟨F, hF1, hF2⟩ := lrs_split lvs qss S n lv qs s hp.hlv hp.hqs hs
  obtain ⟨o3, o4, g1, g2, ⟨k1, k2, k3, k4, k5, k6⟩, g4⟩ := hF1 X o2 h4
  have h3b : ∀ k, own k → k < X.heap.size := hown
  have ho3 : ∀ k, lv'.ownBlock = some k ∨ k ∈ qs'.map (·.1) → o3 k ∨ X.heap.size ≤ k := by
    rintro k (hk | hk)
    · exact (hlnew k hk).imp (fun h => (k1 k).2 (.inl h)) id
    · obtain ⟨q, hq, rfl⟩ := List.mem_map.1 hk
      exact (hqnew q hq).imp (fun h => (k1 _).2 (.inr (List.mem_map_of_mem h))) id
  have hvb : ∃ cur, ∀ k, v.ownBlock = some k → X.heap[k]? = some (.cells cur 106 (0, 0)) := by
    rcases f4.2 with ⟨rfl, _⟩ | ⟨g', cap', cur', rfl, _, hh', _⟩
    · exact ⟨#[], fun k hk => by simp [Value.ownBlock] at hk⟩
    · exact ⟨cur', fun k hk => by
        obtain rfl : g' = k := by simpa [Value.ownBlock] using hk
        exact hh'⟩
  obtain ⟨cur, hcur⟩ := hvb
  refine ⟨fun k => o1 k ∨ ((lv'.ownBlock = some k ∨ k ∈ qs'.map (·.1)) ∨ o4 k), ?_, ?_⟩
  · refine ⟨o1, fun k => (lv'.ownBlock = some k ∨ k ∈ qs'.map (·.1)) ∨ o4 k, fun k => Iff.rfl, ?_, ⟨f1, by simp [hp.ll], ?_, by rw [List.length_set]; exact hrow⟩, hF2 lv' qs' s' X' _ ⟨fun k => lv'.ownBlock = some k ∨ k ∈ qs'.map (·.1), o4, fun k => Iff.rfl, ?_, ⟨fun k => Iff.rfl, hlen, hnd, hnl, hL, hkeys⟩, ?_⟩⟩
    · rintro k hk (h | h)
      · rcases ho3 k h with h | h
        · exact h2 k hk ((g1 k).2 (.inl h))
        · have := h3b k ((h1 k).2 (.inl hk)); omega
      · exact h2 k hk ((g1 k).2 (.inr h))
    · have hbo : own b := (h1 b).2 (.inl ((f1 b).2 (.inl rfl)))
      rw [hkeep b hbo (fun e => two_blocks (hcur b e) f3 (by decide) rfl) (fun e => h2 b ((f1 b).2 (.inl rfl)) ((g1 b).2 (.inl ((k1 b).2 (.inl e)))))]
      exact f3
    · intro k hk hk4
      rcases ho3 k hk with h | h
      · exact g2 k h hk4
      · have := h3b k ((h1 k).2 (.inr ((g1 k).2 (.inr hk4)))); omega
    · exact F.keep g4 (fun k hk hlt => hkeep k ((h1 k).2 (.inr ((g1 k).2 (.inr hk)))) (fun e => h2 k ((f1 k).2 (.inr e)) ((g1 k).2 (.inr hk))) (fun e => g2 k ((k1 k).2 (.inl e)) hk))
  · rintro k (hk | (hk | hk))
    · exact ⟨.inl ((h1 k).2 (.inl hk)), Nat.lt_of_lt_of_le (h3b k ((h1 k).2 (.inl hk))) hsz⟩
    · refine ⟨(ho3 k hk).imp (fun h => (h1 k).2 (.inr ((g1 k).2 (.inl h)))) id, ?_⟩
      rcases hk with hk | hk
      · exact own_lt hL k hk
      · obtain ⟨q, hq, rfl⟩ := List.mem_map.1 hk
        obtain ⟨i, hi⟩ := List.mem_iff_getElem?.1 hq
        have hil := (List.getElem?_eq_some_iff.1 hi).1
        exact own_lt (hkeys i q s'.ents[i] hi (List.getElem?_eq_getElem (by omega))) q.1 rfl
    · exact ⟨.inl ((h1 k).2 (.inr ((g1 k).2 (.inr hk)))), Nat.lt_of_lt_of_le (h3b k ((h1 k).2 (.inr ((g1 k).2 (.inr hk))))) hsz⟩
/-- The reference's maps and its memory. -/
def RMM (X : World) (fr : Nat → Prop) (b mb : Nat) (S : List MapS) (R : List Reg) : Prop := ∃ v lvs qss, Has X fr ((RP b mb v lvs qss S).and (RM mb R))
theorem RMM.below {X X' : World} {fr : Nat → Prop} {b mb : Nat} {S : List MapS} {R : List Reg} (h : RMM X fr b mb S R) (hb : Below X.heap.size X X') : RMM X' fr b mb S R := by
  obtain ⟨v, lvs, qss, h⟩ := h
  exact ⟨v, lvs, qss, h.below hb⟩
theorem RMM.weaken {X : World} {fr fr' : Nat → Prop} {b mb : Nat} {S : List MapS} {R : List Reg} (h : RMM X fr b mb S R) (hf : ∀ k, fr' k → fr k) : RMM X fr' b mb S R := by
  obtain ⟨v, lvs, qss, h⟩ := h
  exact ⟨v, lvs, qss, h.weaken hf⟩
theorem RMM.more {X X' : World} {fr : Nat → Prop} {b mb : Nat} {S : List MapS} {R : List Reg} (h : RMM X fr b mb S R) (hb : Below X.heap.size X X') : RMM X' (fun k => fr k ∨ (X.heap.size ≤ k ∧ k < X'.heap.size)) b mb S R := by
  obtain ⟨v, lvs, qss, h⟩ := h
  exact ⟨v, lvs, qss, h.more hb⟩
/-- The maps turn beside the memory. -/
theorem rmm_turn {X X' : World} {fr own o1 o2 own' : Nat → Prop} {b mb : Nat} {v : Value} {lvs' : List Value} {qss' : List (List (Nat × Nat))} {S' : List MapS} {R : List Reg} (h0 : ∀ k, fr k → k < X.heap.size) (h1 : ∀ k, own k → ¬ fr k ∧ k < X.heap.size) (e1 : ∀ k, own k ↔ o1 k ∨ o2 k) (e2 : ∀ k, o1 k → ¬ o2 k) (e4 : (RM mb R).at_ X o2)
    (hn : (RP b mb v lvs' qss' S').at_ X' own') (hb : ∀ k, own' k → (o1 k ∨ X.heap.size ≤ k) ∧ k < X'.heap.size) (ho : Out o1 X X') : RMM X' fr b mb S' R ∧ Kept fr X X' := by
  refine ⟨⟨v, lvs', qss', fun k hk => Nat.lt_of_lt_of_le (h0 k hk) ho.size, fun k => own' k ∨ o2 k, ?_, own', o2, fun k => Iff.rfl, ?_, hn, (RM mb R).keep e4 (fun k hk hlt => ho.block k hlt (fun h => e2 k h hk))⟩, ho.mono (fun k _ hk => (h1 k ((e1 k).2 (.inl hk))).1)⟩
  · rintro k (hk | hk)
    · obtain ⟨h | h, hlt⟩ := hb k hk
      · exact ⟨(h1 k ((e1 k).2 (.inl h))).1, hlt⟩
      · exact ⟨fun hf => by have := h0 k hf; omega, hlt⟩
    · have := h1 k ((e1 k).2 (.inr hk))
      exact ⟨this.1, Nat.lt_of_lt_of_le this.2 ho.size⟩
  · intro k hk hk2
    obtain ⟨h | h, _⟩ := hb k hk
    · exact e2 k h hk2
    · have := (h1 k ((e1 k).2 (.inr hk2))).2; omega
end Go.Proofs.YtomnfkihieinbaaDoor.PAll
/- maps: the reference's Delete. -/
set_option linter.unusedVariables false
set_option linter.unusedSimpArgs false
namespace Go.Proofs.YtomnfkihieinbaaDoor.PAll
open Go.RowKit Go.Shelf Go.Maps Go.Proofs.YtomnfkihieinbaaDoorW.PrintWords Go.Proofs.YtomnfkihieinbaaDoorW.PrintLast Go.Proofs.YtomnfkihieinbaaDoorW.PrintMore
def rdelR (S : List MapS) (i : Int) (key : List Int) : Int := if rightB S i key = true then match getP S i with
  | none => -22
  | some s => match findE s.ents key with
    | none => -2
    | some _ => 0
  else -22
def rdelS (S : List MapS) (i : Int) (key : List Int) : List MapS := if rightB S i key = true then match getP S i with
  | none => S
  | some s => match findE s.ents key with
    | none => S
    | some j => S.set i.toNat { s with ents := s.ents.eraseIdx j }
  else S
def rdelK (S : List MapS) (R : List Reg) (i : Int) (key : List Int) : List Reg := if rightB S i key = true then match getP S i with
  | none => R
  | some s => match lookE s.ents key with
    | none => R
    | some a => remR R a
  else R
def er {α : Type} (es : List α) (j k : Nat) : List α := (es.take k).eraseIdx j
theorem er_ne {α : Type} {es : List α} {j k : Nat} {e : α} (h : es[k]? = some e) (hj : k ≠ j) : er es j (k + 1) = er es j k ++ [e] := by
  unfold er
  have hk : k < es.length := (List.getElem?_eq_some_iff.1 h).1
  have hl : (es.take k).length = k := by rw [List.length_take]; omega
  rw [List.take_add_one, h]
  show (es.take k ++ [e]).eraseIdx j = _
  rcases Nat.lt_or_ge j k with h1 | h1
  · rw [List.eraseIdx_append_of_lt_length (by omega)]
  · rw [List.eraseIdx_of_length_le (by rw [List.length_append, hl]; simp; omega), List.eraseIdx_of_length_le (by omega)]
theorem er_eq {α : Type} {es : List α} {j : Nat} {e : α} (h : es[j]? = some e) : er es j (j + 1) = er es j j := by
  unfold er
  have hk : j < es.length := (List.getElem?_eq_some_iff.1 h).1
  have hl : (es.take j).length = j := by rw [List.length_take]; omega
  rw [List.take_add_one, h]
  show (es.take j ++ [e]).eraseIdx j = _
  rw [List.eraseIdx_append_of_length_le (by omega), hl, Nat.sub_self, List.eraseIdx_of_length_le (l := es.take j) (by omega)]
  simp
theorem er_all {α : Type} {es : List α} {j : Nat} : er es j es.length = es.eraseIdx j := by unfold er; rw [List.take_length]
theorem er_len {α : Type} {es : List α} {j k : Nat} : (er es j k).length ≤ k := by
  unfold er
  exact Nat.le_trans (List.length_eraseIdx_le _ _) (by rw [List.length_take]; omega)
theorem er_zip {α β : Type} {es : List α} {qs : List β} (h : qs.length = es.length) (j k : Nat) : (er qs j k).length = (er es j k).length := by
  unfold er
  rw [List.length_eraseIdx, List.length_eraseIdx, List.length_take, List.length_take, h]
theorem er_at {α β : Type} {es : List α} {qs : List β} {j i : Nat} {e : α} {q : β} (he : (es.eraseIdx j)[i]? = some e) (hq : (qs.eraseIdx j)[i]? = some q) : ∃ i' : Nat, es[i']? = some e ∧ qs[i']? = some q := by
  rw [List.getElem?_eraseIdx] at he hq
  split at he
  · rw [if_pos ‹_›] at hq; exact ⟨_, he, hq⟩
  · rw [if_neg ‹_›] at hq; exact ⟨_, he, hq⟩
theorem row_blkN {X : World} {B e size n : Nat} {v : Value} {xs : List Value} (h : X.ownsRow B e size v n xs) {g : Nat} (hg : v.ownBlock = some g) : ∃ cur, X.heap[g]? = some (.cells cur e (0, 0)) := by
  rcases h.2 with ⟨h', _⟩ | ⟨g', cap', cur', h', _, hh', _⟩
  · rw [h'] at hg; simp [Value.ownBlock] at hg
  · rw [h'] at hg
    obtain rfl : g' = g := by simpa [Value.ownBlock] using hg
    exact ⟨cur', hh'⟩
theorem frozen_keep {X X' : World} {g o : Nat} (h : X.frozen? ⟨g, o, none⟩ = false) (hk : X'.heap[g]? = X.heap[g]?) : X'.frozen? ⟨g, o, none⟩ = false := by
  unfold World.frozen? at h ⊢
  rw [hk]
  exact h
theorem infoEnt1 : (Tryd.prog.info? 122).map (fun i => (i.zero, i.size, i.bytes)) = some (some (.agg #[.slice none 0 0, .int .u64 0]), 2, 32) := by kernel_rfl
theorem lcell_one {q : Nat × Nat} {n : Nat} {x : Int} : ∀ u ∈ [Value.slice (some ⟨q.1, 0, none⟩) n q.2, .int .u64 x], u.oneCell' = true := by
  intro u hu
  simp at hu
  rcases hu with rfl | rfl <;> rfl
theorem rp_frame {X X' : World} {fr o1 : Nat → Prop} {b mb : Nat} {v : Value} {lvs : List Value} {qss : List (List (Nat × Nat))} {S : List MapS} (h : (RP b mb v lvs qss S).at_ X o1) (hk : Kept (fun k => fr k ∨ o1 k) X X') : (RP b mb v lvs qss S).at_ X' o1 := (RP b mb v lvs qss S).keep h (fun k hk' hlt => hk.block hlt (.inr hk'))
set_option maxHeartbeats 4000000 in
set_option maxRecDepth 100000 in
theorem rdel_hit (X : World) (fr : Nat → Prop) (b mb : Nat) (v : Value) (lvs : List Value) (qss : List (List (Nat × Nat))) (S : List MapS) (R : List Reg) (n : Nat) (s : MapS) (A0 : Option Addr) (c0 : Nat) (key : List Int) (h : Has X fr ((RP b mb v lvs qss S).and (RM mb R))) (hS : RGood S) (hR : R.length ≤ 99999) (hs : S[n]? = some s)
    (hk : Kd.C (Kd.int .u8) X A0 key.length key) (hkc : key.length ≤ c0) (hkl : key.length ≤ 65536) (hb : rightB S n key = true) (j : Nat) (e : List Int × Int) (hj : findE s.ents key = some j) (he : s.ents[j]? = some e) :
    Calls Tryd.prog 43 #[.pointer (some ⟨b, 0, none⟩), .int .i64 n, .slice A0 key.length c0] X fun e9 X' => e9 = .returned (.int .i64 0) ∧ Aside0 (RMM X' fr b mb (S.set n { s with ents := s.ents.eraseIdx j }) (remR R e.2) ∧ Kept fr X X') := by
  obtain ⟨o1, f1, hRP, hRM⟩ := h.swap.part
  have HRT := Aside0.mk (right_c X o1 b mb v lvs qss S n A0 c0 key hRP hS.1 hkl)
  rw [hb] at HRT
  have hgd := hS.2 s (List.mem_of_getElem? hs)
  have HFD := Aside0.mk (find_c X o1 b mb v lvs qss S n s A0 c0 key hRP hs hS.1 hgd.1 hgd.2 hk hkc)
  unfold findV at HFD
  rw [hj] at HFD
  dsimp only at HFD
  have hjl : j < s.ents.length := (List.getElem?_eq_some_iff.1 he).1
  have hj0 : decide ((j : Int) < 0) = false := decide_eq_false (by omega)
  have hj1 : (0 : Int) ≤ (j : Int) := by omega
  have hj2 : (j : Int) < (s.ents.length : Int) := by omega
  have hn1 : (n : Int) < (S.length : Int) := by have := (List.getElem?_eq_some_iff.1 hs).1; omega
  have hn0 : (0 : Int) ≤ (n : Int) := by omega
  obtain ⟨lv0, qs0, hP0⟩ := rp_part hRP hs
  obtain ⟨g, c, A, lc, rfl, rfl, hRA, hRE, hRF, hgo, hgb⟩ := rpart_at hP0 hs
  obtain ⟨q0, hq0⟩ : ∃ q0, qs0[j]? = some q0 := ⟨_, List.getElem?_eq_getElem (by have := hP0.len; omega)⟩
  obtain ⟨g2, rfl, hg2o, d0, d1⟩ := hRE j e q0 he hq0
  have HB0 : Aside0 (X.cell? ⟨b, 0, none⟩ = some (.pointer (some ⟨mb, 0, none⟩))) := ⟨(blk2 hP0.blk).1⟩
  have HC : Aside0 (∀ w, Below X.heap.size X w → (w.cell? ⟨b, 0, none⟩ = some (.pointer (some ⟨mb, 0, none⟩)) ∧ w.cell? ⟨b, 1, none⟩ = some (.slice (some ⟨g, 0, none⟩) S.length c) ∧ w.cell? ⟨g, n * 6 + 4, none⟩ = some (.slice (some ⟨g2, 0, none⟩) s.ents.length lc) ∧ w.cell? ⟨g2, j * 2 + 1, none⟩ = some (.int .u64 e.2))) := ⟨fun w hb => ⟨pw_cell_below hb HB0.out, pw_cell_below hb hRA.c1, pw_cell_below hb hRA.list, pw_cell_below hb d1⟩⟩
  have HREM : Aside0 (∀ w, Below X.heap.size X w → Calls Tryd.prog 63 #[.pointer (some ⟨mb, 0, none⟩), .int .u64 e.2] w fun e9 w' => (∃ b, e9 = .returned (.bool b)) ∧ (w'.cell? ⟨b, 0, none⟩ = some (.pointer (some ⟨mb, 0, none⟩)) ∧ w'.cell? ⟨b, 1, none⟩ = some (.slice (some ⟨g, 0, none⟩) S.length c) ∧ w'.cell? ⟨g, n * 6 + 4, none⟩ = some (.slice (some ⟨g2, 0, none⟩) s.ents.length lc) ∧ w'.cell? ⟨g2, j * 2 + 1, none⟩ = some (.int .u64 e.2)) ∧
      Aside0 (Has w' (fun k => fr k ∨ o1 k) (RM mb (remR R e.2)) ∧ Kept (fun k => fr k ∨ o1 k) X w')) := ⟨fun w hb => by
    refine (rm_rem w _ mb R e.2 (hRM.below hb) (by omega)).mono ?_
    rintro e9 w' ⟨he, hH, hKp⟩
    have hKX := (below_kept hb _).trans hKp
    exact ⟨⟨_, he⟩, ⟨hKX.cell (.inr hP0.ob) HB0.out, hKX.cell (.inr hP0.ob) hRA.c1, hKX.cell (.inr hgo) hRA.list, hKX.cell (.inr hg2o) d1⟩, ⟨hH, hKX⟩⟩⟩
  have HRP := Aside0.mk hRP
  have HO := Aside0.mk f1
  have HS := Aside0.mk hs
  have HEL : Aside0 (s.ents.length ≤ 100000) := ⟨hgd.1⟩
  have HE := Aside0.mk he
  obtain ⟨i0, hi, hz0, hz1, hz2⟩ := info_parts infoEnt1
  clear h hS hk hkc hkl hb hs hgd hj he hjl hRP hRM f1 hP0 hRA hRE hRF hgo hgb hq0 hg2o d0 d1
  go_enter Tryd.func43, Tryd.ntmps43
  go_wp2_with fail
  refine HRT.out.mono ?_
  rintro e9 X' ⟨rfl, rfl⟩
  go_wp2_with fail
  refine HFD.out.mono ?_
  rintro e9 X' ⟨rfl, k1, rfl⟩
  go_wp2_with fail
  go_region_held3 (fun w => (w.cell? ⟨b, 0, none⟩ = some (.pointer (some ⟨mb, 0, none⟩)) ∧ w.cell? ⟨b, 1, none⟩ = some (.slice (some ⟨g, 0, none⟩) S.length c) ∧ w.cell? ⟨g, n * 6 + 4, none⟩ = some (.slice (some ⟨g2, 0, none⟩) s.ents.length lc) ∧ w.cell? ⟨g2, j * 2 + 1, none⟩ = some (.int .u64 e.2))) (first | assumption | exact HC.out _ (by repeat (first | exact Below.refl _ _ | apply below_drew | apply pw_below_drewN))) (first | (go_at_call 63; refine (HREM.out _ (by repeat (first | exact Below.refl _ _ | apply below_drew | apply pw_below_drewN))).mono ?_; rintro e9 w6 ⟨⟨b6, rfl⟩, hct6, HQ⟩))
  obtain ⟨W, hW⟩ : ∃ W, w6 = W := ⟨_, rfl⟩
  have HRP6 : Aside0 ((RP b mb (.slice (some ⟨g, 0, none⟩) S.length c) lvs qss S).at_ w6 o1) := ⟨rp_frame HRP.out HQ.out.2⟩
  obtain ⟨lv, qs, hP6⟩ := rp_part HRP6.out HS.out
  obtain ⟨g', c', A', lc', hv', rfl, hRA6, hRE6, hRF6, hgo6, hgb6⟩ := rpart_at hP6 HS.out
  cases hv'
  have HP6 := Aside0.mk hP6
  have HRA6 := Aside0.mk hRA6
  have HRE6 := Aside0.mk hRE6
  have HGG := Aside0.mk (And.intro hRF6 (And.intro hgo6 hgb6))
  obtain ⟨el, hell⟩ : ∃ el, s.ents.length = el := ⟨_, rfl⟩
  have HELL := Aside0.mk hell
  have HQL : Aside0 (qs.length = s.ents.length) := ⟨hP6.len⟩
  clear hct6 hP6 hRA6 hRE6 hRF6 hgo6 hgb6 hell hW
  go_wp2_with fail
  go_loopw [8, 9] (fun v8 v9 wr => ∃ k : Nat, k ≤ el ∧ v9 = .int .i64 k ∧ Aside0 (Below w6.heap.size w6 wr) ∧ Aside0 (wr.ownsRow w6.heap.size 122 2 v8 (er s.ents j k).length (lcells (er s.ents j k) (er qs j k)))) (fun _ v9 _ => el - (intOf v9).toNat)
  case atStart => exact ⟨0, Nat.zero_le _, rfl, ⟨by repeat (first | exact Below.refl _ _ | apply below_drew | apply pw_below_drewN)⟩, ⟨World.ownsRow_nil _ _ _ _⟩⟩
  case round =>
    obtain ⟨k, hk, rfl, HB, HO8⟩ := hrel
    have hRA := HRA6.out.below HB.out
    have hc1 := hRA.c1
    have hlist := hRA.list
    rw [HELL.out] at hlist
    by_cases hlt : k < el
    · have hwk : wrap64 ((k : Int) + 1) = ((k + 1 : Nat) : Int) := wk hlt (by have := HELL.out; have := HEL.out; omega)
      obtain ⟨ek, hek⟩ : ∃ ek, s.ents[k]? = some ek := ⟨_, List.getElem?_eq_getElem (by have := HELL.out; omega)⟩
      obtain ⟨qk, hqk⟩ : ∃ qk, qs[k]? = some qk := ⟨_, List.getElem?_eq_getElem (by have := HELL.out; have := HQL.out; omega)⟩
      obtain ⟨gA, rfl, _, d0, d1⟩ := HRE6.out k ek qk hek hqk
      have d0' := pw_cell_below HB.out d0
      have d1' := pw_cell_below HB.out d1
      have hk0 : (0 : Int) ≤ (k : Int) := by omega
      have hk1 : (k : Int) < (el : Int) := by omega
      have hd : decide ((k : Int) < (el : Int)) = true := decide_eq_true hk1
      have HZL := Aside0.mk (er_len (es := s.ents) (j := j) (k := k))
      clear hRA d0 d1
      by_cases hkj : k = j
      · subst hkj
        have hnb : ((k : Int) != (k : Int)) = false := by simp
        have HZ2 : Aside0 (er s.ents k (k + 1) = er s.ents k k ∧ er qs k (k + 1) = er qs k k) := ⟨er_eq hek, er_eq hqk⟩
        clear hek hqk
        go_wp2_with fail
        rw [hwk]
        refine ⟨⟨k + 1, hlt, rfl, HB, ⟨?_⟩⟩, ?_⟩
        · rw [HZ2.out.1, HZ2.out.2]
          exact HO8.out
        · show el - (((k + 1 : Nat) : Int)).toNat < el - ((k : Nat) : Int).toNat
          rw [Int.toNat_natCast, Int.toNat_natCast]
          exact Nat.sub_lt_sub_left hlt (Nat.lt_succ_self k)
      · have hnb : ((k : Int) != (j : Int)) = true := by rw [bne_iff_ne]; omega
        have HZ2 : Aside0 (er s.ents j (k + 1) = er s.ents j k ++ [ek] ∧ er qs j (k + 1) = er qs j k ++ [qk]) := ⟨er_ne hek hkj, er_ne hqk hkj⟩
        have HALL : Aside0 (w6.heap.size ≤ (wr.alloc (.cells #[.slice (some ⟨qk.1, 0, none⟩) ek.1.length qk.2, .int .u64 ek.2] 122)).heap.size) := ⟨Nat.le_trans HB.out.size (below_alloc (Below.refl _ _) _).size⟩
        obtain ⟨zn, hzn⟩ : ∃ zn, (er s.ents j k).length = zn := ⟨_, rfl⟩
        have HZN := Aside0.mk hzn
        rw [hzn] at HO8
        have hzl : zn ≤ 100000 := by have := HZL.out; have := HELL.out; have := HEL.out; omega
        have HZZ : Aside0 ((er qs j k).length = (er s.ents j k).length) := ⟨er_zip HQL.out j k⟩
        clear hzn hek hqk
        go_wp2_with (at_builtin; refine wpList_append_own_at _ rfl _ _ 104 rfl w6.heap.size 122 i0 _ 2 32 Tryd.underlying104 hi hz0 hz1 hz2 rfl (by decide) _ zn _ rfl (HO8.out.alloc _) ⟨wr.heap.size, 0, none⟩ 1 1 [.slice (some ⟨qk.1, 0, none⟩) ek.1.length qk.2, .int .u64 ek.2] rfl rfl (World.news_of_block (heap_alloc_new _ _)) lcell_one (by unfold maxLen; omega) (by omega) HALL.out ?_; intro v' w2 hown' hgrow hnil hloc)
        have HB2 : Below w6.heap.size w6 w2 := (HB.out.alloc HB.out.size _).grown hgrow HALL.out (fun z hz => own_base HO8.out z hz)
        rw [hwk]
        refine ⟨⟨k + 1, hlt, rfl, ⟨HB2⟩, ⟨?_⟩⟩, ?_⟩
        · rw [HZ2.out.1, HZ2.out.2, List.length_append, HZN.out]
          rw [lcells_snoc _ _ _ _ HZZ.out]
          exact hown'
        · show el - (((k + 1 : Nat) : Int)).toNat < el - ((k : Nat) : Int).toNat
          rw [Int.toNat_natCast, Int.toNat_natCast]
          exact Nat.sub_lt_sub_left hlt (Nat.lt_succ_self k)
    · obtain rfl : k = el := Nat.le_antisymm hk (Nat.le_of_not_lt hlt)
      have hd : decide ((k : Int) < (k : Int)) = false := decide_eq_false (by omega)
      have hO9 := HO8.out
      rw [← HELL.out, er_all, ← HQL.out, er_all] at hO9
      obtain ⟨A5, c5, rfl⟩ := own_slice hO9
      have HO9 := Aside0.mk hO9
      have hfro : wr.frozen? ⟨g, n * 6 + 4, none⟩ = false := frozen_keep (HGG.out.1 _) (HB.out.block g (Nat.lt_of_lt_of_le (HO.out g HGG.out.2.1).2 HQ.out.2.size))
      clear hO9 hRA
      go_wp2_with fail
      have HQ9 : Aside0 (RMM (wr.setCell ⟨g, n * 6 + 4, none⟩ (.slice A5 (s.ents.eraseIdx j).length c5)) fr b mb (S.set n { s with ents := s.ents.eraseIdx j }) (remR R e.2) ∧ Kept fr X (wr.setCell ⟨g, n * 6 + 4, none⟩ (.slice A5 (s.ents.eraseIdx j).length c5))) := ⟨by
        obtain ⟨h6f, o6, h6, hRM6⟩ := HQ.out.1
        have hlen : (qs.eraseIdx j).length = (s.ents.eraseIdx j).length := by rw [List.length_eraseIdx, List.length_eraseIdx, HQL.out]
        have hg6 : g < w6.heap.size := Nat.lt_of_lt_of_le (HO.out g HGG.out.2.1).2 HQ.out.2.size
        have hset : ∀ k, k ≠ g → (wr.setCell ⟨g, n * 6 + 4, none⟩ (.slice A5 (s.ents.eraseIdx j).length c5)).heap[k]? = wr.heap[k]? := fun k hk => Below.heap_setCell wr ⟨g, n * 6 + 4, none⟩ _ k hk
        have hA5 : ∀ k, (Value.slice A5 (s.ents.eraseIdx j).length c5).ownBlock = some k → w6.heap.size ≤ k := fun k hk => own_base HO9.out k hk
        have hrow0 : wr.ownsRow 0 106 6 (.slice (some ⟨g, 0, none⟩) S.length c) S.length (rcells S lvs) := row_keep HP6.out.row (fun k hk => HB.out.block k (by cases hk; exact hg6))
        have hrow1 := (hrow0.stored (n * 6 + 4) (.slice A5 (s.ents.eraseIdx j).length c5)).1
        rw [rcells_list S lvs n s _ (s.ents.eraseIdx j) HS.out HP6.out.ll] at hrow1
        obtain ⟨own', hRP', hown'⟩ := rp_set (X' := wr.setCell ⟨g, n * 6 + 4, none⟩ (.slice A5 (s.ents.eraseIdx j).length c5)) HRP6.out (fun k hk => Nat.lt_of_lt_of_le (HO.out k hk).2 HQ.out.2.size) HS.out HP6.out (.slice A5 (s.ents.eraseIdx j).length c5) (qs.eraseIdx j) { s with ents := s.ents.eraseIdx j }
          (fun k hk h1 h2 => by
            rw [hset k (fun e => h1 (by rw [e]; rfl))]
            exact HB.out.block k (Nat.lt_of_lt_of_le (HO.out k hk).2 HQ.out.2.size))
          hrow1
          (own_weaken (row_keep HO9.out (fun k hk => hset k (by have := hA5 k hk; omega))) (Nat.zero_le _)) hlen
          (List.Nodup.sublist ((List.eraseIdx_sublist qs j).map _) HP6.out.nd)
          (fun k hk hq => by
            obtain ⟨q, hqm, rfl⟩ := List.mem_map.1 hq
            have h1 := hA5 _ hk
            have h2 := (HO.out q.1 (HP6.out.oq q (List.mem_of_mem_eraseIdx hqm))).2
            have h3 := HQ.out.2.size
            omega)
          (fun i q e hq he => by
            obtain ⟨i', he', hq'⟩ := er_at he hq
            have hr := HP6.out.keys i' q e hq' he'
            refine row_keep hr (fun k hk => ?_)
            rw [hset k (fun ek => by
              cases hk
              obtain ⟨cc, hcc⟩ := row_block hr rfl
              
              obtain ⟨cd, hcd⟩ := row_blkN HP6.out.row rfl
              exact two_blocks hcc hcd (by decide) ek)]
            exact HB.out.block k (own_lt hr k hk))
          (fun k hk => .inr (hA5 k hk)) (fun q hq => .inl (List.mem_of_mem_eraseIdx hq))
          (Nat.le_trans HB.out.size (by simp [World.setCell]))
        obtain ⟨r1, r2⟩ := rmm_turn (X := w6) (own := fun k => o1 k ∨ o6 k) (fun k hk => h6f k (.inl hk)) (by
          rintro k (hk | hk)
          · exact ⟨(HO.out k hk).1, h6f k (.inr hk)⟩
          · exact ⟨fun hf => (h6 k hk).1 (.inl hf), (h6 k hk).2⟩) (fun k => Iff.rfl) (fun k hk hk' => (h6 k hk').1 (.inr hk)) hRM6 hRP' hown' ((below_out HB.out o1).trans (set_out wr g _ _) (fun k _ hk => by rw [hk]; exact HGG.out.2.1))
        exact ⟨r1, (HQ.out.2.mono (fun k h => .inl h)).trans r2⟩⟩
      go_ret
      exact ⟨rfl, HQ9⟩
set_option maxHeartbeats 2000000 in
set_option maxRecDepth 100000 in
theorem rdel_bad (X : World) (own : Nat → Prop) (b mb : Nat) (v : Value) (lvs : List Value) (qss : List (List (Nat × Nat))) (S : List MapS) (i : Int) (A0 : Option Addr) (c0 : Nat) (key : List Int) (h : (RP b mb v lvs qss S).at_ X own) (hl : S.length ≤ 255) (hkl : key.length ≤ 65536) (hb : rightB S i key = false) :
    Calls Tryd.prog 43 #[.pointer (some ⟨b, 0, none⟩), .int .i64 i, .slice A0 key.length c0] X fun e9 X' => e9 = .returned (.int .i64 (-22)) ∧ X = X' := by
  have HRT := Aside0.mk (right_c X own b mb v lvs qss S i A0 c0 key h hl hkl)
  rw [hb] at HRT
  clear h hl hkl hb
  go_enter Tryd.func43, Tryd.ntmps43
  go_wp2_with fail
  refine HRT.out.mono ?_
  rintro e X' ⟨rfl, rfl⟩
  go_wp2_with fail
  go_ret
  exact ⟨rfl, rfl⟩
set_option maxHeartbeats 2000000 in
set_option maxRecDepth 100000 in
theorem rdel_miss (X : World) (own : Nat → Prop) (b mb : Nat) (v : Value) (lvs : List Value) (qss : List (List (Nat × Nat))) (S : List MapS) (n : Nat) (s : MapS) (A0 : Option Addr) (c0 : Nat) (key : List Int) (h : (RP b mb v lvs qss S).at_ X own) (hS : RGood S) (hs : S[n]? = some s)
    (hk : Kd.C (Kd.int .u8) X A0 key.length key) (hkc : key.length ≤ c0) (hkl : key.length ≤ 65536) (hb : rightB S n key = true) (hj : findE s.ents key = none) :
    Calls Tryd.prog 43 #[.pointer (some ⟨b, 0, none⟩), .int .i64 n, .slice A0 key.length c0] X fun e9 X' => e9 = .returned (.int .i64 (-2)) ∧ ∃ k, X' = X.drewN k := by
  have HRT := Aside0.mk (right_c X own b mb v lvs qss S n A0 c0 key h hS.1 hkl)
  rw [hb] at HRT
  have hgd := hS.2 s (List.mem_of_getElem? hs)
  have HFD := Aside0.mk (find_c X own b mb v lvs qss S n s A0 c0 key h hs hS.1 hgd.1 hgd.2 hk hkc)
  unfold findV at HFD
  rw [hj] at HFD
  dsimp only at HFD
  clear h hS hk hkc hkl hb hs hgd hj
  go_enter Tryd.func43, Tryd.ntmps43
  go_wp2_with fail
  refine HRT.out.mono ?_
  rintro e X' ⟨rfl, rfl⟩
  go_wp2_with fail
  refine HFD.out.mono ?_
  rintro e X' ⟨rfl, k1, rfl⟩
  go_wp2_with fail
  go_ret
  exact ⟨rfl, k1, rfl⟩
theorem rdelete_c (X : World) (fr : Nat → Prop) (b mb : Nat) (S : List MapS) (R : List Reg) (i : Int) (A0 : Option Addr) (c0 : Nat) (key : List Int) (h : RMM X fr b mb S R) (hS : RGood S) (hR : R.length ≤ 99999)
    (hk : Kd.C (Kd.int .u8) X A0 key.length key) (hkc : key.length ≤ c0) (hkl : key.length ≤ 65536) :
    Calls Tryd.prog 43 #[.pointer (some ⟨b, 0, none⟩), .int .i64 i, .slice A0 key.length c0] X fun e9 X' => e9 = .returned (.int .i64 (rdelR S i key)) ∧ RMM X' fr b mb (rdelS S i key) (rdelK S R i key) ∧ Kept fr X X' := by
  have hT := h
  obtain ⟨v, lvs, qss, h⟩ := h
  obtain ⟨o1, f1, hRP, hRM⟩ := h.swap.part
  unfold rdelR rdelS rdelK
  cases hb : rightB S i key with
  | false =>
    refine (rdel_bad X o1 b mb v lvs qss S i A0 c0 key hRP hS.1 hkl hb).mono ?_
    rintro e X' ⟨he, rfl⟩
    exact ⟨he, hT, Kept.refl _ _⟩
  | true =>
    obtain ⟨n, s, rfl, hs, hg, _⟩ := right_some hb
    rw [if_pos rfl, if_pos rfl, if_pos rfl, hg]
    dsimp only
    rcases findE_look (ents := s.ents) (key := key) with ⟨e1, e2⟩ | ⟨j, e, e1, e2, e3, e4⟩
    · rw [e1, e2]
      refine (rdel_miss X o1 b mb v lvs qss S n s A0 c0 key hRP hS hs hk hkc hkl hb e1).mono ?_
      rintro e X' ⟨he, k, rfl⟩
      exact ⟨he, hT.below (pw_below_drewN (Below.refl _ _) _), below_kept (pw_below_drewN (Below.refl _ _) _) _⟩
    · rw [e1, e4]
      dsimp only
      rw [Int.toNat_natCast]
      refine (rdel_hit X fr b mb v lvs qss S R n s A0 c0 key h hS hR hs hk hkc hkl hb j e e1 e2).mono ?_
      rintro e X' ⟨he, hq⟩
      exact ⟨he, hq.out.1, hq.out.2⟩
end Go.Proofs.YtomnfkihieinbaaDoor.PAll
/- maps: the reference's Update. -/
set_option linter.unusedVariables false
set_option linter.unusedSimpArgs false
namespace Go.Proofs.YtomnfkihieinbaaDoor.PAll
open Go.RowKit Go.Shelf Go.Maps Go.Proofs.YtomnfkihieinbaaDoorW.PrintWords Go.Proofs.YtomnfkihieinbaaDoorW.PrintLast Go.Proofs.YtomnfkihieinbaaDoorW.PrintMore
def rupdR (S : List MapS) (i : Int) (key value : List Int) : Int := if rightB S i key = true then match getP S i with
  | none => -22
  | some s => if (value.length : Int) = s.value then match lookE s.ents key with
    | some _ => 0
    | none => if (s.ents.length : Int) ≥ s.entries then -7 else 0
    else -22
  else -22
def rupdS (S : List MapS) (i : Int) (key value : List Int) : List MapS := if rightB S i key = true then match getP S i with
  | none => S
  | some s => if (value.length : Int) = s.value then match lookE s.ents key with
    | some _ => S
    | none => if (s.ents.length : Int) ≥ s.entries then S else S.set i.toNat { s with ents := s.ents ++ [(key, addrF i s.next)], next := IntKind.u64.wrap (s.next + 1) }
    else S
  else S
def rupdK (S : List MapS) (R : List Reg) (i : Int) (key value : List Int) : List Reg := if rightB S i key = true then match getP S i with
  | none => R
  | some s => if (value.length : Int) = s.value then match lookE s.ents key with
    | some a => putG R a value
    | none => if (s.ents.length : Int) ≥ s.entries then R else raddG R (addrF i s.next) value
    else R
  else R
set_option maxHeartbeats 2000000 in
set_option maxRecDepth 100000 in
theorem rupd_bad (X : World) (own : Nat → Prop) (b mb : Nat) (v : Value) (lvs : List Value) (qss : List (List (Nat × Nat))) (S : List MapS) (i : Int) (A0 A2 : Option Addr) (c0 vl c2 : Nat) (key : List Int) (h : (RP b mb v lvs qss S).at_ X own) (hl : S.length ≤ 255) (hkl : key.length ≤ 65536) (hb : rightB S i key = false) :
    Calls Tryd.prog 42 #[.pointer (some ⟨b, 0, none⟩), .int .i64 i, .slice A0 key.length c0, .slice A2 vl c2] X fun e9 X' => e9 = .returned (.int .i64 (-22)) ∧ X = X' := by
  have HRT := Aside0.mk (right_c X own b mb v lvs qss S i A0 c0 key h hl hkl)
  rw [hb] at HRT
  clear h hl hkl hb
  go_enter Tryd.func42, Tryd.ntmps42
  go_wp2_with fail
  refine HRT.out.mono ?_
  rintro e X' ⟨rfl, rfl⟩
  go_wp2_with fail
  go_ret
  exact ⟨rfl, rfl⟩
set_option maxHeartbeats 2000000 in
set_option maxRecDepth 100000 in
theorem rupd_len (X : World) (own : Nat → Prop) (b mb : Nat) (v : Value) (lvs : List Value) (qss : List (List (Nat × Nat))) (S : List MapS) (n : Nat) (s : MapS) (A0 A2 : Option Addr) (c0 c2 : Nat) (key value : List Int) (h : (RP b mb v lvs qss S).at_ X own) (hl : S.length ≤ 255) (hs : S[n]? = some s) (hkl : key.length ≤ 65536) (hb : rightB S n key = true) (hv : ¬ (value.length : Int) = s.value) :
    Calls Tryd.prog 42 #[.pointer (some ⟨b, 0, none⟩), .int .i64 n, .slice A0 key.length c0, .slice A2 value.length c2] X fun e9 X' => e9 = .returned (.int .i64 (-22)) ∧ X = X' := by
  have HRT := Aside0.mk (right_c X own b mb v lvs qss S n A0 c0 key h hl hkl)
  rw [hb] at HRT
  obtain ⟨g, c, A, lc, hR⟩ := rp_at h hs
  have hn1 : (n : Int) < (S.length : Int) := by have := (List.getElem?_eq_some_iff.1 hs).1; omega
  have hn0 : (0 : Int) ≤ (n : Int) := by omega
  have c1 := hR.c1
  have cv := hR.value
  have hnv : ((value.length : Int) != s.value) = true := by simpa using hv
  obtain ⟨z, hz⟩ : ∃ z, s.value = z := ⟨_, rfl⟩
  rw [hz] at cv hnv
  clear h hl hkl hb hR hs hv hz
  go_enter Tryd.func42, Tryd.ntmps42
  go_wp2_with fail
  refine HRT.out.mono ?_
  rintro e X' ⟨rfl, rfl⟩
  go_wp2_with fail
  go_ret
  exact ⟨rfl, rfl⟩
set_option maxHeartbeats 2000000 in
set_option maxRecDepth 100000 in
theorem rupd_full (X : World) (own : Nat → Prop) (b mb : Nat) (v : Value) (lvs : List Value) (qss : List (List (Nat × Nat))) (S : List MapS) (n : Nat) (s : MapS) (A0 A2 : Option Addr) (c0 c2 : Nat) (key value : List Int) (h : (RP b mb v lvs qss S).at_ X own) (hS : RGood S) (hs : S[n]? = some s)
    (hk : Kd.C (Kd.int .u8) X A0 key.length key) (hkc : key.length ≤ c0) (hkl : key.length ≤ 65536) (hb : rightB S n key = true) (hv : (value.length : Int) = s.value) (hj : findE s.ents key = none) (hf : (s.ents.length : Int) ≥ s.entries) :
    Calls Tryd.prog 42 #[.pointer (some ⟨b, 0, none⟩), .int .i64 n, .slice A0 key.length c0, .slice A2 value.length c2] X fun e9 X' => e9 = .returned (.int .i64 (-7)) ∧ Below X.heap.size X X' := by
  have HRT := Aside0.mk (right_c X own b mb v lvs qss S n A0 c0 key h hS.1 hkl)
  rw [hb] at HRT
  have hgd := hS.2 s (List.mem_of_getElem? hs)
  have HFD := Aside0.mk (find_c X own b mb v lvs qss S n s A0 c0 key h hs hS.1 hgd.1 hgd.2 hk hkc)
  unfold findV at HFD
  rw [hj] at HFD
  dsimp only at HFD
  obtain ⟨g, c, A, lc, hR⟩ := rp_at h hs
  have hn1 : (n : Int) < (S.length : Int) := by have := (List.getElem?_eq_some_iff.1 hs).1; omega
  have hn0 : (0 : Int) ≤ (n : Int) := by omega
  have c1 := hR.c1
  have cv := hR.value
  have cl := hR.list
  have ce := hR.entries
  have hnv : ((value.length : Int) != s.value) = false := by simp [hv]
  have hge : decide ((s.ents.length : Int) ≥ s.entries) = true := decide_eq_true hf
  have hge2 : decide (s.entries ≤ (s.ents.length : Int)) = true := decide_eq_true hf
  have HC : Aside0 (∀ w, Below X.heap.size X w → w.cell? ⟨b, 1, none⟩ = some (.slice (some ⟨g, 0, none⟩) S.length c) ∧ w.cell? ⟨g, n * 6 + 4, none⟩ = some (.slice A s.ents.length lc) ∧ w.cell? ⟨g, n * 6 + 3, none⟩ = some (.int .i64 s.entries)) := ⟨fun w hb => ⟨pw_cell_below hb c1, pw_cell_below hb cl, pw_cell_below hb ce⟩⟩
  clear h hS hk hkc hkl hb hs hgd hj hR hv hf
  go_enter Tryd.func42, Tryd.ntmps42
  go_wp2_with fail
  refine HRT.out.mono ?_
  rintro e X' ⟨rfl, rfl⟩
  go_wp2_with fail
  refine HFD.out.mono ?_
  rintro e X' ⟨rfl, k1, rfl⟩
  go_wp2_with fail
  go_region_held3 (fun w => w.cell? ⟨b, 1, none⟩ = some (.slice (some ⟨g, 0, none⟩) S.length c) ∧ w.cell? ⟨g, n * 6 + 4, none⟩ = some (.slice A s.ents.length lc) ∧ w.cell? ⟨g, n * 6 + 3, none⟩ = some (.int .i64 s.entries)) (first | assumption | exact HC.out _ (by repeat (first | exact Below.refl _ _ | apply below_drew | apply pw_below_drewN))) (fail)
  go_wp2_with fail
  go_ret
  exact ⟨rfl, by repeat (first | exact Below.refl _ _ | apply below_drew | apply pw_below_drewN)⟩
end Go.Proofs.YtomnfkihieinbaaDoor.PAll
/- maps: the reference's Update of a key that is there; a new entry in the heap. -/
set_option linter.unusedVariables false
set_option linter.unusedSimpArgs false
namespace Go.Proofs.YtomnfkihieinbaaDoor.PAll
open Go.RowKit Go.Shelf Go.Maps Go.Proofs.YtomnfkihieinbaaDoorW.PrintWords Go.Proofs.YtomnfkihieinbaaDoorW.PrintLast Go.Proofs.YtomnfkihieinbaaDoorW.PrintMore
theorem rmm_join {X : World} {fr o1 : Nat → Prop} {b mb : Nat} {v : Value} {lvs : List Value} {qss : List (List (Nat × Nat))} {S : List MapS} {R : List Reg} (h : Has X (fun k => fr k ∨ o1 k) (RM mb R)) (ho : ∀ k, o1 k → ¬ fr k) (hF : (RP b mb v lvs qss S).at_ X o1) : RMM X fr b mb S R := ⟨v, lvs, qss, (Has.join h ho hF).swap⟩
set_option maxHeartbeats 2000000 in
set_option maxRecDepth 100000 in
theorem rupd_old (X : World) (fr : Nat → Prop) (b mb : Nat) (v : Value) (lvs : List Value) (qss : List (List (Nat × Nat))) (S : List MapS) (R : List Reg) (n : Nat) (s : MapS) (A0 A2 : Option Addr) (c0 c2 : Nat) (key value : List Int) (h : Has X fr ((RP b mb v lvs qss S).and (RM mb R))) (hS : RGood S) (hR : R.length ≤ 99999) (hs : S[n]? = some s)
    (hk : Kd.C (Kd.int .u8) X A0 key.length key) (hkc : key.length ≤ c0) (hkl : key.length ≤ 65536) (hb : rightB S n key = true) (hv : (value.length : Int) = s.value) (j : Nat) (e : List Int × Int) (hj : findE s.ents key = some j) (he : s.ents[j]? = some e) (ha : 0 ≤ e.2 ∧ e.2 < 18446744073709551616)
    (hvk : ∀ X', Kept fr X X' → Kd.C (Kd.int .u8) X' A2 value.length value) (hvb : IsBytes value) (hvs : value.length ≤ 65536) (hA : 0 < value.length → ∀ ad, A2 = some ad → fr ad.block) :
    Calls Tryd.prog 42 #[.pointer (some ⟨b, 0, none⟩), .int .i64 n, .slice A0 key.length c0, .slice A2 value.length c2] X fun e9 X' => e9 = .returned (.int .i64 0) ∧ Aside0 (RMM X' fr b mb S (putG R e.2 value) ∧ Kept fr X X') := by
  obtain ⟨o1, f1, hRP, hRM⟩ := h.swap.part
  have HRT := Aside0.mk (right_c X o1 b mb v lvs qss S n A0 c0 key hRP hS.1 hkl)
  rw [hb] at HRT
  have hgd := hS.2 s (List.mem_of_getElem? hs)
  have HFD := Aside0.mk (find_c X o1 b mb v lvs qss S n s A0 c0 key hRP hs hS.1 hgd.1 hgd.2 hk hkc)
  unfold findV at HFD
  rw [hj] at HFD
  dsimp only at HFD
  have hjl : j < s.ents.length := (List.getElem?_eq_some_iff.1 he).1
  have hj0 : decide ((j : Int) ≥ 0) = true := decide_eq_true (by omega)
  have hj1 : (0 : Int) ≤ (j : Int) := by omega
  have hj2 : (j : Int) < (s.ents.length : Int) := by omega
  have hn1 : (n : Int) < (S.length : Int) := by have := (List.getElem?_eq_some_iff.1 hs).1; omega
  have hn0 : (0 : Int) ≤ (n : Int) := by omega
  obtain ⟨lv0, qs0, hP0⟩ := rp_part hRP hs
  obtain ⟨g, c, A, lc, rfl, rfl, hRA, hRE, hRF, hgo, hgb⟩ := rpart_at hP0 hs
  obtain ⟨q0, hq0⟩ : ∃ q0, qs0[j]? = some q0 := ⟨_, List.getElem?_eq_getElem (by have := hP0.len; omega)⟩
  obtain ⟨g2, rfl, hg2o, d0, d1⟩ := hRE j e q0 he hq0
  have c1 := hRA.c1
  have cv := hRA.value
  have hnv : ((value.length : Int) != s.value) = false := by simp [hv]
  have HB0 : Aside0 (X.cell? ⟨b, 0, none⟩ = some (.pointer (some ⟨mb, 0, none⟩))) := ⟨(blk2 hP0.blk).1⟩
  have HC : Aside0 (∀ w, Below X.heap.size X w → (w.cell? ⟨b, 0, none⟩ = some (.pointer (some ⟨mb, 0, none⟩)) ∧ w.cell? ⟨b, 1, none⟩ = some (.slice (some ⟨g, 0, none⟩) S.length c) ∧ w.cell? ⟨g, n * 6 + 4, none⟩ = some (.slice (some ⟨g2, 0, none⟩) s.ents.length lc) ∧ w.cell? ⟨g2, j * 2 + 1, none⟩ = some (.int .u64 e.2))) := ⟨fun w hb => ⟨pw_cell_below hb HB0.out, pw_cell_below hb hRA.c1, pw_cell_below hb hRA.list, pw_cell_below hb d1⟩⟩
  have HREM : Aside0 (∀ w, Below X.heap.size X w → Calls Tryd.prog 62 #[.pointer (some ⟨mb, 0, none⟩), .int .u64 e.2, .slice A2 value.length c2] w fun e9 w' => (∃ b, e9 = .returned (.bool b)) ∧ (w'.cell? ⟨b, 0, none⟩ = some (.pointer (some ⟨mb, 0, none⟩)) ∧ w'.cell? ⟨b, 1, none⟩ = some (.slice (some ⟨g, 0, none⟩) S.length c) ∧ w'.cell? ⟨g, n * 6 + 4, none⟩ = some (.slice (some ⟨g2, 0, none⟩) s.ents.length lc) ∧ w'.cell? ⟨g2, j * 2 + 1, none⟩ = some (.int .u64 e.2)) ∧
      Aside0 (RMM w' fr b mb S (putG R e.2 value) ∧ Kept fr X w')) := ⟨fun w hb => by
    refine (rm_put w _ mb R e.2 A2 c2 value (hRM.below hb) (by omega) ha.1 ha.2 (hvk w (below_kept hb _)) (by omega) hvb (fun h0 ad e => .inl (hA h0 ad e))).mono ?_
    rintro e9 w' ⟨he, hH, hKp⟩
    have hKX := (below_kept hb _).trans hKp
    exact ⟨⟨_, he⟩, ⟨hKX.cell (.inr hP0.ob) HB0.out, hKX.cell (.inr hP0.ob) hRA.c1, hKX.cell (.inr hgo) hRA.list, hKX.cell (.inr hg2o) d1⟩, ⟨rmm_join hH (fun k hk => (f1 k hk).1) (rp_frame hRP hKX), hKX.mono (fun k h => .inl h)⟩⟩⟩
  clear h hS hk hkc hkl hb hs hgd hj he hjl hRP hRM f1 hP0 hRA hRE hRF hgo hgb hq0 hg2o d0 d1 hv ha hvk hvb hvs hA
  go_enter Tryd.func42, Tryd.ntmps42
  go_wp2_with fail
  refine HRT.out.mono ?_
  rintro e9 X' ⟨rfl, rfl⟩
  go_wp2_with fail
  refine HFD.out.mono ?_
  rintro e9 X' ⟨rfl, k1, rfl⟩
  go_wp2_with fail
  go_region_held3 (fun w => (w.cell? ⟨b, 0, none⟩ = some (.pointer (some ⟨mb, 0, none⟩)) ∧ w.cell? ⟨b, 1, none⟩ = some (.slice (some ⟨g, 0, none⟩) S.length c) ∧ w.cell? ⟨g, n * 6 + 4, none⟩ = some (.slice (some ⟨g2, 0, none⟩) s.ents.length lc) ∧ w.cell? ⟨g2, j * 2 + 1, none⟩ = some (.int .u64 e.2))) (first | assumption | exact HC.out _ (by repeat (first | exact Below.refl _ _ | apply below_drew | apply pw_below_drewN))) (first | (go_at_call 62; refine (HREM.out _ (by repeat (first | exact Below.refl _ _ | apply below_drew | apply pw_below_drewN))).mono ?_; rintro e9 w6 ⟨⟨b6, rfl⟩, hct6, HQ⟩))
  go_wp2_with fail
  go_ret
  exact ⟨rfl, HQ⟩
/-- An entry is appended to a map's list. -/
theorem rp_new {X W1 w5 w7 : World} {own : Nat → Prop} {b mb : Nat} {lvs : List Value} {qss : List (List (Nat × Nat))} {S : List MapS} {n g c g2 cap2 g8 cap8 : Nat} {s : MapS} {lv : Value} {qs : List (Nat × Nat)} {o : Obj} {a nx : Int} {key : List Int}
    (h : (RP b mb (.slice (some ⟨g, 0, none⟩) S.length c) lvs qss S).at_ X own) (hown : ∀ k, own k → k < X.heap.size) (hs : S[n]? = some s) (hp : RPart X own b mb (.slice (some ⟨g, 0, none⟩) S.length c) lvs qss S n s lv qs)
    (hO1 : Out (fun k => k = g) X W1) (hrow1 : W1.ownsRow 0 106 6 (.slice (some ⟨g, 0, none⟩) S.length c) S.length (rcells (S.set n { s with next := nx }) lvs))
    (hb5 : Below W1.heap.size W1 w5) (hown5 : w5.ownsRow W1.heap.size 5 1 (.slice (some ⟨g8, 0, none⟩) key.length cap8) key.length (nums .u8 key))
    (hgr : (w5.alloc o).grownBy w7 lv.ownBlock) (hown7 : w7.ownsRow 0 122 2 (.slice (some ⟨g2, 0, none⟩) (s.ents.length + 1) cap2) (s.ents.length + 1) (lcells s.ents qs ++ [.slice (some ⟨g8, 0, none⟩) key.length cap8, .int .u64 a])) (hat : lv.ownBlock = some g2 ∨ g2 = (w5.alloc o).heap.size) :
    ∃ own', (RP b mb (.slice (some ⟨g, 0, none⟩) S.length c) (lvs.set n (.slice (some ⟨g2, 0, none⟩) (s.ents.length + 1) cap2)) (qss.set n (qs ++ [(g8, cap8)])) (S.set n { s with ents := s.ents ++ [(key, a)], next := nx })).at_ (w7.setCell ⟨g, n * 6 + 4, none⟩ (.slice (some ⟨g2, 0, none⟩) (s.ents.length + 1) cap2)) own' ∧
      (∀ k, own' k → (own k ∨ X.heap.size ≤ k) ∧ k < (w7.setCell ⟨g, n * 6 + 4, none⟩ (.slice (some ⟨g2, 0, none⟩) (s.ents.length + 1) cap2)).heap.size) ∧ Out own X (w7.setCell ⟨g, n * 6 + 4, none⟩ (.slice (some ⟨g2, 0, none⟩) (s.ents.length + 1) cap2)) := by
  have hba : Below w5.heap.size w5 (w5.alloc o) := below_alloc (Below.refl _ _) o
  have hs1 := hO1.size
  have hs5 := hb5.size
  have hsa := hba.size
  have hs7 := hgr.size
  have hog : own g := hp.ov g rfl
  obtain ⟨cg, hcg⟩ := row_blkN hp.row rfl
  have hset : ∀ k, k ≠ g → (w7.setCell ⟨g, n * 6 + 4, none⟩ (.slice (some ⟨g2, 0, none⟩) (s.ents.length + 1) cap2)).heap[k]? = w7.heap[k]? := fun k hk => Below.heap_setCell w7 ⟨g, n * 6 + 4, none⟩ _ k hk
  -- a block of the world ahead
  have hk0 : ∀ k, k < X.heap.size → k ≠ g → lv.ownBlock ≠ some k → w7.heap[k]? = X.heap[k]? := fun k hk h1 h2 => by
    rw [hgr.block k (by omega) (fun e => h2 e.symm), hba.block k (by omega), hb5.block k (by omega)]
    exact hO1.block k hk h1
  have hlvX : ∀ k, lv.ownBlock = some k → k < X.heap.size := fun k hk => hown k (hp.ol k hk)
  have hlvg : ∀ k, lv.ownBlock = some k → k ≠ g := fun k hk e => by
    obtain ⟨cl, hcl⟩ := row_blkN hp.ents hk
    exact two_blocks hcl hcg (by decide) e
  have hgk : w7.heap[g]? = W1.heap[g]? := by
    have hgX := hown g hog
    rw [hgr.block g (by omega) (fun e => hlvg g e.symm rfl), hba.block g (by omega), hb5.block g (by omega)]
  have hrow7 : w7.ownsRow 0 106 6 (.slice (some ⟨g, 0, none⟩) S.length c) S.length (rcells (S.set n { s with next := nx }) lvs) := row_keep hrow1 (fun k hk => by cases hk; exact hgk)
  have hn : n < S.length := (List.getElem?_eq_some_iff.1 hs).1
  have hrow8 := (hrow7.stored (n * 6 + 4) (.slice (some ⟨g2, 0, none⟩) (s.ents.length + 1) cap2)).1
  rw [rcells_list (S.set n { s with next := nx }) lvs n { s with next := nx } _ (s.ents ++ [(key, a)]) (by rw [List.getElem?_set_self hn]) (by rw [List.length_set]; exact hp.ll), List.set_set] at hrow8
  have hg8 : W1.heap.size ≤ g8 := own_base hown5 g8 rfl
  have hg8l : g8 < w5.heap.size := own_lt hown5 g8 rfl
  have hg2g : g2 ≠ g := by
    obtain ⟨cl, hcl⟩ := row_blkN hown7 rfl
    obtain ⟨cm, hcm⟩ := row_blkN hrow7 rfl
    exact two_blocks hcl hcm (by decide)
  have hg2q : ∀ q ∈ qs, g2 ≠ q.1 := fun q hq e => by
    rcases hat with h | h
    · exact hp.nl g2 h (by rw [e]; exact List.mem_map_of_mem hq)
    · have := hown q.1 (hp.oq q hq)
      omega
  obtain ⟨own', hRP', hown'⟩ := rp_set (X' := w7.setCell ⟨g, n * 6 + 4, none⟩ (.slice (some ⟨g2, 0, none⟩) (s.ents.length + 1) cap2)) h hown hs hp (.slice (some ⟨g2, 0, none⟩) (s.ents.length + 1) cap2) (qs ++ [(g8, cap8)]) { s with ents := s.ents ++ [(key, a)], next := nx }
    (fun k hk h1 h2 => by
      have hkg : k ≠ g := fun e => h1 (by rw [e]; rfl)
      rw [hset k hkg]
      exact hk0 k (hown k hk) hkg h2)
    hrow8
    (by
      rw [lcells_snoc _ _ _ _ hp.len, List.length_append]
      exact row_keep hown7 (fun k hk => by cases hk; exact hset g2 hg2g))
    (by rw [List.length_append, List.length_append, hp.len]; rfl)
    (by
      rw [List.map_append, List.nodup_append]
      refine ⟨hp.nd, by simp, fun x hx y hy => ?_⟩
      obtain ⟨q, hq, rfl⟩ := List.mem_map.1 hx
      simp at hy
      have := hown q.1 (hp.oq q hq)
      omega)
    (fun k hk hq => by
      obtain rfl : g2 = k := by simpa [Value.ownBlock] using hk
      rw [List.map_append, List.mem_append] at hq
      rcases hq with hq | hq
      · obtain ⟨q, hqm, e⟩ := List.mem_map.1 hq
        exact hg2q q hqm e.symm
      · simp at hq
        rcases hat with h | h
        · have := hlvX g2 h
          omega
        · omega)
    (fun i q e hq he => by
      by_cases hi : i < s.ents.length
      · rw [List.getElem?_append_left (by have := hp.len; omega)] at hq
        rw [List.getElem?_append_left hi] at he
        have hr := hp.keys i q e hq he
        obtain ⟨cq, hcq⟩ := row_blkN hr rfl
        refine row_keep hr (fun k hk => ?_)
        obtain rfl : q.1 = k := by simpa [Value.ownBlock] using hk
        have hqg : q.1 ≠ g := two_blocks hcq hcg (by decide)
        rw [hset q.1 hqg]
        exact hk0 q.1 (hown _ (hp.oq q (List.mem_of_getElem? hq))) hqg (fun e => hp.nl _ e (List.mem_map_of_mem (List.mem_of_getElem? hq)))
      · have hi2 : i = s.ents.length := by
          have := (List.getElem?_eq_some_iff.1 he).1
          rw [List.length_append] at this
          simp at this
          omega
        subst hi2
        rw [List.getElem?_append_right (by omega), Nat.sub_self] at he
        rw [List.getElem?_append_right (by have := hp.len; omega), hp.len, Nat.sub_self] at hq
        simp at he hq
        subst he; subst hq
        refine own_weaken (row_keep hown5 (fun k hk => ?_)) (Nat.zero_le _)
        obtain rfl : g8 = k := by simpa [Value.ownBlock] using hk
        have hgX := hown g hog
        rw [hset g8 (by omega), hgr.block g8 (by omega) (fun e => by have := hlvX g8 e.symm; omega)]
        exact hba.block g8 hg8l)
    (fun k hk => by
      obtain rfl : g2 = k := by simpa [Value.ownBlock] using hk
      exact hat.imp id (fun h => by omega))
    (fun q hq => by
      rw [List.mem_append] at hq
      rcases hq with hq | hq
      · exact .inl hq
      · simp at hq
        subst hq
        exact .inr (by show X.heap.size ≤ g8; omega))
    (by simp [World.setCell]; omega)
  refine ⟨own', hRP', hown', ?_⟩
  exact ((((hO1.mono (fun k _ hk => by rw [hk]; exact hog)).trans (below_out hb5 own) (fun _ _ h => h)).trans (below_out hba own) (fun _ _ h => h)).trans (grown_out hgr) (fun k _ hk => hp.ol k hk)).trans (set_out w7 g _ _) (fun k _ hk => by rw [hk]; exact hog)
end Go.Proofs.YtomnfkihieinbaaDoor.PAll
