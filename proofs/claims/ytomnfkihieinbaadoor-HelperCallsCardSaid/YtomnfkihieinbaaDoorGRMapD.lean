/- The texts RMapSim, RMapRun, RMapFew, RMapBoth, RMapDo, RMapLaw of this claim, joined. -/
import Derived.Test.YtomnfkihieinbaaDoorGRMapC
import Derived.Test.YtomnfkihieinbaaDoorGMapsB
import Derived.Test.YtomnfkihieinbaaDoorGMapsC
/- maps: the program's maps and the reference's, side by side: plain laws. -/
set_option linter.unusedVariables false
set_option linter.unusedSimpArgs false
namespace Go.Proofs.YtomnfkihieinbaaDoor.PAll
open Go.RowKit Go.Shelf Go.Maps Go.Proofs.YtomnfkihieinbaaDoorW.PrintWords Go.Proofs.YtomnfkihieinbaaDoorW.PrintLast Go.Proofs.YtomnfkihieinbaaDoorW.PrintMore
/-- The reference's entries: an address where the program has a number. -/
def refE (i : Nat) (es : List (List Int × Int)) : List (List Int × Int) := es.map fun e => (e.1, addrF i e.2)
def refS (i : Nat) (s : MapS) : MapS := { s with ents := refE i s.ents }
def refL (S : List MapS) : List MapS := S.mapIdx refS
theorem refL_at (S : List MapS) (i : Nat) : (refL S)[i]? = (S[i]?).map (refS i) := by unfold refL; rw [List.getElem?_mapIdx]
theorem refL_len (S : List MapS) : (refL S).length = S.length := by unfold refL; rw [List.length_mapIdx]
theorem refL_getP (S : List MapS) (i : Int) : getP (refL S) i = (getP S i).map (refS i.toNat) := by
  unfold getP
  by_cases h : 0 ≤ i
  · rw [if_pos h, if_pos h, refL_at]
  · rw [if_neg h, if_neg h]; rfl
theorem refL_set (S : List MapS) (n : Nat) (s : MapS) : refL (S.set n s) = (refL S).set n (refS n s) := by
  unfold refL
  rw [List.mapIdx_set]
theorem refE_look (i : Nat) (es : List (List Int × Int)) (key : List Int) : lookE (refE i es) key = (lookE es key).map (addrF i) := by
  unfold lookE refE
  induction es with
  | nil => rfl
  | cons e es ih =>
    rw [List.map_cons, List.find?_cons, List.find?_cons]
    by_cases h : e.1 = key
    · simp [h]
    · simpa [h] using ih
theorem refE_find (i : Nat) (es : List (List Int × Int)) (key : List Int) : findE (refE i es) key = findE es key := by
  unfold findE refE
  rw [List.findIdx?_map]
  rfl
theorem refE_erase (i : Nat) : ∀ (es : List (List Int × Int)) (j : Nat), (refE i es).eraseIdx j = refE i (es.eraseIdx j)
  | [], _ => rfl
  | _ :: _, 0 => rfl
  | e :: es, j + 1 => by
    have ih := refE_erase i es j
    unfold refE at ih ⊢
    rw [List.map_cons, List.eraseIdx_cons_succ, List.eraseIdx_cons_succ, List.map_cons, ih]
theorem erase_del {es : List (List Int × Int)} (hnd : NoTwice es) {key : List Int} {j : Nat} (h : findE es key = some j) : es.eraseIdx j = delE es key := by
  induction es generalizing j with
  | nil => cases h
  | cons e es ih =>
    unfold findE at h
    rw [List.findIdx?_cons] at h
    unfold NoTwice at hnd
    rw [List.map_cons, List.nodup_cons] at hnd
    by_cases hk : e.1 = key
    · simp [hk] at h
      subst h
      unfold delE
      rw [List.filter_cons, if_neg (by simp [hk])]
      show es = _
      symm
      rw [List.filter_eq_self]
      intro e' he'
      have : e'.1 ≠ key := fun h => hnd.1 (by rw [hk, ← h]; exact List.mem_map_of_mem he')
      simpa using this
    · simp [hk] at h
      obtain ⟨j', hj', rfl⟩ := h
      have h2 := ih hnd.2 (j := j') (by unfold findE; simpa using hj')
      unfold delE at h2 ⊢
      rw [List.filter_cons, if_pos (by simpa using hk), List.eraseIdx_cons_succ, h2]
/-- Every key of a map has the map's length. -/
def KeysLen (S : List MapS) : Prop := ∀ s ∈ S, ∀ e ∈ s.ents, (e.1.length : Int) = s.key
theorem ref_right (S : List MapS) (i : Int) (key : List Int) : rightB (refL S) i key = rightB S i key := by
  unfold rightB
  rw [refL_getP]
  cases getP S i <;> rfl
theorem getP_mem3 {S : List MapS} {i : Int} {s : MapS} (h : getP S i = some s) : s ∈ S ∧ 0 ≤ i ∧ S[i.toNat]? = some s := by
  unfold getP at h
  split at h
  · exact ⟨List.mem_of_getElem? h, by assumption, h⟩
  · cases h
theorem look_wrong {S : List MapS} (hK : KeysLen S) {s : MapS} (hs : s ∈ S) {key : List Int} (h : ¬ (key.length : Int) = s.key) : lookE s.ents key = none := by
  cases hl : lookE s.ents key with
  | none => rfl
  | some n =>
    have := lookE_mem.1 (by rw [hl]; rfl : (lookE s.ents key).isSome = true)
    obtain ⟨e, he, rfl⟩ := List.mem_map.1 this
    exact absurd (hK s hs e he) h
theorem ref_look {S : List MapS} (hK : KeysLen S) (i : Int) (key : List Int) : rlookF (refL S) i key = lookF S i key := by
  unfold rlookF lookF
  rw [ref_right, refL_getP]
  unfold rightB
  cases hg : getP S i with
  | none => simp
  | some s =>
    obtain ⟨hs, h0, _⟩ := getP_mem3 hg
    have hi : ((i.toNat : Nat) : Int) = i := Int.toNat_of_nonneg h0
    by_cases hk : (key.length : Int) = s.key
    · simp only [hk, decide_true, if_true, Option.map_some]
      show (lookE (refE i.toNat s.ents) key).getD 0 = _
      rw [refE_look, hi]
      cases lookE s.ents key <;> rfl
    · simp only [hk, decide_false]
      rw [look_wrong hK hs hk]
      rfl
theorem ref_delR {S : List MapS} (i : Int) (key : List Int) : rdelR (refL S) i key = delR S i key := by
  unfold rdelR delR
  rw [ref_right, refL_getP]
  unfold rightB
  cases hg : getP S i with
  | none => simp
  | some s =>
    by_cases hk : (key.length : Int) = s.key
    · simp only [hk, decide_true, if_true, Option.map_some]
      show (match findE (refE i.toNat s.ents) key with | none => _ | some _ => _) = _
      rw [refE_find]
      rcases findE_look (ents := s.ents) (key := key) with ⟨e1, e2⟩ | ⟨j, e, e1, _, _, e2⟩
      · rw [e1, e2]
      · rw [e1, e2]
    · simp [hk]
theorem ref_delS {S : List MapS} (hnd : ∀ s ∈ S, NoTwice s.ents) (i : Int) (key : List Int) : rdelS (refL S) i key = refL (delS S i key) := by
  unfold rdelS delS
  rw [ref_right, refL_getP]
  unfold rightB
  cases hg : getP S i with
  | none => simp
  | some s =>
    obtain ⟨hs, _, _⟩ := getP_mem3 hg
    by_cases hk : (key.length : Int) = s.key
    · simp only [hk, decide_true, if_true, Option.map_some]
      show (match findE (refE i.toNat s.ents) key with | none => _ | some j => _) = _
      rw [refE_find]
      rcases findE_look (ents := s.ents) (key := key) with ⟨e1, e2⟩ | ⟨j, e, e1, _, _, e2⟩
      · rw [e1, e2]
      · rw [e1, e2]
        dsimp only
        rw [refL_set]
        congr 1
        show { s with ents := (refE i.toNat s.ents).eraseIdx j } = { s with ents := refE i.toNat (delE s.ents key) }
        rw [refE_erase, erase_del (hnd s hs) e1]
    · simp [hk]
theorem ref_updR {S : List MapS} (i : Int) (key value : List Int) : rupdR (refL S) i key value = updR S i key value := by
  unfold rupdR updR
  rw [ref_right, refL_getP]
  unfold rightB
  cases hg : getP S i with
  | none => simp
  | some s =>
    by_cases hk : (key.length : Int) = s.key
    · simp only [hk, decide_true, if_true, Option.map_some, true_and]
      show (if (value.length : Int) = s.value then match lookE (refE i.toNat s.ents) key with | some _ => _ | none => if ((refE i.toNat s.ents).length : Int) ≥ s.entries then _ else _ else _) = _
      rw [refE_look, show (refE i.toNat s.ents).length = s.ents.length by unfold refE; rw [List.length_map]]
      cases lookE s.ents key <;> rfl
    · simp [hk]
theorem ref_updS {S : List MapS} (i : Int) (key value : List Int) : rupdS (refL S) i key value = refL (updS S i key value) := by
  unfold rupdS updS
  rw [ref_right, refL_getP]
  unfold rightB
  cases hg : getP S i with
  | none => simp
  | some s =>
    obtain ⟨_, h0, _⟩ := getP_mem3 hg
    have hi : ((i.toNat : Nat) : Int) = i := Int.toNat_of_nonneg h0
    by_cases hk : (key.length : Int) = s.key
    · simp only [hk, decide_true, if_true, Option.map_some, true_and]
      show (if (value.length : Int) = s.value then match lookE (refE i.toNat s.ents) key with | some _ => _ | none => if ((refE i.toNat s.ents).length : Int) ≥ s.entries then _ else (refL S).set i.toNat { s with ents := refE i.toNat s.ents ++ [(key, addrF i s.next)], next := IntKind.u64.wrap (s.next + 1) } else _) = _
      rw [refE_look, show (refE i.toNat s.ents).length = s.ents.length by unfold refE; rw [List.length_map]]
      by_cases hv : (value.length : Int) = s.value
      · rw [if_pos hv, if_pos hv]
        cases lookE s.ents key with
        | some z => rfl
        | none =>
          dsimp only [Option.map]
          by_cases hf : (s.ents.length : Int) ≥ s.entries
          · rw [if_pos hf, if_pos hf]
          · rw [if_neg hf, if_neg hf, refL_set]
            congr 1
            show { s with ents := refE i.toNat s.ents ++ [(key, addrF i s.next)], next := IntKind.u64.wrap (s.next + 1) } = { s with ents := refE i.toNat (s.ents ++ [(key, s.next)]), next := IntKind.u64.wrap (s.next + 1) }
            unfold refE
            rw [List.map_append, List.map_cons, List.map_nil, hi]
      · rw [if_neg hv, if_neg hv]
    · simp [hk]
theorem ref_updK {S : List MapS} {K R : List Reg} (h : K.Perm R) (i : Int) (key value : List Int) : (updK S K i key value).Perm (rupdK (refL S) R i key value) := by
  unfold rupdK updK
  rw [ref_right, refL_getP]
  unfold rightB
  cases hg : getP S i with
  | none => simpa using h
  | some s =>
    obtain ⟨_, h0, _⟩ := getP_mem3 hg
    have hi : ((i.toNat : Nat) : Int) = i := Int.toNat_of_nonneg h0
    by_cases hk : (key.length : Int) = s.key
    · simp only [hk, decide_true, if_true, Option.map_some, true_and]
      show List.Perm _ (if (value.length : Int) = s.value then match lookE (refE i.toNat s.ents) key with | some a => putG R a value | none => if ((refE i.toNat s.ents).length : Int) ≥ s.entries then R else raddG R (addrF i s.next) value else R)
      rw [refE_look, show (refE i.toNat s.ents).length = s.ents.length by unfold refE; rw [List.length_map], hi]
      by_cases hv : (value.length : Int) = s.value
      · rw [if_pos hv, if_pos hv]
        cases lookE s.ents key with
        | some z => exact put_perm h _ _
        | none =>
          dsimp only [Option.map]
          by_cases hf : (s.ents.length : Int) ≥ s.entries
          · rw [if_pos hf, if_pos hf]; exact h
          · rw [if_neg hf, if_neg hf]
            unfold addG raddG
            rw [addOk_perm h]
            split
            · exact (h.cons _).trans (List.perm_append_singleton _ _).symm
            · exact h
      · rw [if_neg hv, if_neg hv]; exact h
    · simpa [hk] using h
theorem ref_delK {S : List MapS} {K R : List Reg} (h : K.Perm R) (i : Int) (key : List Int) : (delK S K i key).Perm (rdelK (refL S) R i key) := by
  unfold rdelK delK
  rw [ref_right, refL_getP]
  unfold rightB
  cases hg : getP S i with
  | none => simpa using h
  | some s =>
    obtain ⟨_, h0, _⟩ := getP_mem3 hg
    have hi : ((i.toNat : Nat) : Int) = i := Int.toNat_of_nonneg h0
    by_cases hk : (key.length : Int) = s.key
    · simp only [hk, decide_true, if_true, Option.map_some]
      show List.Perm _ (match lookE (refE i.toNat s.ents) key with | none => R | some a => remR R a)
      rw [refE_look, hi]
      cases lookE s.ents key with
      | none => exact h
      | some z => exact rem_perm h _
    · simpa [hk] using h
theorem ref_ents {s : MapS} {K R : List Reg} (h : K.Perm R) (hD : DL K) (n : Nat) : rentsF (refS n s) R = entsF s K n := by
  unfold rentsF entsF
  show (refE n s.ents).map _ = _
  unfold refE
  rw [List.map_map]
  refine List.map_congr_left fun e _ => ?_
  show (⟨e.1, (bytesF R (addrF n e.2) s.value).getD []⟩ : Ent) = _
  rw [bytesF_perm hD h]
theorem refL_mem {S : List MapS} {t : MapS} (h : t ∈ refL S) : ∃ (n : Nat) (s : MapS), S[n]? = some s ∧ t = refS n s := by
  obtain ⟨n, hn⟩ := List.mem_iff_getElem?.1 h
  rw [refL_at] at hn
  cases hs : S[n]? with
  | none => rw [hs] at hn; cases hn
  | some s => rw [hs] at hn; cases hn; exact ⟨n, s, hs, rfl⟩
theorem ref_good {N : Nat} {S : List MapS} (h : GoodS N S) (hN : N ≤ 100000) : RGood (refL S) := by
  refine ⟨by rw [refL_len]; exact h.1, fun t ht => ?_⟩
  obtain ⟨n, s, hs, rfl⟩ := refL_mem ht
  have hg := h.2 s (List.mem_of_getElem? hs)
  refine ⟨by show (refE n s.ents).length ≤ _; unfold refE; rw [List.length_map]; exact Nat.le_trans hg.len hN, fun e he => ?_⟩
  obtain ⟨e', he', rfl⟩ := List.mem_map.1 (show e ∈ s.ents.map _ from he)
  exact hg.short e' he'
theorem ref_addr {S : List MapS} (hk : ∀ s ∈ S, 1 ≤ s.key) : ∀ t ∈ refL S, 1 ≤ t.key ∧ ∀ e ∈ t.ents, 0 ≤ e.2 ∧ e.2 < 18446744073709551616 := fun t ht => by
  obtain ⟨n, s, hs, rfl⟩ := refL_mem ht
  refine ⟨hk s (List.mem_of_getElem? hs), fun e he => ?_⟩
  obtain ⟨e', _, rfl⟩ := List.mem_map.1 (show e ∈ s.ents.map _ from he)
  exact addr_range _ _
theorem keysLen_upd {S : List MapS} (h : KeysLen S) (i : Int) (key value : List Int) : KeysLen (updS S i key value) := by
  unfold updS
  cases hg : getP S i with
  | none => exact h
  | some s =>
    obtain ⟨hs, _, _⟩ := getP_mem3 hg
    dsimp only
    by_cases hk : (key.length : Int) = s.key ∧ (value.length : Int) = s.value
    · rw [if_pos hk]
      cases lookE s.ents key with
      | some z => exact h
      | none =>
        dsimp only
        split
        · exact h
        · intro t ht e he
          rcases List.mem_or_eq_of_mem_set ht with ht | rfl
          · exact h t ht e he
          · rcases List.mem_append.1 he with he | he
            · exact h s hs e he
            · simp at he
              subst he
              exact hk.1
    · rw [if_neg hk]; exact h
theorem keysLen_del {S : List MapS} (h : KeysLen S) (i : Int) (key : List Int) : KeysLen (delS S i key) := by
  unfold delS
  cases hg : getP S i with
  | none => exact h
  | some s =>
    obtain ⟨hs, _, _⟩ := getP_mem3 hg
    dsimp only
    split
    · cases lookE s.ents key with
      | none => exact h
      | some z =>
        intro t ht e he
        rcases List.mem_or_eq_of_mem_set ht with ht | rfl
        · exact h t ht e he
        · exact h s hs e (List.mem_filter.1 he).1
    · exact h
end Go.Proofs.YtomnfkihieinbaaDoor.PAll
/- maps: the reference's maps, new. -/
set_option linter.unusedVariables false
set_option linter.unusedSimpArgs false
namespace Go.Proofs.YtomnfkihieinbaaDoor.PAll
open Go.RowKit Go.Shelf Go.Maps Go.Proofs.YtomnfkihieinbaaDoorW.PrintWords Go.Proofs.YtomnfkihieinbaaDoorW.PrintLast Go.Proofs.YtomnfkihieinbaaDoorW.PrintMore
theorem lrs_new : ∀ (ds : List S28) (X : World) (own : Nat → Prop), (∀ k, ¬ own k) → (LRs (List.replicate ds.length nilV) (List.replicate ds.length []) (ds.map newS)).at_ X own
  | [], X, own, h => h
  | d :: ds, X, own, h => by
    refine ⟨fun _ => False, fun _ => False, fun k => ⟨fun hk => absurd hk (h k), fun hk => (hk.elim id id).elim⟩, fun k hk => hk.elim, ?_, lrs_new ds X _ (fun k hk => hk)⟩
    refine ⟨fun k => ⟨fun hk => hk.elim, fun hk => ?_⟩, rfl, List.nodup_nil, fun k hk => ?_, World.ownsRow_nil _ _ _ _, fun i q e hq he => ?_⟩
    · rcases hk with hk | hk
      · simp [nilV, Value.ownBlock] at hk
      · simp at hk
    · simp
    · simp at hq
theorem rp_new0 {X : World} {b mb : Nat} {v : Value} (ds : List S28) (h1 : X.heap[b]? = some (.cells #[.pointer (some ⟨mb, 0, none⟩), v] 55 (0, 0))) (h2 : X.ownsRow 0 106 6 v ds.length (rcells (ds.map newS) (List.replicate ds.length nilV))) :
    (RP b mb v (List.replicate ds.length nilV) (List.replicate ds.length []) (ds.map newS)).at_ X (fun k => k = b ∨ v.ownBlock = some k) :=
  ⟨fun k => k = b ∨ v.ownBlock = some k, fun _ => False, fun k => ⟨fun h => .inl h, fun h => h.elim id (fun h => h.elim)⟩, fun k _ h => h.elim, ⟨fun k => Iff.rfl, by simp, h1, by rw [List.length_map]; exact h2⟩, lrs_new ds X _ (fun k h => h)⟩
theorem refL_new (ds : List S28) : refL (ds.map newS) = ds.map newS := by
  apply List.ext_getElem?
  intro i
  rw [refL_at, List.getElem?_map]
  cases ds[i]? <;> rfl
theorem rmm_new {X X' : World} {fr : Nat → Prop} {mb : Nat} {R : List Reg} {v : Value} {ds : List S28} (h : Has X fr (RM mb R)) (hb : Below X.heap.size X X') (h1 : X'.heap[X.heap.size]? = some (.cells #[.pointer (some ⟨mb, 0, none⟩), v] 55 (0, 0))) (h2 : X'.ownsRow X.heap.size 106 6 v ds.length (rcells (ds.map newS) (List.replicate ds.length nilV))) : RMM X' fr X.heap.size mb (refL (ds.map newS)) R := by
  rw [refL_new]
  have ho : ∀ k, (k = X.heap.size ∨ v.ownBlock = some k) → X.heap.size ≤ k ∧ k < X'.heap.size := by
    rintro k (rfl | hk)
    · exact ⟨Nat.le_refl _, (Array.getElem?_eq_some_iff.1 h1).1⟩
    · exact ⟨own_base h2 k hk, own_lt h2 k hk⟩
  refine rmm_join (o1 := fun k => k = X.heap.size ∨ v.ownBlock = some k) ((h.more hb).weaken (fun k hk => hk.imp id (ho k))) (fun k hk hf => ?_) (rp_new0 ds h1 (own_weaken h2 (Nat.zero_le _)))
  have := (ho k hk).1
  have := h.fr k hf
  omega
end Go.Proofs.YtomnfkihieinbaaDoor.PAll
/- maps: few. -/
set_option linter.unusedVariables false
set_option linter.unusedSimpArgs false
namespace Go.Proofs.YtomnfkihieinbaaDoor.PAll
open Go.RowKit Go.Shelf Go.Maps Go.Proofs.YtomnfkihieinbaaDoorW.PrintWords Go.Proofs.YtomnfkihieinbaaDoorW.PrintLast Go.Proofs.YtomnfkihieinbaaDoorW.PrintMore
end Go.Proofs.YtomnfkihieinbaaDoor.PAll
/- maps: the program's and the reference's maps and memories, side by side. -/
set_option linter.unusedVariables false
set_option linter.unusedSimpArgs false
namespace Go.Proofs.YtomnfkihieinbaaDoor.PAll
open Go.RowKit Go.Shelf Go.Maps Go.Proofs.YtomnfkihieinbaaDoorW.PrintWords Go.Proofs.YtomnfkihieinbaaDoorW.PrintLast Go.Proofs.YtomnfkihieinbaaDoorW.PrintMore
def MRes (t m : Nat) (S : List MapS) (K : List Reg) : Res where
  at_ X own := ∃ v ps, ps.length = S.length ∧ ((MP t m v ps S).and (PM m K)).at_ X own
  keep := fun {X X' own} h hk => by
    obtain ⟨v, ps, h1, h2⟩ := h
    exact ⟨v, ps, h1, ((MP t m v ps S).and (PM m K)).keep h2 hk⟩
def RRes (b mb : Nat) (S : List MapS) (R : List Reg) : Res where
  at_ X own := ∃ v lvs qss, ((RP b mb v lvs qss S).and (RM mb R)).at_ X own
  keep := fun {X X' own} h hk => by
    obtain ⟨v, lvs, qss, h2⟩ := h
    exact ⟨v, lvs, qss, ((RP b mb v lvs qss S).and (RM mb R)).keep h2 hk⟩
theorem mres_iff {X : World} {fr : Nat → Prop} {t m : Nat} {S : List MapS} {K : List Reg} : Has X fr (MRes t m S K) ↔ MM X fr t m S K :=
  ⟨fun ⟨h0, own, h1, v, ps, h2, h3⟩ => ⟨v, ps, h2, h0, own, h1, h3⟩, fun ⟨v, ps, h2, h0, own, h1, h3⟩ => ⟨h0, own, h1, v, ps, h2, h3⟩⟩
theorem rres_iff {X : World} {fr : Nat → Prop} {b mb : Nat} {S : List MapS} {R : List Reg} : Has X fr (RRes b mb S R) ↔ RMM X fr b mb S R :=
  ⟨fun ⟨h0, own, h1, v, lvs, qss, h3⟩ => ⟨v, lvs, qss, h0, own, h1, h3⟩, fun ⟨v, lvs, qss, h0, own, h1, h3⟩ => ⟨h0, own, h1, v, lvs, qss, h3⟩⟩
/-! ### both, side by side -/
def Both (X : World) (fr : Nat → Prop) (t m b mb : Nat) (S : List MapS) (K : List Reg) (S2 : List MapS) (R : List Reg) : Prop := Has X fr ((MRes t m S K).and (RRes b mb S2 R))
theorem Both.mm {X : World} {fr : Nat → Prop} {t m b mb : Nat} {S S2 : List MapS} {K R : List Reg} (h : Both X fr t m b mb S K S2 R) : MM X fr t m S K := mres_iff.1 h.left
theorem Both.rmm {X : World} {fr : Nat → Prop} {t m b mb : Nat} {S S2 : List MapS} {K R : List Reg} (h : Both X fr t m b mb S K S2 R) : RMM X fr b mb S2 R := rres_iff.1 h.swap.left
theorem Both.below {X X' : World} {fr : Nat → Prop} {t m b mb : Nat} {S S2 : List MapS} {K R : List Reg} (h : Both X fr t m b mb S K S2 R) (hb : Below X.heap.size X X') : Both X' fr t m b mb S K S2 R := Has.below h hb
theorem Both.weaken {X : World} {fr fr' : Nat → Prop} {t m b mb : Nat} {S S2 : List MapS} {K R : List Reg} (h : Both X fr t m b mb S K S2 R) (hf : ∀ k, fr' k → fr k) : Both X fr' t m b mb S K S2 R := Has.weaken h hf
theorem Both.alloc {X : World} {fr : Nat → Prop} {t m b mb : Nat} {S S2 : List MapS} {K R : List Reg} (h : Both X fr t m b mb S K S2 R) (o : Obj) : Both (X.alloc o) (fun k => fr k ∨ k = X.heap.size) t m b mb S K S2 R :=
  (Has.more h (below_alloc (Below.refl _ _) o)).weaken (fun k hk => hk.imp id (fun e => by subst e; exact ⟨Nat.le_refl _, by simp⟩))
theorem Both.dl {X : World} {fr : Nat → Prop} {t m b mb : Nat} {S S2 : List MapS} {K R : List Reg} (h : Both X fr t m b mb S K S2 R) : DL K := by
  obtain ⟨v, ps, _, h2⟩ := h.mm
  exact h2.swap.left.dlP
/-- The reference's blocks: the maps point to the memory, the memory's list has its length. -/
theorem Both.rblk {X : World} {fr : Nat → Prop} {t m b mb : Nat} {S S2 : List MapS} {K R : List Reg} (h : Both X fr t m b mb S K S2 R) : X.cell? ⟨b, 0, none⟩ = some (.pointer (some ⟨mb, 0, none⟩)) ∧ ∃ A c, X.cell? ⟨mb, 0, none⟩ = some (.slice A R.length c) := by
  obtain ⟨v, lvs, qss, h2⟩ := h.rmm
  obtain ⟨_, own, _, h3⟩ := h2.left
  obtain ⟨A, c, rfl, hc, _⟩ := rp_head h3
  obtain ⟨_, own', _, ⟨v', ps, h4⟩, _⟩ := h2.swap.left
  obtain ⟨A', c', rfl⟩ := own_slice h4.row
  exact ⟨hc, A', c', (blk1 h4.blk).1⟩
theorem updK_len (S : List MapS) (K : List Reg) (i : Int) (key value : List Int) : (updK S K i key value).length ≤ K.length + 1 := by
  unfold updK
  cases getP S i with
  | none => exact Nat.le_succ _
  | some s =>
    dsimp only
    split
    · cases lookE s.ents key with
      | some z => exact Nat.le_succ_of_le (by simp [putG])
      | none =>
        dsimp only
        split
        · exact Nat.le_succ _
        · unfold addG
          split <;> simp
    · exact Nat.le_succ _
theorem delK_len (S : List MapS) (K : List Reg) (i : Int) (key : List Int) : (delK S K i key).length ≤ K.length := by
  unfold delK
  cases getP S i with
  | none => exact Nat.le_refl _
  | some s =>
    dsimp only
    split
    · cases lookE s.ents key with
      | some z => exact List.length_filter_le _ _
      | none => exact Nat.le_refl _
    · exact Nat.le_refl _
theorem updS_key {S : List MapS} (h : ∀ s ∈ S, 1 ≤ s.key) (i : Int) (key value : List Int) : ∀ s ∈ updS S i key value, 1 ≤ s.key := by
  unfold updS
  cases hg : getP S i with
  | none => exact h
  | some s =>
    dsimp only
    split
    · cases lookE s.ents key with
      | some z => exact h
      | none =>
        dsimp only
        split
        · exact h
        · intro s' hs'
          rcases mem_set' hs' with hs' | rfl
          · exact h s' hs'
          · exact h s (getP_mem hg)
    · exact h
theorem delS_key {S : List MapS} (h : ∀ s ∈ S, 1 ≤ s.key) (i : Int) (key : List Int) : ∀ s ∈ delS S i key, 1 ≤ s.key := by
  unfold delS
  cases hg : getP S i with
  | none => exact h
  | some s =>
    dsimp only
    split
    · cases lookE s.ents key with
      | none => exact h
      | some z =>
        intro s' hs'
        rcases mem_set' hs' with hs' | rfl
        · exact h s' hs'
        · exact h s (getP_mem hg)
    · exact h
structure Sim (N : Nat) (S : List MapS) (K R : List Reg) : Prop where
  good : GoodS N S
  keys : KeysLen S
  key1 : ∀ s ∈ S, 1 ≤ s.key
  perm : K.Perm R
  len : K.length ≤ N
theorem GoodS.more {N M : Nat} {S : List MapS} (h : GoodS N S) (hM : N ≤ M) : GoodS M S := ⟨h.1, fun s hs => (h.2 s hs).more hM⟩
theorem Sim.succ {N : Nat} {S : List MapS} {K R : List Reg} (h : Sim N S K R) : Sim (N + 1) S K R := ⟨h.good.more (Nat.le_succ _), h.keys, h.key1, h.perm, Nat.le_succ_of_le h.len⟩
theorem Sim.upd {N : Nat} {S : List MapS} {K R : List Reg} (h : Sim N S K R) (hN : N ≤ 100000) (i : Int) (key value : List Int) (hl : key.length ≤ 65536) : Sim (N + 1) (updS S i key value) (updK S K i key value) (rupdK (refL S) R i key value) :=
  ⟨h.good.upd hN i key value hl, keysLen_upd h.keys i key value, updS_key h.key1 i key value, ref_updK h.perm i key value, Nat.le_trans (updK_len _ _ _ _ _) (Nat.succ_le_succ h.len)⟩
theorem Sim.del {N : Nat} {S : List MapS} {K R : List Reg} (h : Sim N S K R) (i : Int) (key : List Int) : Sim (N + 1) (delS S i key) (delK S K i key) (rdelK (refL S) R i key) :=
  ⟨(h.good.del i key).more (Nat.le_succ _), keysLen_del h.keys i key, delS_key h.key1 i key, ref_delK h.perm i key, Nat.le_succ_of_le (Nat.le_trans (delK_len _ _ _ _) h.len)⟩
end Go.Proofs.YtomnfkihieinbaaDoor.PAll
/- maps: the law's do: one operation on both maps. -/
set_option linter.unusedVariables false
set_option linter.unusedSimpArgs false
namespace Go.Proofs.YtomnfkihieinbaaDoor.PAll
open Go.RowKit Go.Shelf Go.Maps Go.Proofs.YtomnfkihieinbaaDoorW.PrintWords Go.Proofs.YtomnfkihieinbaaDoorW.PrintLast Go.Proofs.YtomnfkihieinbaaDoorW.PrintMore
end Go.Proofs.YtomnfkihieinbaaDoor.PAll
/- maps: the law MapsRun. -/
set_option linter.unusedVariables false
set_option linter.unusedSimpArgs false
namespace Go.Proofs.YtomnfkihieinbaaDoor.PAll
open Go.RowKit Go.Shelf Go.Maps Go.Proofs.YtomnfkihieinbaaDoorW.PrintWords Go.Proofs.YtomnfkihieinbaaDoorW.PrintLast Go.Proofs.YtomnfkihieinbaaDoorW.PrintMore
theorem rm_new (w : World) : Has (w.alloc (.cells #[.slice none 0 0] 51)) (fun k => k < w.heap.size) (RM w.heap.size []) := by
  have hs : (w.alloc (.cells #[.slice none 0 0] 51)).heap.size = w.heap.size + 1 := by simp
  refine ⟨fun k hk => by rw [hs]; omega, fun k => k = w.heap.size, fun k hk => ⟨by omega, by rw [hs]; omega⟩, ?_, DL.nil⟩
  exact ⟨.slice none 0 0, [], heap_alloc_new w _, rfl, Nat.zero_le _, World.ownsRow_nil _ _ _ _, fun k hk => by simp [Value.ownBlock] at hk, rfl, fun i p r hp _ => by simp at hp, by simp⟩
theorem sim_new (ds : List S28) (hl : ds.length ≤ 255) (hb : ds.all sizesB = true) : Sim 0 (ds.map newS) [] [] := by
  refine ⟨good_new ds hl hb, fun s hs e he => ?_, fun s hs => ?_, List.Perm.refl _, Nat.le_refl _⟩
  · obtain ⟨d, _, rfl⟩ := List.mem_map.1 hs
    simp [newS] at he
  · obtain ⟨d, hd, rfl⟩ := List.mem_map.1 hs
    exact ((sizes_iff d).1 (List.all_eq_true.1 hb d hd)).1.1
/-! ### the entries of both -/
theorem both_ents (X : World) (fr : Nat → Prop) (t m b mb N : Nat) (S : List MapS) (K R : List Reg) (i : Int) (h : Both X fr t m b mb S K (refL S) R) (hs : Sim N S K R) (hN : N ≤ 1000) :
    Calls Tryd.prog 13 #[.pointer (some ⟨t, 0, none⟩), .int .i64 i] X fun e X' => (∃ vR vs, e = .returned vR ∧ EntRow X' X.heap.size vR vs (entF S K i)) ∧ Below X.heap.size X X' :=
  mm_entries X fr t m S K N i h.mm hs.good (by omega) (Nat.le_trans hs.len (by omega))
theorem both_rents (X : World) (fr : Nat → Prop) (t m b mb N : Nat) (S : List MapS) (K R : List Reg) (i : Int) (h : Both X fr t m b mb S K (refL S) R) (hs : Sim N S K R) (hN : N ≤ 1000) :
    Calls Tryd.prog 21 #[.pointer (some ⟨b, 0, none⟩), .int .i64 i] X fun e X' => (∃ vR vs, e = .returned vR ∧ EntRow X' X.heap.size vR vs (entF S K i)) ∧ Below X.heap.size X X' := by
  have hg := ref_good hs.good (by omega)
  unfold entF
  cases hp : getP S i with
  | none =>
    obtain ⟨v, lvs, qss, h2⟩ := h.rmm
    obtain ⟨_, own, _, h3⟩ := h2.left
    refine (rents_bad X own b mb v lvs qss (refL S) i h3 (by rw [refL_getP, hp]; rfl)).mono ?_
    rintro e X' ⟨rfl, rfl⟩
    exact ⟨⟨_, [], rfl, EntRow.nil _ _⟩, Below.refl _ _⟩
  | some s =>
    obtain ⟨hm, h0, hn⟩ := getP_mem3 hp
    have hsg := hs.good.2 s hm
    have hk1 := hs.key1 s hm
    obtain ⟨n, rfl⟩ := Int.eq_ofNat_of_zero_le h0
    rw [Int.toNat_natCast] at hn
    have hr : (refL S)[n]? = some (refS n s) := by rw [refL_at, hn]; rfl
    refine (rents_some X fr b mb (refL S) R n (refS n s) h.rmm hg (by rw [← hs.perm.length_eq]; exact Nat.le_trans hs.len (by omega)) hr (fun e he => ?_) hsg.v0 (Int.le_trans hsg.v1 (by decide))).mono ?_
    · obtain ⟨e', he', rfl⟩ := List.mem_map.1 (show e ∈ s.ents.map _ from he)
      have := hs.keys s hm e' he'
      exact ⟨by show 1 ≤ e'.1.length; omega, addr_range _ _⟩
    · intro e X' hq
      rw [ref_ents hs.perm h.dl] at hq
      exact hq
theorem entF_small {N : Nat} {S : List MapS} {K : List Reg} (hS : GoodS N S) (hN : N ≤ 1000) (hD : DL K) (i : Int) : (entF S K i).length ≤ 1000000 ∧ ∀ e ∈ entF S K i, e.f0.length ≤ 1099511627776 ∧ e.f1.length ≤ 1099511627776 := by
  unfold entF
  cases hp : getP S i with
  | none => exact ⟨Nat.zero_le _, fun e he => by cases he⟩
  | some s =>
    have hg := hS.2 s (getP_mem hp)
    refine ⟨?_, fun e he => ?_⟩
    · show (s.ents.map _).length ≤ _
      rw [List.length_map]
      exact Nat.le_trans hg.len (by omega)
    · obtain ⟨e', he', rfl⟩ := List.mem_map.1 (show e ∈ s.ents.map _ from he)
      refine ⟨Nat.le_trans (hg.short e' he') (by decide), Nat.le_trans ?_ (by decide : 4294967296 ≤ 1099511627776)⟩
      show ((bytesF K _ _).getD []).length ≤ _
      cases hf : bytesF K (addrF i e'.2) s.value with
      | none => exact Nat.zero_le _
      | some bs =>
        obtain ⟨r, hr, hh, rfl⟩ := (bytesF_iff hD).1 hf
        show ((r.data.drop _).take _).length ≤ _
        have := (hD.ok r hr).short
        rw [List.length_take, List.length_drop]
        omega
end Go.Proofs.YtomnfkihieinbaaDoor.PAll
