/- The texts RMapSim, RMapRun, RMapFew, RMapBoth, RMapDo, RMapLaw of this claim, joined. -/
import Derived.Test.YtmkmldpcoonepaaGRMapC
import Derived.Test.YtmkmldpcoonepaaPAllx2
import Derived.Test.YtmkmldpcoonepaaGMapsB
import Derived.Test.YtmkmldpcoonepaaGMapsC
/- maps: the program's maps and the reference's, side by side: plain laws. -/
set_option linter.unusedVariables false
set_option linter.unusedSimpArgs false
namespace Go.Proofs.Ytmkmldpcoonepaa.PAll
open Go.RowKit Go.Shelf Go.Maps Go.Proofs.YtmkmldpcoonepaaW.PrintWords Go.Proofs.YtmkmldpcoonepaaW.PrintLast Go.Proofs.YtmkmldpcoonepaaW.PrintMore
/-- The reference's entries: an address where the program has a number. -/
def refE (i : Nat) (es : List (List Int × Int)) : List (List Int × Int) := es.map fun e => (e.1, addrF i e.2)
def refS (i : Nat) (s : MapS) : MapS := { s with ents := refE i s.ents }
def refL (S : List MapS) : List MapS := S.mapIdx refS
theorem refL_at (S : List MapS) (i : Nat) : (refL S)[i]? = (S[i]?).map (refS i) := by unfold refL; rw [List.getElem?_mapIdx]
theorem refL_len (S : List MapS) : (refL S).length = S.length := by unfold refL; rw [List.length_mapIdx]
theorem refL_getP (S : List MapS) (i : Int) : getP (refL S) i = (getP S i).map (refS i.toNat) := by
  unfold getP
  by_cases h : 0 ≤ i
  · rw [if_pos h, if_pos h, refL_at]
  · rw [if_neg h, if_neg h]; rfl
theorem refL_set (S : List MapS) (n : Nat) (s : MapS) : refL (S.set n s) = (refL S).set n (refS n s) := by
  unfold refL
  rw [List.mapIdx_set]
theorem refE_look (i : Nat) (es : List (List Int × Int)) (key : List Int) : lookE (refE i es) key = (lookE es key).map (addrF i) := by
  unfold lookE refE
  induction es with
  | nil => rfl
  | cons e es ih =>
    rw [List.map_cons, List.find?_cons, List.find?_cons]
    by_cases h : e.1 = key
    · simp [h]
    · simpa [h] using ih
theorem refE_find (i : Nat) (es : List (List Int × Int)) (key : List Int) : findE (refE i es) key = findE es key := by
  unfold findE refE
  rw [List.findIdx?_map]
  rfl
theorem refE_erase (i : Nat) : ∀ (es : List (List Int × Int)) (j : Nat), (refE i es).eraseIdx j = refE i (es.eraseIdx j)
  | [], _ => rfl
  | _ :: _, 0 => rfl
  | e :: es, j + 1 => by
    have ih := refE_erase i es j
    unfold refE at ih ⊢
    rw [List.map_cons, List.eraseIdx_cons_succ, List.eraseIdx_cons_succ, List.map_cons, ih]
theorem erase_del {es : List (List Int × Int)} (hnd : NoTwice es) {key : List Int} {j : Nat} (h : findE es key = some j) : es.eraseIdx j = delE es key := by
  induction es generalizing j with
  | nil => cases h
  | cons e es ih =>
    unfold findE at h
    rw [List.findIdx?_cons] at h
    unfold NoTwice at hnd
    rw [List.map_cons, List.nodup_cons] at hnd
    by_cases hk : e.1 = key
    · simp [hk] at h
      subst h
      unfold delE
      rw [List.filter_cons, if_neg (by simp [hk])]
      show es = _
      symm
      rw [List.filter_eq_self]
      intro e' he'
      have : e'.1 ≠ key := fun h => hnd.1 (by rw [hk, ← h]; exact List.mem_map_of_mem he')
      simpa using this
    · simp [hk] at h
      obtain ⟨j', hj', rfl⟩ := h
      have h2 := ih hnd.2 (j := j') (by unfold findE; simpa using hj')
      unfold delE at h2 ⊢
      rw [List.filter_cons, if_pos (by simpa using hk), List.eraseIdx_cons_succ, h2]
/-- Every key of a map has the map's length. -/
def KeysLen (S : List MapS) : Prop := ∀ s ∈ S, ∀ e ∈ s.ents, (e.1.length : Int) = s.key
theorem ref_right (S : List MapS) (i : Int) (key : List Int) : rightB (refL S) i key = rightB S i key := by
  unfold rightB
  rw [refL_getP]
  cases getP S i <;> rfl
theorem getP_mem3 {S : List MapS} {i : Int} {s : MapS} (h : getP S i = some s) : s ∈ S ∧ 0 ≤ i ∧ S[i.toNat]? = some s := by
  unfold getP at h
  split at h
  · exact ⟨List.mem_of_getElem? h, by assumption, h⟩
  · cases h
theorem look_wrong {S : List MapS} (hK : KeysLen S) {s : MapS} (hs : s ∈ S) {key : List Int} (h : ¬ (key.length : Int) = s.key) : lookE s.ents key = none := by
  cases hl : lookE s.ents key with
  | none => rfl
  | some n =>
    have := lookE_mem.1 (by rw [hl]; rfl : (lookE s.ents key).isSome = true)
    obtain ⟨e, he, rfl⟩ := List.mem_map.1 this
    exact absurd (hK s hs e he) h
theorem ref_look {S : List MapS} (hK : KeysLen S) (i : Int) (key : List Int) : rlookF (refL S) i key = lookF S i key := by
  unfold rlookF lookF
  rw [ref_right, refL_getP]
  unfold rightB
  cases hg : getP S i with
  | none => simp
  | some s =>
    obtain ⟨hs, h0, _⟩ := getP_mem3 hg
    have hi : ((i.toNat : Nat) : Int) = i := Int.toNat_of_nonneg h0
    by_cases hk : (key.length : Int) = s.key
    · simp only [hk, decide_true, if_true, Option.map_some]
      show (lookE (refE i.toNat s.ents) key).getD 0 = _
      rw [refE_look, hi]
      cases lookE s.ents key <;> rfl
    · simp only [hk, decide_false]
      rw [look_wrong hK hs hk]
      rfl
theorem ref_delR {S : List MapS} (i : Int) (key : List Int) : rdelR (refL S) i key = delR S i key := by
  unfold rdelR delR
  rw [ref_right, refL_getP]
  unfold rightB
  cases hg : getP S i with
  | none => simp
  | some s =>
    by_cases hk : (key.length : Int) = s.key
    · simp only [hk, decide_true, if_true, Option.map_some]
      show (match findE (refE i.toNat s.ents) key with | none => _ | some _ => _) = _
      rw [refE_find]
      rcases findE_look (ents := s.ents) (key := key) with ⟨e1, e2⟩ | ⟨j, e, e1, _, _, e2⟩
      · rw [e1, e2]
      · rw [e1, e2]
    · simp [hk]
theorem ref_delS {S : List MapS} (hnd : ∀ s ∈ S, NoTwice s.ents) (i : Int) (key : List Int) : rdelS (refL S) i key = refL (delS S i key) := by
  unfold rdelS delS
  rw [ref_right, refL_getP]
  unfold rightB
  cases hg : getP S i with
  | none => simp
  | some s =>
    obtain ⟨hs, _, _⟩ := getP_mem3 hg
    by_cases hk : (key.length : Int) = s.key
    · simp only [hk, decide_true, if_true, Option.map_some]
      show (match findE (refE i.toNat s.ents) key with | none => _ | some j => _) = _
      rw [refE_find]
      rcases findE_look (ents := s.ents) (key := key) with ⟨e1, e2⟩ | ⟨j, e, e1, _, _, e2⟩
      · rw [e1, e2]
      · rw [e1, e2]
        dsimp only
        rw [refL_set]
        congr 1
        show { s with ents := (refE i.toNat s.ents).eraseIdx j } = { s with ents := refE i.toNat (delE s.ents key) }
        rw [refE_erase, erase_del (hnd s hs) e1]
    · simp [hk]
theorem ref_updR {S : List MapS} (i : Int) (key value : List Int) : rupdR (refL S) i key value = updR S i key value := by
  unfold rupdR updR
  rw [ref_right, refL_getP]
  unfold rightB
  cases hg : getP S i with
  | none => simp
  | some s =>
    by_cases hk : (key.length : Int) = s.key
    · simp only [hk, decide_true, if_true, Option.map_some, true_and]
      show (if (value.length : Int) = s.value then match lookE (refE i.toNat s.ents) key with | some _ => _ | none => if ((refE i.toNat s.ents).length : Int) ≥ s.entries then _ else _ else _) = _
      rw [refE_look, show (refE i.toNat s.ents).length = s.ents.length by unfold refE; rw [List.length_map]]
      cases lookE s.ents key <;> rfl
    · simp [hk]
theorem ref_updS {S : List MapS} (i : Int) (key value : List Int) : rupdS (refL S) i key value = refL (updS S i key value) := by
  unfold rupdS updS
  rw [ref_right, refL_getP]
  unfold rightB
  cases hg : getP S i with
  | none => simp
  | some s =>
    obtain ⟨_, h0, _⟩ := getP_mem3 hg
    have hi : ((i.toNat : Nat) : Int) = i := Int.toNat_of_nonneg h0
    by_cases hk : (key.length : Int) = s.key
    · simp only [hk, decide_true, if_true, Option.map_some, true_and]
      show (if (value.length : Int) = s.value then match lookE (refE i.toNat s.ents) key with | some _ => _ | none => if ((refE i.toNat s.ents).length : Int) ≥ s.entries then _ else (refL S).set i.toNat { s with ents := refE i.toNat s.ents ++ [(key, addrF i s.next)], next := IntKind.u64.wrap (s.next + 1) } else _) = _
      rw [refE_look, show (refE i.toNat s.ents).length = s.ents.length by unfold refE; rw [List.length_map]]
      by_cases hv : (value.length : Int) = s.value
      · rw [if_pos hv, if_pos hv]
        cases lookE s.ents key with
        | some z => rfl
        | none =>
          dsimp only [Option.map]
          by_cases hf : (s.ents.length : Int) ≥ s.entries
          · rw [if_pos hf, if_pos hf]
          · rw [if_neg hf, if_neg hf, refL_set]
            congr 1
            show { s with ents := refE i.toNat s.ents ++ [(key, addrF i s.next)], next := IntKind.u64.wrap (s.next + 1) } = { s with ents := refE i.toNat (s.ents ++ [(key, s.next)]), next := IntKind.u64.wrap (s.next + 1) }
            unfold refE
            rw [List.map_append, List.map_cons, List.map_nil, hi]
      · rw [if_neg hv, if_neg hv]
    · simp [hk]
theorem ref_updK {S : List MapS} {K R : List Reg} (h : K.Perm R) (i : Int) (key value : List Int) : (updK S K i key value).Perm (rupdK (refL S) R i key value) := by
  unfold rupdK updK
  rw [ref_right, refL_getP]
  unfold rightB
  cases hg : getP S i with
  | none => simpa using h
  | some s =>
    obtain ⟨_, h0, _⟩ := getP_mem3 hg
    have hi : ((i.toNat : Nat) : Int) = i := Int.toNat_of_nonneg h0
    by_cases hk : (key.length : Int) = s.key
    · simp only [hk, decide_true, if_true, Option.map_some, true_and]
      show List.Perm _ (if (value.length : Int) = s.value then match lookE (refE i.toNat s.ents) key with | some a => putG R a value | none => if ((refE i.toNat s.ents).length : Int) ≥ s.entries then R else raddG R (addrF i s.next) value else R)
      rw [refE_look, show (refE i.toNat s.ents).length = s.ents.length by unfold refE; rw [List.length_map], hi]
      by_cases hv : (value.length : Int) = s.value
      · rw [if_pos hv, if_pos hv]
        cases lookE s.ents key with
        | some z => exact put_perm h _ _
        | none =>
          dsimp only [Option.map]
          by_cases hf : (s.ents.length : Int) ≥ s.entries
          · rw [if_pos hf, if_pos hf]; exact h
          · rw [if_neg hf, if_neg hf]
            unfold addG raddG
            rw [addOk_perm h]
            split
            · exact (h.cons _).trans (List.perm_append_singleton _ _).symm
            · exact h
      · rw [if_neg hv, if_neg hv]; exact h
    · simpa [hk] using h
theorem ref_delK {S : List MapS} {K R : List Reg} (h : K.Perm R) (i : Int) (key : List Int) : (delK S K i key).Perm (rdelK (refL S) R i key) := by
  unfold rdelK delK
  rw [ref_right, refL_getP]
  unfold rightB
  cases hg : getP S i with
  | none => simpa using h
  | some s =>
    obtain ⟨_, h0, _⟩ := getP_mem3 hg
    have hi : ((i.toNat : Nat) : Int) = i := Int.toNat_of_nonneg h0
    by_cases hk : (key.length : Int) = s.key
    · simp only [hk, decide_true, if_true, Option.map_some]
      show List.Perm _ (match lookE (refE i.toNat s.ents) key with | none => R | some a => remR R a)
      rw [refE_look, hi]
      cases lookE s.ents key with
      | none => exact h
      | some z => exact rem_perm h _
    · simpa [hk] using h
theorem ref_ents {s : MapS} {K R : List Reg} (h : K.Perm R) (hD : DL K) (n : Nat) : rentsF (refS n s) R = entsF s K n := by
  unfold rentsF entsF
  show (refE n s.ents).map _ = _
  unfold refE
  rw [List.map_map]
  refine List.map_congr_left fun e _ => ?_
  show (⟨e.1, (bytesF R (addrF n e.2) s.value).getD []⟩ : Ent) = _
  rw [bytesF_perm hD h]
theorem refL_mem {S : List MapS} {t : MapS} (h : t ∈ refL S) : ∃ (n : Nat) (s : MapS), S[n]? = some s ∧ t = refS n s := by
  obtain ⟨n, hn⟩ := List.mem_iff_getElem?.1 h
  rw [refL_at] at hn
  cases hs : S[n]? with
  | none => rw [hs] at hn; cases hn
  | some s => rw [hs] at hn; cases hn; exact ⟨n, s, hs, rfl⟩
theorem ref_good {N : Nat} {S : List MapS} (h : GoodS N S) (hN : N ≤ 100000) : RGood (refL S) := by
  refine ⟨by rw [refL_len]; exact h.1, fun t ht => ?_⟩
  obtain ⟨n, s, hs, rfl⟩ := refL_mem ht
  have hg := h.2 s (List.mem_of_getElem? hs)
  refine ⟨by show (refE n s.ents).length ≤ _; unfold refE; rw [List.length_map]; exact Nat.le_trans hg.len hN, fun e he => ?_⟩
  obtain ⟨e', he', rfl⟩ := List.mem_map.1 (show e ∈ s.ents.map _ from he)
  exact hg.short e' he'
theorem ref_addr {S : List MapS} (hk : ∀ s ∈ S, 1 ≤ s.key) : ∀ t ∈ refL S, 1 ≤ t.key ∧ ∀ e ∈ t.ents, 0 ≤ e.2 ∧ e.2 < 18446744073709551616 := fun t ht => by
  obtain ⟨n, s, hs, rfl⟩ := refL_mem ht
  refine ⟨hk s (List.mem_of_getElem? hs), fun e he => ?_⟩
  obtain ⟨e', _, rfl⟩ := List.mem_map.1 (show e ∈ s.ents.map _ from he)
  exact addr_range _ _
theorem keysLen_upd {S : List MapS} (h : KeysLen S) (i : Int) (key value : List Int) : KeysLen (updS S i key value) := by
  unfold updS
  cases hg : getP S i with
  | none => exact h
  | some s =>
    obtain ⟨hs, _, _⟩ := getP_mem3 hg
    dsimp only
    by_cases hk : (key.length : Int) = s.key ∧ (value.length : Int) = s.value
    · rw [if_pos hk]
      cases lookE s.ents key with
      | some z => exact h
      | none =>
        dsimp only
        split
        · exact h
        · intro t ht e he
          rcases List.mem_or_eq_of_mem_set ht with ht | rfl
          · exact h t ht e he
          · rcases List.mem_append.1 he with he | he
            · exact h s hs e he
            · simp at he
              subst he
              exact hk.1
    · rw [if_neg hk]; exact h
theorem keysLen_del {S : List MapS} (h : KeysLen S) (i : Int) (key : List Int) : KeysLen (delS S i key) := by
  unfold delS
  cases hg : getP S i with
  | none => exact h
  | some s =>
    obtain ⟨hs, _, _⟩ := getP_mem3 hg
    dsimp only
    split
    · cases lookE s.ents key with
      | none => exact h
      | some z =>
        intro t ht e he
        rcases List.mem_or_eq_of_mem_set ht with ht | rfl
        · exact h t ht e he
        · exact h s hs e (List.mem_filter.1 he).1
    · exact h
end Go.Proofs.Ytmkmldpcoonepaa.PAll
/- maps: the reference's maps, new. -/
set_option linter.unusedVariables false
set_option linter.unusedSimpArgs false
namespace Go.Proofs.Ytmkmldpcoonepaa.PAll
open Go.RowKit Go.Shelf Go.Maps Go.Proofs.YtmkmldpcoonepaaW.PrintWords Go.Proofs.YtmkmldpcoonepaaW.PrintLast Go.Proofs.YtmkmldpcoonepaaW.PrintMore
theorem lrs_new : ∀ (ds : List S42) (X : World) (own : Nat → Prop), (∀ k, ¬ own k) → (LRs (List.replicate ds.length nilV) (List.replicate ds.length []) (ds.map newS)).at_ X own
  | [], X, own, h => h
  | d :: ds, X, own, h => by
    refine ⟨fun _ => False, fun _ => False, fun k => ⟨fun hk => absurd hk (h k), fun hk => (hk.elim id id).elim⟩, fun k hk => hk.elim, ?_, lrs_new ds X _ (fun k hk => hk)⟩
    refine ⟨fun k => ⟨fun hk => hk.elim, fun hk => ?_⟩, rfl, List.nodup_nil, fun k hk => ?_, World.ownsRow_nil _ _ _ _, fun i q e hq he => ?_⟩
    · rcases hk with hk | hk
      · simp [nilV, Value.ownBlock] at hk
      · simp at hk
    · simp
    · simp at hq
theorem rp_new0 {X : World} {b mb : Nat} {v : Value} (ds : List S42) (h1 : X.heap[b]? = some (.cells #[.pointer (some ⟨mb, 0, none⟩), v] 70 (0, 0))) (h2 : X.ownsRow 0 94 6 v ds.length (rcells (ds.map newS) (List.replicate ds.length nilV))) :
    (RP b mb v (List.replicate ds.length nilV) (List.replicate ds.length []) (ds.map newS)).at_ X (fun k => k = b ∨ v.ownBlock = some k) :=
  ⟨fun k => k = b ∨ v.ownBlock = some k, fun _ => False, fun k => ⟨fun h => .inl h, fun h => h.elim id (fun h => h.elim)⟩, fun k _ h => h.elim, ⟨fun k => Iff.rfl, by simp, h1, by rw [List.length_map]; exact h2⟩, lrs_new ds X _ (fun k h => h)⟩
theorem refL_new (ds : List S42) : refL (ds.map newS) = ds.map newS := by
  apply List.ext_getElem?
  intro i
  rw [refL_at, List.getElem?_map]
  cases ds[i]? <;> rfl
theorem rmm_new {X X' : World} {fr : Nat → Prop} {mb : Nat} {R : List Reg} {v : Value} {ds : List S42} (h : Has X fr (RM mb R)) (hb : Below X.heap.size X X') (h1 : X'.heap[X.heap.size]? = some (.cells #[.pointer (some ⟨mb, 0, none⟩), v] 70 (0, 0))) (h2 : X'.ownsRow X.heap.size 94 6 v ds.length (rcells (ds.map newS) (List.replicate ds.length nilV))) : RMM X' fr X.heap.size mb (refL (ds.map newS)) R := by
  rw [refL_new]
  have ho : ∀ k, (k = X.heap.size ∨ v.ownBlock = some k) → X.heap.size ≤ k ∧ k < X'.heap.size := by
    rintro k (rfl | hk)
    · exact ⟨Nat.le_refl _, (Array.getElem?_eq_some_iff.1 h1).1⟩
    · exact ⟨own_base h2 k hk, own_lt h2 k hk⟩
  refine rmm_join (o1 := fun k => k = X.heap.size ∨ v.ownBlock = some k) ((h.more hb).weaken (fun k hk => hk.imp id (ho k))) (fun k hk hf => ?_) (rp_new0 ds h1 (own_weaken h2 (Nat.zero_le _)))
  have := (ho k hk).1
  have := h.fr k hf
  omega
end Go.Proofs.Ytmkmldpcoonepaa.PAll
/- maps: few. -/
set_option linter.unusedVariables false
set_option linter.unusedSimpArgs false
namespace Go.Proofs.Ytmkmldpcoonepaa.PAll
open Go.RowKit Go.Shelf Go.Maps Go.Proofs.YtmkmldpcoonepaaW.PrintWords Go.Proofs.YtmkmldpcoonepaaW.PrintLast Go.Proofs.YtmkmldpcoonepaaW.PrintMore
def fewM (l : List S66) : Bool := l.all fun o => decide (o.f2.length ≤ 300) && decide (o.f3.length ≤ 600)
theorem fewM_loop (l : List S66) (hl : l.length ≤ 40) : ∀ (n i k : Nat), i + n = l.length → n < k → slotcodelaw21_few.l0 k l (l.length : Int) (i : Int) = some (fewM (l.drop i)) := by
  intro n
  induction n with
  | zero =>
    intro i k hi hk
    obtain ⟨k, rfl⟩ : ∃ j, k = j + 1 := ⟨k - 1, by omega⟩
    unfold slotcodelaw21_few.l0
    rw [if_neg (by omega), List.drop_eq_nil_of_le (by omega)]
    rfl
  | succ n ih =>
    intro i k hi hk
    obtain ⟨k, rfl⟩ : ∃ j, k = j + 1 := ⟨k - 1, by omega⟩
    have hil : i < l.length := by omega
    have hd : l.drop i = l[i] :: l.drop (i + 1) := List.drop_eq_getElem_cons hil
    have hr : rd_T66 l (i : Int) = l[i] := by
      unfold rd_T66
      rw [Int.toNat_natCast, List.getD_eq_getElem?_getD, List.getElem?_eq_getElem hil]
      rfl
    unfold slotcodelaw21_few.l0
    rw [if_pos (by omega), if_pos (by omega), if_pos (by omega), hr, hd]
    have hw : wrap64 ((i : Int) + 1) = ((i + 1 : Nat) : Int) := by unfold wrap64; omega
    have hu : fewM (l[i] :: l.drop (i + 1)) = ((decide (l[i].f2.length ≤ 300) && decide (l[i].f3.length ≤ 600)) && fewM (l.drop (i + 1))) := by unfold fewM; rw [List.all_cons]
    rw [hu]
    by_cases hb : l[i].f2.length > 300
    · rw [if_pos (by omega), decide_eq_false (by omega), Bool.false_and, Bool.false_and]
    · rw [if_neg (by omega), decide_eq_true (by omega : l[i].f2.length ≤ 300), Bool.true_and]
      by_cases hb2 : l[i].f3.length > 600
      · rw [if_pos (by omega), decide_eq_false (by omega), Bool.false_and]
      · rw [if_neg (by omega), hw, ih (i + 1) k (by omega) (by omega), decide_eq_true (by omega : l[i].f3.length ≤ 600), Bool.true_and]
def fewMB (ds : List S42) (l : List S66) : Bool := decide (ds.length ≤ 20) && (decide (l.length ≤ 40) && fewM l)
theorem j0_eq (k : Nat) (l : List S66) (b : Bool) : slotcodelaw21_few.j0 (k + 1) l b = if b = true then (some false) else (slotcodelaw21_few.l0 k l (l.length : Int) 0) := by rw [slotcodelaw21_few.j0]
theorem fewM_f (ds : List S42) (l : List S66) : ∃ k, slotcodelaw21_few.f k ds l = some (fewMB ds l) := by
  refine ⟨l.length + 2, ?_⟩
  unfold slotcodelaw21_few.f fewMB
  by_cases hd : ds.length ≤ 20
  · rw [if_neg (by omega), decide_eq_true hd, Bool.true_and]
    rw [show l.length + 2 = (l.length + 1) + 1 from rfl, j0_eq]
    by_cases h : l.length ≤ 40
    · rw [decide_eq_false (by omega : ¬ (l.length : Int) > 40), if_neg Bool.false_ne_true, decide_eq_true h, Bool.true_and]
      exact fewM_loop l h l.length 0 _ (by omega) (by omega)
    · rw [decide_eq_true (by omega : (l.length : Int) > 40), if_pos rfl, decide_eq_false h, Bool.false_and]
  · rw [if_pos (by omega), decide_eq_false hd, Bool.false_and]
    rw [show l.length + 2 = (l.length + 1) + 1 from rfl, j0_eq]
    rw [if_pos rfl]
end Go.Proofs.Ytmkmldpcoonepaa.PAll
/- maps: the program's and the reference's maps and memories, side by side. -/
set_option linter.unusedVariables false
set_option linter.unusedSimpArgs false
namespace Go.Proofs.Ytmkmldpcoonepaa.PAll
open Go.RowKit Go.Shelf Go.Maps Go.Proofs.YtmkmldpcoonepaaW.PrintWords Go.Proofs.YtmkmldpcoonepaaW.PrintLast Go.Proofs.YtmkmldpcoonepaaW.PrintMore
def MRes (t m : Nat) (S : List MapS) (K : List Reg) : Res where
  at_ X own := ∃ v ps, ps.length = S.length ∧ ((MP t m v ps S).and (PM m K)).at_ X own
  keep := fun {X X' own} h hk => by
    obtain ⟨v, ps, h1, h2⟩ := h
    exact ⟨v, ps, h1, ((MP t m v ps S).and (PM m K)).keep h2 hk⟩
def RRes (b mb : Nat) (S : List MapS) (R : List Reg) : Res where
  at_ X own := ∃ v lvs qss, ((RP b mb v lvs qss S).and (RM mb R)).at_ X own
  keep := fun {X X' own} h hk => by
    obtain ⟨v, lvs, qss, h2⟩ := h
    exact ⟨v, lvs, qss, ((RP b mb v lvs qss S).and (RM mb R)).keep h2 hk⟩
theorem mres_iff {X : World} {fr : Nat → Prop} {t m : Nat} {S : List MapS} {K : List Reg} : Has X fr (MRes t m S K) ↔ MM X fr t m S K :=
  ⟨fun ⟨h0, own, h1, v, ps, h2, h3⟩ => ⟨v, ps, h2, h0, own, h1, h3⟩, fun ⟨v, ps, h2, h0, own, h1, h3⟩ => ⟨h0, own, h1, v, ps, h2, h3⟩⟩
theorem rres_iff {X : World} {fr : Nat → Prop} {b mb : Nat} {S : List MapS} {R : List Reg} : Has X fr (RRes b mb S R) ↔ RMM X fr b mb S R :=
  ⟨fun ⟨h0, own, h1, v, lvs, qss, h3⟩ => ⟨v, lvs, qss, h0, own, h1, h3⟩, fun ⟨v, lvs, qss, h0, own, h1, h3⟩ => ⟨h0, own, h1, v, lvs, qss, h3⟩⟩
/-! ### both, side by side -/
def Both (X : World) (fr : Nat → Prop) (t m b mb : Nat) (S : List MapS) (K : List Reg) (S2 : List MapS) (R : List Reg) : Prop := Has X fr ((MRes t m S K).and (RRes b mb S2 R))
theorem Both.mm {X : World} {fr : Nat → Prop} {t m b mb : Nat} {S S2 : List MapS} {K R : List Reg} (h : Both X fr t m b mb S K S2 R) : MM X fr t m S K := mres_iff.1 h.left
theorem Both.rmm {X : World} {fr : Nat → Prop} {t m b mb : Nat} {S S2 : List MapS} {K R : List Reg} (h : Both X fr t m b mb S K S2 R) : RMM X fr b mb S2 R := rres_iff.1 h.swap.left
theorem Both.below {X X' : World} {fr : Nat → Prop} {t m b mb : Nat} {S S2 : List MapS} {K R : List Reg} (h : Both X fr t m b mb S K S2 R) (hb : Below X.heap.size X X') : Both X' fr t m b mb S K S2 R := Has.below h hb
theorem Both.weaken {X : World} {fr fr' : Nat → Prop} {t m b mb : Nat} {S S2 : List MapS} {K R : List Reg} (h : Both X fr t m b mb S K S2 R) (hf : ∀ k, fr' k → fr k) : Both X fr' t m b mb S K S2 R := Has.weaken h hf
theorem Both.alloc {X : World} {fr : Nat → Prop} {t m b mb : Nat} {S S2 : List MapS} {K R : List Reg} (h : Both X fr t m b mb S K S2 R) (o : Obj) : Both (X.alloc o) (fun k => fr k ∨ k = X.heap.size) t m b mb S K S2 R :=
  (Has.more h (below_alloc (Below.refl _ _) o)).weaken (fun k hk => hk.imp id (fun e => by subst e; exact ⟨Nat.le_refl _, by simp⟩))
theorem Both.dl {X : World} {fr : Nat → Prop} {t m b mb : Nat} {S S2 : List MapS} {K R : List Reg} (h : Both X fr t m b mb S K S2 R) : DL K := by
  obtain ⟨v, ps, _, h2⟩ := h.mm
  exact h2.swap.left.dlP
/-- The reference's blocks: the maps point to the memory, the memory's list has its length. -/
theorem Both.rblk {X : World} {fr : Nat → Prop} {t m b mb : Nat} {S S2 : List MapS} {K R : List Reg} (h : Both X fr t m b mb S K S2 R) : X.cell? ⟨b, 0, none⟩ = some (.pointer (some ⟨mb, 0, none⟩)) ∧ ∃ A c, X.cell? ⟨mb, 0, none⟩ = some (.slice A R.length c) := by
  obtain ⟨v, lvs, qss, h2⟩ := h.rmm
  obtain ⟨_, own, _, h3⟩ := h2.left
  obtain ⟨A, c, rfl, hc, _⟩ := rp_head h3
  obtain ⟨_, own', _, ⟨v', ps, h4⟩, _⟩ := h2.swap.left
  obtain ⟨A', c', rfl⟩ := own_slice h4.row
  exact ⟨hc, A', c', (blk1 h4.blk).1⟩
/-! ### the operations of either -/
theorem both_upd (X : World) (fr : Nat → Prop) (t m b mb : Nat) (S : List MapS) (K : List Reg) (S2 : List MapS) (R : List Reg) (N : Nat) (i : Int) (A1 A2 : Option Addr) (c1 c2 : Nat) (key value : List Int) (h : Both X fr t m b mb S K S2 R) (hS : GoodS N S) (hN : N ≤ 100000) (hK : K.length ≤ 99999)
    (hk : ∀ X', Kept fr X X' → Kd.C (Kd.int .u8) X' A1 key.length key) (hkb : IsBytes key) (hv : ∀ X', Kept fr X X' → Kd.C (Kd.int .u8) X' A2 value.length value) (hvb : IsBytes value) (hvc : value.length ≤ c2) (hvs : value.length ≤ 65536) :
    Calls Try.prog 19 #[.pointer (some ⟨t, 0, none⟩), .int .i64 i, .slice A1 key.length c1, .slice A2 value.length c2] X fun e X' => e = .returned (.int .i64 (updR S i key value)) ∧ Both X' fr t m b mb (updS S i key value) (updK S K i key value) S2 R ∧ Kept fr X X' :=
  frameC (E := fun e _ => e = .returned (.int .i64 (updR S i key value))) (R' := MRes t m (updS S i key value) (updK S K i key value)) h fun fr' hf hh => (mm_update X fr' t m S K N i A1 A2 c1 c2 key value (mres_iff.1 hh) hS hN hK (fun X' hk' => hk X' (hk'.mono hf)) hkb (fun X' hk' => hv X' (hk'.mono hf)) hvb hvc hvs).mono fun e X' ⟨he, hm, hk⟩ => ⟨he, mres_iff.2 hm, hk⟩
theorem both_rupd (X : World) (fr : Nat → Prop) (t m b mb : Nat) (S : List MapS) (K : List Reg) (S2 : List MapS) (R : List Reg) (i : Int) (A1 A2 : Option Addr) (c1 c2 : Nat) (key value : List Int) (h : Both X fr t m b mb S K S2 R) (hS : RGood S2) (hR : R.length ≤ 99999) (hSk : ∀ s ∈ S2, 1 ≤ s.key ∧ ∀ e ∈ s.ents, 0 ≤ e.2 ∧ e.2 < 18446744073709551616)
    (hk : ∀ X', Kept fr X X' → Kd.C (Kd.int .u8) X' A1 key.length key) (hkc : key.length ≤ c1) (hkl : key.length ≤ 65536)
    (hv : ∀ X', Kept fr X X' → Kd.C (Kd.int .u8) X' A2 value.length value) (hvb : IsBytes value) (hvs : value.length ≤ 65536) (hvc : value.length ≤ c2) (hA : 0 < value.length → ∀ ad, A2 = some ad → fr ad.block) :
    Calls Try.prog 42 #[.pointer (some ⟨b, 0, none⟩), .int .i64 i, .slice A1 key.length c1, .slice A2 value.length c2] X fun e X' => e = .returned (.int .i64 (rupdR S2 i key value)) ∧ Both X' fr t m b mb S K (rupdS S2 i key value) (rupdK S2 R i key value) ∧ Kept fr X X' :=
  (frameC (E := fun e _ => e = .returned (.int .i64 (rupdR S2 i key value))) (R' := RRes b mb (rupdS S2 i key value) (rupdK S2 R i key value)) (Has.swap h) fun fr' hf hh => (rupdate_c X fr' b mb S2 R i A1 A2 c1 c2 key value (rres_iff.1 hh) hS hR hSk (fun X' hk' => hk X' (hk'.mono hf)) hkc hkl (fun X' hk' => hv X' (hk'.mono hf)) hvb hvs hvc (fun hp ad e => hf _ (hA hp ad e))).mono fun e X' ⟨he, hm, hk⟩ => ⟨he, rres_iff.2 hm, hk⟩).mono fun e X' ⟨he, hm, hk⟩ => ⟨he, hm.swap, hk⟩
theorem both_del (X : World) (fr : Nat → Prop) (t m b mb : Nat) (S : List MapS) (K : List Reg) (S2 : List MapS) (R : List Reg) (N : Nat) (i : Int) (A1 : Option Addr) (c1 : Nat) (key : List Int) (h : Both X fr t m b mb S K S2 R) (hS : GoodS N S) (hN : N ≤ 100000) (hK : K.length ≤ 99999)
    (hk : ∀ X', Kept fr X X' → Kd.C (Kd.int .u8) X' A1 key.length key) (hkb : IsBytes key) :
    Calls Try.prog 22 #[.pointer (some ⟨t, 0, none⟩), .int .i64 i, .slice A1 key.length c1] X fun e X' => e = .returned (.int .i64 (delR S i key)) ∧ Both X' fr t m b mb (delS S i key) (delK S K i key) S2 R ∧ Kept fr X X' :=
  frameC (E := fun e _ => e = .returned (.int .i64 (delR S i key))) (R' := MRes t m (delS S i key) (delK S K i key)) h fun fr' hf hh => (mm_delete X fr' t m S K N i A1 c1 key (mres_iff.1 hh) hS hN hK (fun X' hk' => hk X' (hk'.mono hf)) hkb).mono fun e X' ⟨he, hm, hk⟩ => ⟨he, mres_iff.2 hm, hk⟩
theorem both_rdel (X : World) (fr : Nat → Prop) (t m b mb : Nat) (S : List MapS) (K : List Reg) (S2 : List MapS) (R : List Reg) (i : Int) (A1 : Option Addr) (c1 : Nat) (key : List Int) (h : Both X fr t m b mb S K S2 R) (hS : RGood S2) (hR : R.length ≤ 99999)
    (hk : Kd.C (Kd.int .u8) X A1 key.length key) (hkc : key.length ≤ c1) (hkl : key.length ≤ 65536) :
    Calls Try.prog 44 #[.pointer (some ⟨b, 0, none⟩), .int .i64 i, .slice A1 key.length c1] X fun e X' => e = .returned (.int .i64 (rdelR S2 i key)) ∧ Both X' fr t m b mb S K (rdelS S2 i key) (rdelK S2 R i key) ∧ Kept fr X X' :=
  (frameC (E := fun e _ => e = .returned (.int .i64 (rdelR S2 i key))) (R' := RRes b mb (rdelS S2 i key) (rdelK S2 R i key)) (Has.swap h) fun fr' hf hh => (rdelete_c X fr' b mb S2 R i A1 c1 key (rres_iff.1 hh) hS hR hk hkc hkl).mono fun e X' ⟨he, hm, hk⟩ => ⟨he, rres_iff.2 hm, hk⟩).mono fun e X' ⟨he, hm, hk⟩ => ⟨he, hm.swap, hk⟩
theorem both_write (X : World) (fr : Nat → Prop) (t m b mb : Nat) (S : List MapS) (K : List Reg) (S2 : List MapS) (R : List Reg) (a n x : Int) (h : Both X fr t m b mb S K S2 R) (hK : K.length ≤ 99999) (ha0 : 0 ≤ a) (ha1 : a < 18446744073709551616) (hx0 : 0 ≤ x) (hx1 : x < 18446744073709551616) :
    Calls Try.prog 45 #[.pointer (some ⟨m, 0, none⟩), .int .u64 a, .int .i64 n, .int .u64 x] X fun e X' => e = .returned (.bool (wrB K a n x)) ∧ Both X' fr t m b mb S (wrG K a n x) S2 R ∧ Kept fr X X' :=
  frameC (E := fun e _ => e = .returned (.bool (wrB K a n x))) (R' := MRes t m S (wrG K a n x)) h fun fr' hf hh => (mm_write X fr' t m S K a n x (mres_iff.1 hh) (by omega) ha0 ha1 hx0 hx1).mono fun e X' ⟨he, hm, hk⟩ => ⟨he, mres_iff.2 hm, hk⟩
theorem rmm_write (X : World) (fr : Nat → Prop) (b mb : Nat) (S : List MapS) (R : List Reg) (a n x : Int) (h : RMM X fr b mb S R) (hl : R.length ≤ 999999) (ha0 : 0 ≤ a) (ha1 : a < 18446744073709551616) (hn0 : -9223372036854775808 ≤ n) (hn1 : n < 9223372036854775808) (hx0 : 0 ≤ x) (hx1 : x < 18446744073709551616) :
    Calls Try.prog 46 #[.pointer (some ⟨mb, 0, none⟩), .int .u64 a, .int .i64 n, .int .u64 x] X fun e X' => e = .returned (.bool (wrB R a n x)) ∧ RMM X' fr b mb S (wrG R a n x) ∧ Kept fr X X' := by
  obtain ⟨v, lvs, qss, h2⟩ := h
  refine (frameC h2.swap (E := fun e _ => e = .returned (.bool (wrB R a n x))) (R' := RM mb (wrG R a n x)) (fun fr' _ hh => rm_write X fr' mb R a n x hh hl ha0 ha1 hn0 hn1 hx0 hx1)).mono ?_
  rintro e X' ⟨he, hm, hk⟩
  exact ⟨he, ⟨v, lvs, qss, hm.swap⟩, hk⟩
theorem both_rwrite (X : World) (fr : Nat → Prop) (t m b mb : Nat) (S : List MapS) (K : List Reg) (S2 : List MapS) (R : List Reg) (a n x : Int) (h : Both X fr t m b mb S K S2 R) (hR : R.length ≤ 99999) (ha0 : 0 ≤ a) (ha1 : a < 18446744073709551616) (hn0 : -9223372036854775808 ≤ n) (hn1 : n < 9223372036854775808) (hx0 : 0 ≤ x) (hx1 : x < 18446744073709551616) :
    Calls Try.prog 46 #[.pointer (some ⟨mb, 0, none⟩), .int .u64 a, .int .i64 n, .int .u64 x] X fun e X' => e = .returned (.bool (wrB R a n x)) ∧ Both X' fr t m b mb S K S2 (wrG R a n x) ∧ Kept fr X X' :=
  (frameC (E := fun e _ => e = .returned (.bool (wrB R a n x))) (R' := RRes b mb S2 (wrG R a n x)) (Has.swap h) fun fr' hf hh => (rmm_write X fr' b mb S2 R a n x (rres_iff.1 hh) (by omega) ha0 ha1 hn0 hn1 hx0 hx1).mono fun e X' ⟨he, hm, hk⟩ => ⟨he, rres_iff.2 hm, hk⟩).mono fun e X' ⟨he, hm, hk⟩ => ⟨he, hm.swap, hk⟩
theorem both_look (X : World) (fr : Nat → Prop) (t m b mb : Nat) (S : List MapS) (K : List Reg) (S2 : List MapS) (R : List Reg) (i : Int) (A1 : Option Addr) (c1 : Nat) (key : List Int) (h : Both X fr t m b mb S K S2 R) (hS : S.length ≤ 255) (hk : Kd.C (Kd.int .u8) X A1 key.length key) (hkb : IsBytes key) :
    Calls Try.prog 20 #[.pointer (some ⟨t, 0, none⟩), .int .i64 i, .slice A1 key.length c1] X fun e X' => e = .returned (.int .u64 (lookF S i key)) ∧ ∃ k, X' = X.drewN k := mm_lookup X fr t m S K i A1 c1 key h.mm hS hk hkb
theorem both_rlook (X : World) (fr : Nat → Prop) (t m b mb : Nat) (S : List MapS) (K : List Reg) (S2 : List MapS) (R : List Reg) (i : Int) (A1 : Option Addr) (c1 : Nat) (key : List Int) (h : Both X fr t m b mb S K S2 R) (hS : RGood S2) (hk : Kd.C (Kd.int .u8) X A1 key.length key) (hkc : key.length ≤ c1) (hkl : key.length ≤ 65536) :
    Calls Try.prog 43 #[.pointer (some ⟨b, 0, none⟩), .int .i64 i, .slice A1 key.length c1] X fun e X' => e = .returned (.int .u64 (rlookF S2 i key)) ∧ ∃ k, X' = X.drewN k := by
  obtain ⟨v, lvs, qss, h2⟩ := h.rmm
  obtain ⟨_, own, _, h3⟩ := h2.left
  exact rlookup_c X own b mb v lvs qss S2 i A1 c1 key h3 hS hk hkc hkl _ rfl
/-! ### what is kept true of both -/
theorem lookF_range (S : List MapS) (i : Int) (key : List Int) : 0 ≤ lookF S i key ∧ lookF S i key < 18446744073709551616 := by
  unfold lookF
  cases getP S i with
  | none => exact ⟨Int.le_refl _, by show (0:Int) < _; decide⟩
  | some s =>
    dsimp only
    cases lookE s.ents key with
    | none => exact ⟨Int.le_refl _, by show (0:Int) < _; decide⟩
    | some n => exact addr_range _ _
theorem wrB_permR {K R : List Reg} (hp : K.Perm R) (a n x : Int) : wrB K a n x = wrB R a n x := by unfold wrB; rw [any_perm hp]
theorem wrG_permR {K R : List Reg} (hp : K.Perm R) (a n x : Int) : (wrG K a n x).Perm (wrG R a n x) := by
  unfold wrG
  by_cases h : numB n = true
  · rw [if_pos h, if_pos h]; exact put_perm hp a _
  · rw [if_neg h, if_neg h]; exact hp
theorem wrG_lenR (K : List Reg) (a n x : Int) : (wrG K a n x).length = K.length := by
  unfold wrG
  split
  · simp [putG]
  · rfl
theorem updK_len (S : List MapS) (K : List Reg) (i : Int) (key value : List Int) : (updK S K i key value).length ≤ K.length + 1 := by
  unfold updK
  cases getP S i with
  | none => exact Nat.le_succ _
  | some s =>
    dsimp only
    split
    · cases lookE s.ents key with
      | some z => exact Nat.le_succ_of_le (by simp [putG])
      | none =>
        dsimp only
        split
        · exact Nat.le_succ _
        · unfold addG
          split <;> simp
    · exact Nat.le_succ _
theorem delK_len (S : List MapS) (K : List Reg) (i : Int) (key : List Int) : (delK S K i key).length ≤ K.length := by
  unfold delK
  cases getP S i with
  | none => exact Nat.le_refl _
  | some s =>
    dsimp only
    split
    · cases lookE s.ents key with
      | some z => exact List.length_filter_le _ _
      | none => exact Nat.le_refl _
    · exact Nat.le_refl _
theorem updS_key {S : List MapS} (h : ∀ s ∈ S, 1 ≤ s.key) (i : Int) (key value : List Int) : ∀ s ∈ updS S i key value, 1 ≤ s.key := by
  unfold updS
  cases hg : getP S i with
  | none => exact h
  | some s =>
    dsimp only
    split
    · cases lookE s.ents key with
      | some z => exact h
      | none =>
        dsimp only
        split
        · exact h
        · intro s' hs'
          rcases mem_set' hs' with hs' | rfl
          · exact h s' hs'
          · exact h s (getP_mem hg)
    · exact h
theorem delS_key {S : List MapS} (h : ∀ s ∈ S, 1 ≤ s.key) (i : Int) (key : List Int) : ∀ s ∈ delS S i key, 1 ≤ s.key := by
  unfold delS
  cases hg : getP S i with
  | none => exact h
  | some s =>
    dsimp only
    split
    · cases lookE s.ents key with
      | none => exact h
      | some z =>
        intro s' hs'
        rcases mem_set' hs' with hs' | rfl
        · exact h s' hs'
        · exact h s (getP_mem hg)
    · exact h
structure Sim (N : Nat) (S : List MapS) (K R : List Reg) : Prop where
  good : GoodS N S
  keys : KeysLen S
  key1 : ∀ s ∈ S, 1 ≤ s.key
  perm : K.Perm R
  len : K.length ≤ N
theorem GoodS.more {N M : Nat} {S : List MapS} (h : GoodS N S) (hM : N ≤ M) : GoodS M S := ⟨h.1, fun s hs => (h.2 s hs).more hM⟩
theorem Sim.succ {N : Nat} {S : List MapS} {K R : List Reg} (h : Sim N S K R) : Sim (N + 1) S K R := ⟨h.good.more (Nat.le_succ _), h.keys, h.key1, h.perm, Nat.le_succ_of_le h.len⟩
theorem Sim.upd {N : Nat} {S : List MapS} {K R : List Reg} (h : Sim N S K R) (hN : N ≤ 100000) (i : Int) (key value : List Int) (hl : key.length ≤ 65536) : Sim (N + 1) (updS S i key value) (updK S K i key value) (rupdK (refL S) R i key value) :=
  ⟨h.good.upd hN i key value hl, keysLen_upd h.keys i key value, updS_key h.key1 i key value, ref_updK h.perm i key value, Nat.le_trans (updK_len _ _ _ _ _) (Nat.succ_le_succ h.len)⟩
theorem Sim.del {N : Nat} {S : List MapS} {K R : List Reg} (h : Sim N S K R) (i : Int) (key : List Int) : Sim (N + 1) (delS S i key) (delK S K i key) (rdelK (refL S) R i key) :=
  ⟨(h.good.del i key).more (Nat.le_succ _), keysLen_del h.keys i key, delS_key h.key1 i key, ref_delK h.perm i key, Nat.le_succ_of_le (Nat.le_trans (delK_len _ _ _ _) h.len)⟩
theorem Sim.write {N : Nat} {S : List MapS} {K R : List Reg} (h : Sim N S K R) (a n x : Int) : Sim (N + 1) S (wrG K a n x) (wrG R a n x) :=
  ⟨h.good.more (Nat.le_succ _), h.keys, h.key1, wrG_permR h.perm a n x, by rw [wrG_lenR]; exact Nat.le_succ_of_le h.len⟩
end Go.Proofs.Ytmkmldpcoonepaa.PAll
/- maps: the law's do: one operation on both maps. -/
set_option linter.unusedVariables false
set_option linter.unusedSimpArgs false
namespace Go.Proofs.Ytmkmldpcoonepaa.PAll
open Go.RowKit Go.Shelf Go.Maps Go.Proofs.YtmkmldpcoonepaaW.PrintWords Go.Proofs.YtmkmldpcoonepaaW.PrintLast Go.Proofs.YtmkmldpcoonepaaW.PrintMore
/-- What an operation leaves: no difference, and both maps alike. -/
def DoPost (W : World) (fr : Nat → Prop) (t m b mb N n : Nat) (e : Ending) (W' : World) : Prop :=
  e = .returned (.bool false) ∧ ∃ S' K' R', Both W' fr t m b mb S' K' (refL S') R' ∧ Sim (N + 1) S' K' R' ∧ S'.length = n ∧ Kept fr W W'
set_option maxHeartbeats 4000000 in
set_option maxRecDepth 100000 in
theorem do_upd (W : World) (fr : Nat → Prop) (t m b mb N : Nat) (S : List MapS) (K R : List Reg) (i : Int) (A1 A2 : Option Addr) (c1 c2 : Nat) (key value : List Int) (h : Both W fr t m b mb S K (refL S) R) (hs : Sim N S K R) (hN : N ≤ 1000) (hkc : key.length ≤ c1) (hkl : key.length ≤ 300) (hkb : IsBytes key) (hvc : value.length ≤ c2) (hvl : value.length ≤ 600) (hvb : IsBytes value)
    (hk : ∀ X', Kept fr W X' → Kd.C (Kd.int .u8) X' A1 key.length key) (hv : ∀ X', Kept fr W X' → Kd.C (Kd.int .u8) X' A2 value.length value) (hA : 0 < value.length → ∀ ad, A2 = some ad → fr ad.block) :
    Calls Try.prog 28 #[.pointer (some ⟨t, 0, none⟩), .pointer (some ⟨m, 0, none⟩), .pointer (some ⟨b, 0, none⟩), .agg #[.int .i64 0, .int .i64 i, .slice A1 key.length c1, .slice A2 value.length c2]] W (DoPost W fr t m b mb N S.length) := by
  obtain ⟨q, hq⟩ : ∃ q, updR S i key value = q := ⟨_, rfl⟩
  have hq2 : rupdR (refL S) i key value = q := by rw [ref_updR]; exact hq
  have hg := ref_good hs.good (by omega)
  have ha := ref_addr hs.key1
  obtain ⟨W1, hW1⟩ : ∃ W1, W.alloc (.cells #[.int .i64 0, .int .i64 i, .slice A1 key.length c1, .slice A2 value.length c2] 66) = W1 := ⟨_, rfl⟩
  obtain ⟨ob, hob⟩ : ∃ ob, W.heap.size = ob := ⟨_, rfl⟩
  have hT1 : Both W1 (fun k => fr k ∨ k = ob) t m b mb S K (refL S) R := by rw [← hW1, ← hob]; exact h.alloc _
  have hB1 : Below W.heap.size W W1 := by rw [← hW1]; exact below_alloc (Below.refl _ _) _
  have hbk : W1.heap[ob]? = some (.cells #[.int .i64 0, .int .i64 i, .slice A1 key.length c1, .slice A2 value.length c2] 66 (0, 0)) := by rw [← hW1, ← hob]; exact heap_alloc_new W _
  have hKK : ∀ w, Kept (fun k => fr k ∨ k = ob) W1 w → Kept fr W w := fun w hw => (below_kept hB1 fr).trans (hw.mono (fun k hk => .inl hk))
  have HA : Aside0 (∀ w R', (w.cell? ⟨ob, 1, none⟩ = some (.int .i64 i) ∧ w.cell? ⟨ob, 2, none⟩ = some (.slice A1 key.length c1) ∧ w.cell? ⟨ob, 3, none⟩ = some (.slice A2 value.length c2)) → ∀ S', Kept (fun k => fr k ∨ k = ob) W1 w → Both w (fun k => fr k ∨ k = ob) t m b mb S K S' R' → Calls Try.prog 19 #[.pointer (some ⟨t, 0, none⟩), .int .i64 i, .slice A1 key.length c1, .slice A2 value.length c2] w fun e w' => e = .returned (.int .i64 q) ∧ (w'.cell? ⟨ob, 1, none⟩ = some (.int .i64 i) ∧ w'.cell? ⟨ob, 2, none⟩ = some (.slice A1 key.length c1) ∧ w'.cell? ⟨ob, 3, none⟩ = some (.slice A2 value.length c2)) ∧ Kept (fun k => fr k ∨ k = ob) W1 w' ∧ Both w' (fun k => fr k ∨ k = ob) t m b mb (updS S i key value) (updK S K i key value) S' R') := ⟨fun w R' hS S' hO hT => by
    refine (both_upd w _ t m b mb S K S' R' N i A1 A2 c1 c2 key value hT hs.good (by omega) (Nat.le_trans hs.len (by omega)) (fun X' hX => hk X' ((hKK w hO).trans (hX.mono (fun k hk => .inl hk)))) hkb (fun X' hX => hv X' ((hKK w hO).trans (hX.mono (fun k hk => .inl hk)))) hvb hvc (by omega)).mono ?_
    rintro e w' ⟨he, hT', hO'⟩
    rw [hq] at he
    exact ⟨he, ⟨hO'.cell (.inr rfl) hS.1, hO'.cell (.inr rfl) hS.2.1, hO'.cell (.inr rfl) hS.2.2⟩, hO.trans hO', hT'⟩⟩
  have HR : Aside0 (∀ w K', (w.cell? ⟨ob, 1, none⟩ = some (.int .i64 i) ∧ w.cell? ⟨ob, 2, none⟩ = some (.slice A1 key.length c1) ∧ w.cell? ⟨ob, 3, none⟩ = some (.slice A2 value.length c2)) → ∀ S', Kept (fun k => fr k ∨ k = ob) W1 w → Both w (fun k => fr k ∨ k = ob) t m b mb S' K' (refL S) R → Calls Try.prog 42 #[.pointer (some ⟨b, 0, none⟩), .int .i64 i, .slice A1 key.length c1, .slice A2 value.length c2] w fun e w' => e = .returned (.int .i64 q) ∧ (w'.cell? ⟨ob, 1, none⟩ = some (.int .i64 i) ∧ w'.cell? ⟨ob, 2, none⟩ = some (.slice A1 key.length c1) ∧ w'.cell? ⟨ob, 3, none⟩ = some (.slice A2 value.length c2)) ∧ Kept (fun k => fr k ∨ k = ob) W1 w' ∧ Both w' (fun k => fr k ∨ k = ob) t m b mb S' K' (rupdS (refL S) i key value) (rupdK (refL S) R i key value)) := ⟨fun w K' hS S' hO hT => by
    refine (both_rupd w _ t m b mb S' K' (refL S) R i A1 A2 c1 c2 key value hT hg (by rw [← hs.perm.length_eq]; exact Nat.le_trans hs.len (by omega)) ha (fun X' hX => hk X' ((hKK w hO).trans (hX.mono (fun k hk => .inl hk)))) hkc (by omega) (fun X' hX => hv X' ((hKK w hO).trans (hX.mono (fun k hk => .inl hk)))) hvb (by omega) hvc (fun hp ad e => .inl (hA hp ad e))).mono ?_
    rintro e w' ⟨he, hT', hO'⟩
    rw [hq2] at he
    exact ⟨he, ⟨hO'.cell (.inr rfl) hS.1, hO'.cell (.inr rfl) hS.2.1, hO'.cell (.inr rfl) hS.2.2⟩, hO.trans hO', hT'⟩⟩
  have HFIN : Aside0 (∀ w, Kept (fun k => fr k ∨ k = ob) W1 w → Both w (fun k => fr k ∨ k = ob) t m b mb (updS S i key value) (updK S K i key value) (rupdS (refL S) i key value) (rupdK (refL S) R i key value) → DoPost W fr t m b mb N S.length (.returned (.bool false)) w) := ⟨fun w hO hT => ⟨rfl, _, _, _, by rw [ref_updS] at hT; exact hT.weaken (fun k h => .inl h), hs.upd (by omega) i key value (by omega), upd_len _ _ _ _, hKK w hO⟩⟩
  have hc1 : W1.drew.cell? ⟨ob, 1, none⟩ = some (.int .i64 i) := (blk_cell hbk 1).trans rfl
  have hc2 : W1.drew.cell? ⟨ob, 2, none⟩ = some (.slice A1 key.length c1) := (blk_cell hbk 2).trans rfl
  have hc3 : W1.drew.cell? ⟨ob, 3, none⟩ = some (.slice A2 value.length c2) := (blk_cell hbk 3).trans rfl
  have hO1 : Kept (fun k => fr k ∨ k = ob) W1 W1.drew := (Out.refl _ _).drew
  have hT1d : Both W1.drew (fun k => fr k ∨ k = ob) t m b mb S K (refL S) R := hT1.below (below_drew (Below.refl _ _))
  have HW1 := Aside0.mk hW1
  have HOB := Aside0.mk hob
  clear h hs hg ha hq hq2 hk hv hA hkb hvb hkc hkl hvc hvl hN hT1 hbk hB1 hKK hW1 hob
  go_enter Try.func28, Try.ntmps28
  go_wp2_with fail
  rw [HW1.out, HOB.out]
  go_region_held3 (fun w' => w'.cell? ⟨ob, 1, none⟩ = some (.int .i64 i) ∧ w'.cell? ⟨ob, 2, none⟩ = some (.slice A1 key.length c1) ∧ w'.cell? ⟨ob, 3, none⟩ = some (.slice A2 value.length c2)) (first | assumption | (refine ⟨?_, ?_, ?_⟩ <;> assumption)) (first | (go_at_call 19; refine (HA.out _ _ (by assumption) _ (by assumption) (by assumption)).mono ?_; rintro e w1 ⟨rfl, hS1, hOa, hTa⟩) | (go_at_call 42; refine (HR.out _ _ (by assumption) _ (by assumption) (by assumption)).mono ?_; rintro e w2 ⟨rfl, hS2, hOb, hTb⟩))
  all_goals
    first
      | have HQ := Aside0.mk (HFIN.out _ hOb hTb)
      | have HQ := Aside0.mk (HFIN.out _ hOa hTa)
    have hqq : (q != q) = false := bne_self_eq_false _
    go_wp2_with fail
    go_ret
    exact HQ.out
set_option maxHeartbeats 4000000 in
set_option maxRecDepth 100000 in
theorem do_del (W : World) (fr : Nat → Prop) (t m b mb N : Nat) (S : List MapS) (K R : List Reg) (i : Int) (A1 A2 : Option Addr) (c1 c2 : Nat) (key value : List Int) (h : Both W fr t m b mb S K (refL S) R) (hs : Sim N S K R) (hN : N ≤ 1000) (hkc : key.length ≤ c1) (hkl : key.length ≤ 300) (hkb : IsBytes key)
    (hk : ∀ X', Kept fr W X' → Kd.C (Kd.int .u8) X' A1 key.length key) :
    Calls Try.prog 28 #[.pointer (some ⟨t, 0, none⟩), .pointer (some ⟨m, 0, none⟩), .pointer (some ⟨b, 0, none⟩), .agg #[.int .i64 2, .int .i64 i, .slice A1 key.length c1, .slice A2 value.length c2]] W (DoPost W fr t m b mb N S.length) := by
  obtain ⟨q, hq⟩ : ∃ q, delR S i key = q := ⟨_, rfl⟩
  have hq2 : rdelR (refL S) i key = q := by rw [ref_delR]; exact hq
  have hg := ref_good hs.good (by omega)
  obtain ⟨W1, hW1⟩ : ∃ W1, W.alloc (.cells #[.int .i64 2, .int .i64 i, .slice A1 key.length c1, .slice A2 value.length c2] 66) = W1 := ⟨_, rfl⟩
  obtain ⟨ob, hob⟩ : ∃ ob, W.heap.size = ob := ⟨_, rfl⟩
  have hT1 : Both W1 (fun k => fr k ∨ k = ob) t m b mb S K (refL S) R := by rw [← hW1, ← hob]; exact h.alloc _
  have hB1 : Below W.heap.size W W1 := by rw [← hW1]; exact below_alloc (Below.refl _ _) _
  have hbk : W1.heap[ob]? = some (.cells #[.int .i64 2, .int .i64 i, .slice A1 key.length c1, .slice A2 value.length c2] 66 (0, 0)) := by rw [← hW1, ← hob]; exact heap_alloc_new W _
  have hKK : ∀ w, Kept (fun k => fr k ∨ k = ob) W1 w → Kept fr W w := fun w hw => (below_kept hB1 fr).trans (hw.mono (fun k hk => .inl hk))
  have HA : Aside0 (∀ w R', (w.cell? ⟨ob, 1, none⟩ = some (.int .i64 i) ∧ w.cell? ⟨ob, 2, none⟩ = some (.slice A1 key.length c1)) → ∀ S', Kept (fun k => fr k ∨ k = ob) W1 w → Both w (fun k => fr k ∨ k = ob) t m b mb S K S' R' → Calls Try.prog 22 #[.pointer (some ⟨t, 0, none⟩), .int .i64 i, .slice A1 key.length c1] w fun e w' => e = .returned (.int .i64 q) ∧ (w'.cell? ⟨ob, 1, none⟩ = some (.int .i64 i) ∧ w'.cell? ⟨ob, 2, none⟩ = some (.slice A1 key.length c1)) ∧ Kept (fun k => fr k ∨ k = ob) W1 w' ∧ Both w' (fun k => fr k ∨ k = ob) t m b mb (delS S i key) (delK S K i key) S' R') := ⟨fun w R' hS S' hO hT => by
    refine (both_del w _ t m b mb S K S' R' N i A1 c1 key hT hs.good (by omega) (Nat.le_trans hs.len (by omega)) (fun X' hX => hk X' ((hKK w hO).trans (hX.mono (fun k hk => .inl hk)))) hkb).mono ?_
    rintro e w' ⟨he, hT', hO'⟩
    rw [hq] at he
    exact ⟨he, ⟨hO'.cell (.inr rfl) hS.1, hO'.cell (.inr rfl) hS.2⟩, hO.trans hO', hT'⟩⟩
  have HR : Aside0 (∀ w K', (w.cell? ⟨ob, 1, none⟩ = some (.int .i64 i) ∧ w.cell? ⟨ob, 2, none⟩ = some (.slice A1 key.length c1)) → ∀ S', Kept (fun k => fr k ∨ k = ob) W1 w → Both w (fun k => fr k ∨ k = ob) t m b mb S' K' (refL S) R → Calls Try.prog 44 #[.pointer (some ⟨b, 0, none⟩), .int .i64 i, .slice A1 key.length c1] w fun e w' => e = .returned (.int .i64 q) ∧ (w'.cell? ⟨ob, 1, none⟩ = some (.int .i64 i) ∧ w'.cell? ⟨ob, 2, none⟩ = some (.slice A1 key.length c1)) ∧ Kept (fun k => fr k ∨ k = ob) W1 w' ∧ Both w' (fun k => fr k ∨ k = ob) t m b mb S' K' (rdelS (refL S) i key) (rdelK (refL S) R i key)) := ⟨fun w K' hS S' hO hT => by
    refine (both_rdel w _ t m b mb S' K' (refL S) R i A1 c1 key hT hg (by rw [← hs.perm.length_eq]; exact Nat.le_trans hs.len (by omega)) (hk w (hKK w hO)) hkc (by omega)).mono ?_
    rintro e w' ⟨he, hT', hO'⟩
    rw [hq2] at he
    exact ⟨he, ⟨hO'.cell (.inr rfl) hS.1, hO'.cell (.inr rfl) hS.2⟩, hO.trans hO', hT'⟩⟩
  have HFIN : Aside0 (∀ w, Kept (fun k => fr k ∨ k = ob) W1 w → Both w (fun k => fr k ∨ k = ob) t m b mb (delS S i key) (delK S K i key) (rdelS (refL S) i key) (rdelK (refL S) R i key) → DoPost W fr t m b mb N S.length (.returned (.bool false)) w) := ⟨fun w hO hT => ⟨rfl, _, _, _, by rw [ref_delS (fun s h => (hs.good.2 s h).nd)] at hT; exact hT.weaken (fun k h => .inl h), hs.del i key, del_len _ _ _, hKK w hO⟩⟩
  have hc1 : W1.drew.cell? ⟨ob, 1, none⟩ = some (.int .i64 i) := (blk_cell hbk 1).trans rfl
  have hc2 : W1.drew.cell? ⟨ob, 2, none⟩ = some (.slice A1 key.length c1) := (blk_cell hbk 2).trans rfl
  have hO1 : Kept (fun k => fr k ∨ k = ob) W1 W1.drew := (Out.refl _ _).drew
  have hT1d : Both W1.drew (fun k => fr k ∨ k = ob) t m b mb S K (refL S) R := hT1.below (below_drew (Below.refl _ _))
  have HW1 := Aside0.mk hW1
  have HOB := Aside0.mk hob
  clear h hs hg hq hq2 hk hkb hkc hkl hN hT1 hbk hB1 hKK hW1 hob
  go_enter Try.func28, Try.ntmps28
  go_wp2_with fail
  rw [HW1.out, HOB.out]
  go_region_held3 (fun w' => w'.cell? ⟨ob, 1, none⟩ = some (.int .i64 i) ∧ w'.cell? ⟨ob, 2, none⟩ = some (.slice A1 key.length c1)) (first | assumption | (refine ⟨?_, ?_⟩ <;> assumption)) (first | (go_at_call 22; refine (HA.out _ _ (by assumption) _ (by assumption) (by assumption)).mono ?_; rintro e w1 ⟨rfl, hS1, hOa, hTa⟩) | (go_at_call 44; refine (HR.out _ _ (by assumption) _ (by assumption) (by assumption)).mono ?_; rintro e w2 ⟨rfl, hS2, hOb, hTb⟩))
  all_goals
    first
      | have HQ := Aside0.mk (HFIN.out _ hOb hTb)
      | have HQ := Aside0.mk (HFIN.out _ hOa hTa)
    have hqq : (q != q) = false := bne_self_eq_false _
    go_wp2_with fail
    go_ret
    exact HQ.out
set_option maxHeartbeats 4000000 in
set_option maxRecDepth 100000 in
theorem do_look (W : World) (fr : Nat → Prop) (t m b mb N : Nat) (S : List MapS) (K R : List Reg) (i : Int) (A1 A2 : Option Addr) (c1 c2 : Nat) (key value : List Int) (h : Both W fr t m b mb S K (refL S) R) (hs : Sim N S K R) (hN : N ≤ 1000) (hkc : key.length ≤ c1) (hkl : key.length ≤ 300) (hkb : IsBytes key)
    (hk : ∀ X', Kept fr W X' → Kd.C (Kd.int .u8) X' A1 key.length key) :
    Calls Try.prog 28 #[.pointer (some ⟨t, 0, none⟩), .pointer (some ⟨m, 0, none⟩), .pointer (some ⟨b, 0, none⟩), .agg #[.int .i64 1, .int .i64 i, .slice A1 key.length c1, .slice A2 value.length c2]] W (DoPost W fr t m b mb N S.length) := by
  obtain ⟨q, hq⟩ : ∃ q, lookF S i key = q := ⟨_, rfl⟩
  have hq2 : rlookF (refL S) i key = q := by rw [ref_look hs.keys]; exact hq
  have hg := ref_good hs.good (by omega)
  obtain ⟨W1, hW1⟩ : ∃ W1, W.alloc (.cells #[.int .i64 1, .int .i64 i, .slice A1 key.length c1, .slice A2 value.length c2] 66) = W1 := ⟨_, rfl⟩
  obtain ⟨ob, hob⟩ : ∃ ob, W.heap.size = ob := ⟨_, rfl⟩
  have hT1 : Both W1 (fun k => fr k ∨ k = ob) t m b mb S K (refL S) R := by rw [← hW1, ← hob]; exact h.alloc _
  have hB1 : Below W.heap.size W W1 := by rw [← hW1]; exact below_alloc (Below.refl _ _) _
  have hbk : W1.heap[ob]? = some (.cells #[.int .i64 1, .int .i64 i, .slice A1 key.length c1, .slice A2 value.length c2] 66 (0, 0)) := by rw [← hW1, ← hob]; exact heap_alloc_new W _
  have hKK : ∀ w, Below W1.heap.size W1 w → Kept fr W w := fun w hw => (below_kept hB1 fr).trans (below_kept hw fr)
  have HA : Aside0 (∀ w, (w.cell? ⟨ob, 1, none⟩ = some (.int .i64 i) ∧ w.cell? ⟨ob, 2, none⟩ = some (.slice A1 key.length c1)) → Below W1.heap.size W1 w → Calls Try.prog 20 #[.pointer (some ⟨t, 0, none⟩), .int .i64 i, .slice A1 key.length c1] w fun e w' => e = .returned (.int .u64 q) ∧ (w'.cell? ⟨ob, 1, none⟩ = some (.int .i64 i) ∧ w'.cell? ⟨ob, 2, none⟩ = some (.slice A1 key.length c1)) ∧ Below W1.heap.size W1 w') := ⟨fun w hS hO => by
    refine (both_look w _ t m b mb S K (refL S) R i A1 c1 key (hT1.below hO) hs.good.1 (hk w (hKK w hO)) hkb).mono ?_
    rintro e w' ⟨he, k, rfl⟩
    rw [hq] at he
    exact ⟨he, hS, pw_below_drewN hO k⟩⟩
  have HR : Aside0 (∀ w, (w.cell? ⟨ob, 1, none⟩ = some (.int .i64 i) ∧ w.cell? ⟨ob, 2, none⟩ = some (.slice A1 key.length c1)) → Below W1.heap.size W1 w → Calls Try.prog 43 #[.pointer (some ⟨b, 0, none⟩), .int .i64 i, .slice A1 key.length c1] w fun e w' => e = .returned (.int .u64 q) ∧ (w'.cell? ⟨ob, 1, none⟩ = some (.int .i64 i) ∧ w'.cell? ⟨ob, 2, none⟩ = some (.slice A1 key.length c1)) ∧ Below W1.heap.size W1 w') := ⟨fun w hS hO => by
    refine (both_rlook w _ t m b mb S K (refL S) R i A1 c1 key (hT1.below hO) hg (hk w (hKK w hO)) hkc (by omega)).mono ?_
    rintro e w' ⟨he, k, rfl⟩
    rw [hq2] at he
    exact ⟨he, hS, pw_below_drewN hO k⟩⟩
  have HFIN : Aside0 (∀ w, Below W1.heap.size W1 w → DoPost W fr t m b mb N S.length (.returned (.bool false)) w) := ⟨fun w hO => ⟨rfl, S, K, R, (hT1.below hO).weaken (fun k h => .inl h), hs.succ, rfl, hKK w hO⟩⟩
  have hc1 : W1.drew.cell? ⟨ob, 1, none⟩ = some (.int .i64 i) := (blk_cell hbk 1).trans rfl
  have hc2 : W1.drew.cell? ⟨ob, 2, none⟩ = some (.slice A1 key.length c1) := (blk_cell hbk 2).trans rfl
  have hO1 : Below W1.heap.size W1 W1.drew := below_drew (Below.refl _ _)
  have HW1 := Aside0.mk hW1
  have HOB := Aside0.mk hob
  clear h hs hg hq hq2 hk hkb hkc hkl hN hT1 hbk hB1 hKK hW1 hob
  go_enter Try.func28, Try.ntmps28
  go_wp2_with fail
  rw [HW1.out, HOB.out]
  go_region_held3 (fun w' => w'.cell? ⟨ob, 1, none⟩ = some (.int .i64 i) ∧ w'.cell? ⟨ob, 2, none⟩ = some (.slice A1 key.length c1)) (first | assumption | (refine ⟨?_, ?_⟩ <;> assumption)) (first | (go_at_call 20; refine (HA.out _ (by assumption) (by assumption)).mono ?_; rintro e w1 ⟨rfl, hS1, hOa⟩) | (go_at_call 43; refine (HR.out _ (by assumption) (by assumption)).mono ?_; rintro e w2 ⟨rfl, hS2, hOb⟩))
  all_goals
    have HQa := Aside0.mk (HFIN.out _ hOa)
    have HQb := Aside0.mk (HFIN.out _ hOb)
    have hqq : (q != q) = false := bne_self_eq_false _
    go_wp2_with fail
    go_ret
    first | exact HQb.out | exact HQa.out
set_option maxHeartbeats 4000000 in
set_option maxRecDepth 100000 in
theorem do_wr (W : World) (fr : Nat → Prop) (t m b mb N : Nat) (S : List MapS) (K R : List Reg) (kd i : Int) (A1 A2 : Option Addr) (c1 c2 : Nat) (key value : List Int) (hk0 : (kd == 0) = false) (hk1 : (kd == 1) = false) (hk2 : (kd == 2) = false) (h : Both W fr t m b mb S K (refL S) R) (hs : Sim N S K R) (hN : N ≤ 1000) (hkc : key.length ≤ c1) (hkl : key.length ≤ 300) (hkb : IsBytes key)
    (hk : ∀ X', Kept fr W X' → Kd.C (Kd.int .u8) X' A1 key.length key) :
    Calls Try.prog 28 #[.pointer (some ⟨t, 0, none⟩), .pointer (some ⟨m, 0, none⟩), .pointer (some ⟨b, 0, none⟩), .agg #[.int .i64 kd, .int .i64 i, .slice A1 key.length c1, .slice A2 value.length c2]] W (DoPost W fr t m b mb N S.length) := by
  obtain ⟨q, hq⟩ : ∃ q, lookF S i key = q := ⟨_, rfl⟩
  have hq2 : rlookF (refL S) i key = q := by rw [ref_look hs.keys]; exact hq
  have hqr : 0 ≤ q ∧ q < 18446744073709551616 := by rw [← hq]; exact lookF_range S i key
  have hg := ref_good hs.good (by omega)
  obtain ⟨p, hp⟩ : ∃ p, wrB K q 1 77 = p := ⟨_, rfl⟩
  have hp2 : wrB R q 1 77 = p := by rw [← wrB_permR hs.perm]; exact hp
  obtain ⟨W1, hW1⟩ : ∃ W1, W.alloc (.cells #[.int .i64 kd, .int .i64 i, .slice A1 key.length c1, .slice A2 value.length c2] 66) = W1 := ⟨_, rfl⟩
  obtain ⟨ob, hob⟩ : ∃ ob, W.heap.size = ob := ⟨_, rfl⟩
  have hT1 : Both W1 (fun k => fr k ∨ k = ob) t m b mb S K (refL S) R := by rw [← hW1, ← hob]; exact h.alloc _
  have hB1 : Below W.heap.size W W1 := by rw [← hW1]; exact below_alloc (Below.refl _ _) _
  have hbk : W1.heap[ob]? = some (.cells #[.int .i64 kd, .int .i64 i, .slice A1 key.length c1, .slice A2 value.length c2] 66 (0, 0)) := by rw [← hW1, ← hob]; exact heap_alloc_new W _
  have hKK : ∀ w, Below W1.heap.size W1 w → Kept fr W w := fun w hw => (below_kept hB1 fr).trans (below_kept hw fr)
  have HA : Aside0 (∀ w, Below W1.heap.size W1 w → Calls Try.prog 20 #[.pointer (some ⟨t, 0, none⟩), .int .i64 i, .slice A1 key.length c1] w fun e w' => e = .returned (.int .u64 q) ∧ Below W1.heap.size W1 w') := ⟨fun w hO => by
    refine (both_look w _ t m b mb S K (refL S) R i A1 c1 key (hT1.below hO) hs.good.1 (hk w (hKK w hO)) hkb).mono ?_
    rintro e w' ⟨he, k, rfl⟩
    rw [hq] at he
    exact ⟨he, pw_below_drewN hO k⟩⟩
  have HR : Aside0 (∀ w, Below W1.heap.size W1 w → Calls Try.prog 43 #[.pointer (some ⟨b, 0, none⟩), .int .i64 i, .slice A1 key.length c1] w fun e w' => e = .returned (.int .u64 q) ∧ Below W1.heap.size W1 w') := ⟨fun w hO => by
    refine (both_rlook w _ t m b mb S K (refL S) R i A1 c1 key (hT1.below hO) hg (hk w (hKK w hO)) hkc (by omega)).mono ?_
    rintro e w' ⟨he, k, rfl⟩
    rw [hq2] at he
    exact ⟨he, pw_below_drewN hO k⟩⟩
  have HC : Aside0 (∀ w, Below W1.heap.size W1 w → w.cell? ⟨ob, 1, none⟩ = some (.int .i64 i) ∧ w.cell? ⟨ob, 2, none⟩ = some (.slice A1 key.length c1)) := ⟨fun w hb => ⟨pw_cell_below hb ((blk_cell hbk 1).trans rfl), pw_cell_below hb ((blk_cell hbk 2).trans rfl)⟩⟩
  have HD : Aside0 (∀ w, Below W1.heap.size W1 w → Kept fr W w.drew ∧ Both w.drew fr t m b mb S K (refL S) R ∧ w.drew.cell? ⟨b, 0, none⟩ = some (.pointer (some ⟨mb, 0, none⟩))) := ⟨fun w hb => by
    have hb' := below_drew hb
    have := (hT1.below hb').weaken (fr' := fr) (fun k h => .inl h)
    exact ⟨hKK _ hb', this, this.rblk.1⟩⟩
  have HWA : Aside0 (∀ w R', (w.cell? ⟨b, 0, none⟩ = some (.pointer (some ⟨mb, 0, none⟩))) → Kept fr W w → Both w fr t m b mb S K (refL S) R' → Calls Try.prog 45 #[.pointer (some ⟨m, 0, none⟩), .int .u64 q, .int .i64 1, .int .u64 77] w fun e w' => e = .returned (.bool p) ∧ (w'.cell? ⟨b, 0, none⟩ = some (.pointer (some ⟨mb, 0, none⟩))) ∧ Kept fr W w' ∧ Both w' fr t m b mb S (wrG K q 1 77) (refL S) R') := ⟨fun w R' hS hO hT => by
    refine (both_write w _ t m b mb S K (refL S) R' q 1 77 hT (Nat.le_trans hs.len (by omega)) hqr.1 hqr.2 (by decide) (by decide)).mono ?_
    rintro e w' ⟨he, hT', hO'⟩
    rw [hp] at he
    exact ⟨he, hT'.rblk.1, hO.trans hO', hT'⟩⟩
  have HWR : Aside0 (∀ w K', (w.cell? ⟨b, 0, none⟩ = some (.pointer (some ⟨mb, 0, none⟩))) → Kept fr W w → Both w fr t m b mb S K' (refL S) R → Calls Try.prog 46 #[.pointer (some ⟨mb, 0, none⟩), .int .u64 q, .int .i64 1, .int .u64 77] w fun e w' => e = .returned (.bool p) ∧ (w'.cell? ⟨b, 0, none⟩ = some (.pointer (some ⟨mb, 0, none⟩))) ∧ Kept fr W w' ∧ Both w' fr t m b mb S K' (refL S) (wrG R q 1 77)) := ⟨fun w K' hS hO hT => by
    refine (both_rwrite w _ t m b mb S K' (refL S) R q 1 77 hT (by rw [← hs.perm.length_eq]; exact Nat.le_trans hs.len (by omega)) hqr.1 hqr.2 (by decide) (by decide) (by decide) (by decide)).mono ?_
    rintro e w' ⟨he, hT', hO'⟩
    rw [hp2] at he
    exact ⟨he, hT'.rblk.1, hO.trans hO', hT'⟩⟩
  have HFIN : Aside0 (∀ w, Kept fr W w → Both w fr t m b mb S (wrG K q 1 77) (refL S) (wrG R q 1 77) → DoPost W fr t m b mb N S.length (.returned (.bool false)) w) := ⟨fun w hO hT => ⟨rfl, _, _, _, hT, hs.write q 1 77, rfl, hO⟩⟩
  have HW1 := Aside0.mk hW1
  have HOB := Aside0.mk hob
  clear h hs hg hq hq2 hk hkb hkc hkl hN hT1 hbk hB1 hKK hW1 hob hqr hp hp2
  have hqq : (q != q) = false := bne_self_eq_false _
  go_enter Try.func28, Try.ntmps28
  go_wp2_with fail
  rw [HW1.out, HOB.out]
  refine (HA.out _ (Below.refl _ _)).mono ?_
  rintro e w1 ⟨rfl, hb1⟩
  obtain ⟨hc1, hc2⟩ := HC.out w1 hb1
  go_wp2_with fail
  refine (HR.out _ hb1).mono ?_
  rintro e w2 ⟨rfl, hb2⟩
  obtain ⟨hK2, hT2, hc0⟩ := HD.out w2 hb2
  clear hc1 hc2 hb1 hb2
  cases p
  all_goals
    go_wp2_with fail
    go_region_held3 (fun w' => w'.cell? ⟨b, 0, none⟩ = some (.pointer (some ⟨mb, 0, none⟩))) (assumption) (first | (go_at_call 45; refine (HWA.out _ _ (by assumption) (by assumption) (by assumption)).mono ?_; rintro e w3 ⟨rfl, hS1, hOa, hTa⟩) | (go_at_call 46; refine (HWR.out _ _ (by assumption) (by assumption) (by assumption)).mono ?_; rintro e w4 ⟨rfl, hS2, hOb, hTb⟩))
  all_goals
    first
      | have HQ := Aside0.mk (HFIN.out _ hOb hTb)
      | have HQ := Aside0.mk (HFIN.out _ hOa hTa)
    go_wp2_with fail
    go_ret
    exact HQ.out
end Go.Proofs.Ytmkmldpcoonepaa.PAll
/- maps: the law MapsRun. -/
set_option linter.unusedVariables false
set_option linter.unusedSimpArgs false
namespace Go.Proofs.Ytmkmldpcoonepaa.PAll
open Go.RowKit Go.Shelf Go.Maps Go.Proofs.YtmkmldpcoonepaaW.PrintWords Go.Proofs.YtmkmldpcoonepaaW.PrintLast Go.Proofs.YtmkmldpcoonepaaW.PrintMore
/-- What is known of an operation that came in. -/
structure OpOk (o : S66) : Prop where
  k0 : -9223372036854775808 ≤ o.f0
  k1 : o.f0 < 9223372036854775808
  m0 : -9223372036854775808 ≤ o.f1
  m1 : o.f1 < 9223372036854775808
  kb : IsBytes o.f2
  vb : IsBytes o.f3
theorem do_c (W : World) (fr : Nat → Prop) (t m b mb N : Nat) (S : List MapS) (K R : List Reg) (o : S66) (ho : OpOk o) (A1 A2 : Option Addr) (c1 c2 : Nat) (h : Both W fr t m b mb S K (refL S) R) (hs : Sim N S K R) (hN : N ≤ 1000) (hkc : o.f2.length ≤ c1) (hkl : o.f2.length ≤ 300) (hvc : o.f3.length ≤ c2) (hvl : o.f3.length ≤ 600)
    (hk : ∀ X', Kept fr W X' → Kd.C (Kd.int .u8) X' A1 o.f2.length o.f2) (hv : ∀ X', Kept fr W X' → Kd.C (Kd.int .u8) X' A2 o.f3.length o.f3) (hA : 0 < o.f3.length → ∀ ad, A2 = some ad → fr ad.block) :
    Calls Try.prog 28 #[.pointer (some ⟨t, 0, none⟩), .pointer (some ⟨m, 0, none⟩), .pointer (some ⟨b, 0, none⟩), .agg #[.int .i64 o.f0, .int .i64 o.f1, .slice A1 o.f2.length c1, .slice A2 o.f3.length c2]] W (DoPost W fr t m b mb N S.length) := by
  obtain ⟨kd, i, key, value⟩ := o
  obtain ⟨k0, k1, m0, m1, kb, vb⟩ := ho
  dsimp only at k0 k1 m0 m1 kb vb hkc hkl hvc hvl hk hv hA ⊢
  by_cases h0 : kd = 0
  · subst h0; exact do_upd W fr t m b mb N S K R i A1 A2 c1 c2 key value h hs hN hkc hkl kb hvc hvl vb hk hv hA
  by_cases h1 : kd = 1
  · subst h1; exact do_look W fr t m b mb N S K R i A1 A2 c1 c2 key value h hs hN hkc hkl kb hk
  by_cases h2 : kd = 2
  · subst h2; exact do_del W fr t m b mb N S K R i A1 A2 c1 c2 key value h hs hN hkc hkl kb hk
  exact do_wr W fr t m b mb N S K R kd i A1 A2 c1 c2 key value (beq_eq_false_iff_ne.mpr h0) (beq_eq_false_iff_ne.mpr h1) (beq_eq_false_iff_ne.mpr h2) h hs hN hkc hkl kb hk
/-! ### the start -/
theorem both_start {w4 w6 : World} {fr : Nat → Prop} {t m v6 : Nat} {S : List MapS} {b mb : Nat} {R : List Reg} {S2 : List MapS} (h : MM w4 fr t m S []) (hb : Below w4.heap.size w4 w6) (hR : RMM w6 (fun k => k < w4.heap.size) b mb S2 R) : Both w6 fr t m b mb S [] S2 R := by
  obtain ⟨h0, own, h1, h2⟩ := mres_iff.2 h
  refine Has.swap (Has.join (o1 := own) ((rres_iff.2 hR).weaken (fun k hk => ?_)) (fun k hk => (h1 k hk).1) ((MRes t m S []).keep h2 (fun k hk hlt => hb.block k hlt)))
  rcases hk with hk | hk
  · exact h0 k hk
  · exact (h1 k hk).2
theorem rm_new (w : World) : Has (w.alloc (.cells #[.slice none 0 0] 37)) (fun k => k < w.heap.size) (RM w.heap.size []) := by
  have hs : (w.alloc (.cells #[.slice none 0 0] 37)).heap.size = w.heap.size + 1 := by simp
  refine ⟨fun k hk => by rw [hs]; omega, fun k => k = w.heap.size, fun k hk => ⟨by omega, by rw [hs]; omega⟩, ?_, DL.nil⟩
  exact ⟨.slice none 0 0, [], heap_alloc_new w _, rfl, Nat.zero_le _, World.ownsRow_nil _ _ _ _, fun k hk => by simp [Value.ownBlock] at hk, rfl, fun i p r hp _ => by simp at hp, by simp⟩
theorem sim_new (ds : List S42) (hl : ds.length ≤ 255) (hb : ds.all sizesB = true) : Sim 0 (ds.map newS) [] [] := by
  refine ⟨good_new ds hl hb, fun s hs e he => ?_, fun s hs => ?_, List.Perm.refl _, Nat.le_refl _⟩
  · obtain ⟨d, _, rfl⟩ := List.mem_map.1 hs
    simp [newS] at he
  · obtain ⟨d, hd, rfl⟩ := List.mem_map.1 hs
    exact ((sizes_iff d).1 (List.all_eq_true.1 hb d hd)).1.1
/-! ### the entries of both -/
theorem both_ents (X : World) (fr : Nat → Prop) (t m b mb N : Nat) (S : List MapS) (K R : List Reg) (i : Int) (h : Both X fr t m b mb S K (refL S) R) (hs : Sim N S K R) (hN : N ≤ 1000) :
    Calls Try.prog 24 #[.pointer (some ⟨t, 0, none⟩), .int .i64 i] X fun e X' => (∃ vR vs, e = .returned vR ∧ EntRow X' X.heap.size vR vs (entF S K i)) ∧ Below X.heap.size X X' :=
  mm_entries X fr t m S K N i h.mm hs.good (by omega) (Nat.le_trans hs.len (by omega))
theorem both_rents (X : World) (fr : Nat → Prop) (t m b mb N : Nat) (S : List MapS) (K R : List Reg) (i : Int) (h : Both X fr t m b mb S K (refL S) R) (hs : Sim N S K R) (hN : N ≤ 1000) :
    Calls Try.prog 29 #[.pointer (some ⟨b, 0, none⟩), .int .i64 i] X fun e X' => (∃ vR vs, e = .returned vR ∧ EntRow X' X.heap.size vR vs (entF S K i)) ∧ Below X.heap.size X X' := by
  have hg := ref_good hs.good (by omega)
  unfold entF
  cases hp : getP S i with
  | none =>
    obtain ⟨v, lvs, qss, h2⟩ := h.rmm
    obtain ⟨_, own, _, h3⟩ := h2.left
    refine (rents_bad X own b mb v lvs qss (refL S) i h3 (by rw [refL_getP, hp]; rfl)).mono ?_
    rintro e X' ⟨rfl, rfl⟩
    exact ⟨⟨_, [], rfl, EntRow.nil _ _⟩, Below.refl _ _⟩
  | some s =>
    obtain ⟨hm, h0, hn⟩ := getP_mem3 hp
    have hsg := hs.good.2 s hm
    have hk1 := hs.key1 s hm
    obtain ⟨n, rfl⟩ := Int.eq_ofNat_of_zero_le h0
    rw [Int.toNat_natCast] at hn
    have hr : (refL S)[n]? = some (refS n s) := by rw [refL_at, hn]; rfl
    refine (rents_some X fr b mb (refL S) R n (refS n s) h.rmm hg (by rw [← hs.perm.length_eq]; exact Nat.le_trans hs.len (by omega)) hr (fun e he => ?_) hsg.v0 (Int.le_trans hsg.v1 (by decide))).mono ?_
    · obtain ⟨e', he', rfl⟩ := List.mem_map.1 (show e ∈ s.ents.map _ from he)
      have := hs.keys s hm e' he'
      exact ⟨by show 1 ≤ e'.1.length; omega, addr_range _ _⟩
    · intro e X' hq
      rw [ref_ents hs.perm h.dl] at hq
      exact hq
theorem entF_small {N : Nat} {S : List MapS} {K : List Reg} (hS : GoodS N S) (hN : N ≤ 1000) (hD : DL K) (i : Int) : (entF S K i).length ≤ 1000000 ∧ ∀ e ∈ entF S K i, e.f0.length ≤ 1099511627776 ∧ e.f1.length ≤ 1099511627776 := by
  unfold entF
  cases hp : getP S i with
  | none => exact ⟨Nat.zero_le _, fun e he => by cases he⟩
  | some s =>
    have hg := hS.2 s (getP_mem hp)
    refine ⟨?_, fun e he => ?_⟩
    · show (s.ents.map _).length ≤ _
      rw [List.length_map]
      exact Nat.le_trans hg.len (by omega)
    · obtain ⟨e', he', rfl⟩ := List.mem_map.1 (show e ∈ s.ents.map _ from he)
      refine ⟨Nat.le_trans (hg.short e' he') (by decide), Nat.le_trans ?_ (by decide : 4294967296 ≤ 1099511627776)⟩
      show ((bytesF K _ _).getD []).length ≤ _
      cases hf : bytesF K (addrF i e'.2) s.value with
      | none => exact Nat.zero_le _
      | some bs =>
        obtain ⟨r, hr, hh, rfl⟩ := (bytesF_iff hD).1 hf
        show ((r.data.drop _).take _).length ≤ _
        have := (hD.ok r hr).short
        rw [List.length_take, List.length_drop]
        omega
end Go.Proofs.Ytmkmldpcoonepaa.PAll
