/- Memories as lists of regions in any order: what the operations leave, and that the order does not matter. -/
import Derived.Test.YtlolhmocimaobaaMemLaw
import Derived.Test.YtlolhmocimaobaaRefW6
set_option linter.unusedVariables false
set_option linter.unusedSimpArgs false
namespace Go.Proofs.Ytlolhmocimaobaa.PAll
open Go.RowKit Go.Shelf Go.Proofs.YtlolhmocimaobaaW.PrintWords Go.Proofs.YtlolhmocimaobaaW.PrintLast Go.Proofs.YtlolhmocimaobaaW.PrintMore
def Apart (r s : Reg) : Prop := r.base + r.data.length ≤ s.base ∨ s.base + s.data.length ≤ r.base
theorem Apart.symm {r s : Reg} (h : Apart r s) : Apart s r := Or.symm h
structure DL (K : List Reg) : Prop where
  ok : ∀ r ∈ K, Ok r
  pw : K.Pairwise Apart
theorem inv_DL {L : List Reg} (h : Inv L) : DL L :=
  ⟨fun r hr => ⟨h.pos r hr, h.lo r hr, h.hi r hr, h.wf r hr, h.short r hr⟩, List.pairwise_iff_getElem.2 (fun i j hi hj hij => .inl (h.apart i j _ _ hij (List.getElem?_eq_getElem hi) (List.getElem?_eq_getElem hj)))⟩
theorem DL.perm {K K' : List Reg} (h : DL K) (hp : K.Perm K') : DL K' :=
  ⟨fun r hr => h.ok r (hp.mem_iff.2 hr), (hp.pairwise_iff (fun h => Apart.symm h)).1 h.pw⟩
theorem DL.nil : DL [] := ⟨by simp, List.Pairwise.nil⟩
theorem DL.uniq {K : List Reg} (h : DL K) {i j : Nat} {r s : Reg} (hr : K[i]? = some r) (hs : K[j]? = some s) {x : Int} (hx : insB r x = true) (hy : insB s x = true) : i = j := by
  unfold insB at hx hy
  rw [decide_eq_true_eq] at hx hy
  obtain ⟨hi, rfl⟩ := List.getElem?_eq_some_iff.1 hr
  obtain ⟨hj, rfl⟩ := List.getElem?_eq_some_iff.1 hs
  rcases Nat.lt_trichotomy i j with hij | hij | hij
  · have := List.pairwise_iff_getElem.1 h.pw i j hi hj hij
    unfold Apart at this
    omega
  · exact hij
  · have := List.pairwise_iff_getElem.1 h.pw j i hj hi hij
    unfold Apart at this
    omega
theorem hit_insB {a n : Int} {r : Reg} (h : hitR a n r = true) : insB r a = true := (hit_ins.1 h).2.1
theorem DL.hit_uniq {K : List Reg} (h : DL K) {i j : Nat} {r s : Reg} (hr : K[i]? = some r) (hs : K[j]? = some s) {a n : Int} (hx : hitR a n r = true) (hy : hitR a n s = true) : i = j := h.uniq hr hs (hit_insB hx) (hit_insB hy)
theorem DL.base_uniq {K : List Reg} (h : DL K) {i j : Nat} {r s : Reg} (hr : K[i]? = some r) (hs : K[j]? = some s) (he : r.base = s.base) : i = j := by
  have h1 := (h.ok r (List.mem_of_getElem? hr)).pos
  have h2 := (h.ok s (List.mem_of_getElem? hs)).pos
  exact h.uniq (x := r.base) hr hs (by unfold insB; rw [decide_eq_true_eq]; omega) (by unfold insB; rw [decide_eq_true_eq]; omega)
/-! ### Bytes -/
theorem bytesF_iff {K : List Reg} (h : DL K) {a n : Int} {bs : List Int} : bytesF K a n = some bs ↔ ∃ r ∈ K, hitR a n r = true ∧ bs = (r.data.drop (a - r.base).toNat).take n.toNat := by
  unfold bytesF
  constructor
  · intro hb
    cases hf : K.findIdx? (hitR a n) with
    | none => rw [hf] at hb; cases hb
    | some k =>
      rw [hf] at hb
      dsimp only at hb
      obtain ⟨hk, hh, _⟩ := List.findIdx?_eq_some_iff_getElem.1 hf
      rw [List.getElem?_eq_getElem hk] at hb
      dsimp only at hb
      exact ⟨_, List.getElem_mem hk, hh, (Option.some.inj hb).symm⟩
  · rintro ⟨r, hr, hh, rfl⟩
    obtain ⟨j, hj⟩ := List.mem_iff_getElem?.1 hr
    cases hf : K.findIdx? (hitR a n) with
    | none => rw [List.findIdx?_eq_none_iff] at hf; rw [hf r hr] at hh; cases hh
    | some k =>
      obtain ⟨hk, hh2, _⟩ := List.findIdx?_eq_some_iff_getElem.1 hf
      have hk' : K[k]? = some K[k] := List.getElem?_eq_getElem hk
      obtain rfl := h.hit_uniq hj hk' hh hh2
      dsimp only
      rw [hj]
theorem bytesF_perm {K K' : List Reg} (h : DL K) (hp : K.Perm K') (a n : Int) : bytesF K a n = bytesF K' a n := by
  apply Option.ext
  intro bs
  rw [bytesF_iff h, bytesF_iff (h.perm hp)]
  constructor
  · rintro ⟨r, hr, hh⟩; exact ⟨r, hp.mem_iff.1 hr, hh⟩
  · rintro ⟨r, hr, hh⟩; exact ⟨r, hp.mem_iff.2 hr, hh⟩
theorem readF_perm {K K' : List Reg} (h : DL K) (hp : K.Perm K') (a n : Int) : readF K a n = readF K' a n := by
  unfold readF
  rw [bytesF_perm h hp]
/-! ### Put -/
def putR (a : Int) (bs : List Int) (r : Reg) : Reg := if hitR a bs.length r then { r with data := splice r.data (a - r.base).toNat bs } else r
def putG (K : List Reg) (a : Int) (bs : List Int) : List Reg := K.map (putR a bs)
theorem putF_some {K : List Reg} (h : DL K) {a : Int} {bs : List Int} {K' : List Reg} (hf : putF K a bs = some K') : K.any (hitR a bs.length) = true ∧ K' = putG K a bs := by
  unfold putF at hf
  cases hi : K.findIdx? (hitR a bs.length) with
  | none => rw [hi] at hf; cases hf
  | some k =>
    rw [hi] at hf
    dsimp only at hf
    obtain ⟨hk, hh, _⟩ := List.findIdx?_eq_some_iff_getElem.1 hi
    have hr : K[k]? = some K[k] := List.getElem?_eq_getElem hk
    rw [hr] at hf
    dsimp only at hf
    refine ⟨List.any_eq_true.2 ⟨_, List.getElem_mem hk, hh⟩, ?_⟩
    rw [← Option.some.inj hf]
    apply List.ext_getElem?
    intro j
    unfold putG
    rw [List.getElem?_map, List.getElem?_set]
    by_cases hj : k = j
    · subst hj
      rw [if_pos rfl, if_pos hk, hr]
      show _ = some (putR a bs K[k])
      unfold putR
      rw [if_pos hh]
    · rw [if_neg hj]
      cases hs : K[j]? with
      | none => rfl
      | some s =>
        show _ = some (putR a bs s)
        unfold putR
        rw [if_neg (fun hh2 => hj (h.hit_uniq hr hs hh hh2))]
theorem putF_none {K : List Reg} {a : Int} {bs : List Int} (hf : putF K a bs = none) : K.any (hitR a bs.length) = false ∧ K = putG K a bs := by
  unfold putF at hf
  cases hi : K.findIdx? (hitR a bs.length) with
  | none =>
    rw [List.findIdx?_eq_none_iff] at hi
    refine ⟨by rw [List.any_eq_false]; intro r hr; simp [hi r hr], ?_⟩
    unfold putG
    conv => lhs; rw [← List.map_id K]
    refine List.map_congr_left (fun r hr => ?_)
    unfold putR
    rw [hi r hr]
    rfl
  | some k =>
    rw [hi] at hf
    dsimp only at hf
    obtain ⟨hk, hh, _⟩ := List.findIdx?_eq_some_iff_getElem.1 hi
    rw [List.getElem?_eq_getElem hk] at hf
    cases hf
theorem putR_len {a : Int} {bs : List Int} {r : Reg} (h : Ok r) : (putR a bs r).data.length = r.data.length ∧ (putR a bs r).base = r.base := by
  unfold putR
  by_cases hh : hitR a bs.length r = true
  · rw [if_pos hh]
    obtain ⟨h1, h2, h3⟩ := hit_iff.1 hh
    exact ⟨length_splice _ _ _ (by omega), rfl⟩
  · rw [if_neg hh]; exact ⟨rfl, rfl⟩
theorem mem_splice {l cs : List Int} {off : Nat} {x : Int} (h : x ∈ splice l off cs) : x ∈ l ∨ x ∈ cs := by
  unfold splice at h
  rcases List.mem_append.1 h with h | h
  · exact .inl (List.mem_of_mem_take h)
  · rcases List.mem_append.1 h with h | h
    · exact .inr h
    · exact .inl (List.mem_of_mem_drop h)
theorem putR_ok {a : Int} {bs : List Int} {r : Reg} (h : Ok r) (hw : ∀ x ∈ bs, 0 ≤ x ∧ x < 256) : Ok (putR a bs r) := by
  obtain ⟨e1, e2⟩ := putR_len (a := a) (bs := bs) h
  refine ⟨by rw [e1]; exact h.pos, by rw [e2]; exact h.lo, by rw [e1, e2]; exact h.hi, ?_, by rw [e1]; exact h.short⟩
  intro x hx
  unfold putR at hx
  by_cases hh : hitR a bs.length r = true
  · rw [if_pos hh] at hx
    rcases mem_splice hx with hx | hx
    · exact h.wf x hx
    · exact hw x hx
  · rw [if_neg hh] at hx; exact h.wf x hx
theorem inv_put {L : List Reg} (h : Inv L) {a : Int} {bs : List Int} (hw : ∀ x ∈ bs, 0 ≤ x ∧ x < 256) : Inv (putG L a bs) := by
  have hD := inv_DL h
  have hm : ∀ r ∈ putG L a bs, Ok r := fun r hr => by
    obtain ⟨s, hs, rfl⟩ := List.mem_map.1 hr
    exact putR_ok (hD.ok s hs) hw
  refine ⟨fun r hr => (hm r hr).pos, fun r hr => (hm r hr).lo, fun r hr => (hm r hr).hi, fun r hr => (hm r hr).wf, fun r hr => (hm r hr).short, ?_⟩
  intro i j r s hij hr hs
  unfold putG at hr hs
  rw [List.getElem?_map] at hr hs
  obtain ⟨r0, hr0, rfl⟩ := Option.map_eq_some_iff.1 hr
  obtain ⟨s0, hs0, rfl⟩ := Option.map_eq_some_iff.1 hs
  obtain ⟨e1, e2⟩ := putR_len (a := a) (bs := bs) (hD.ok r0 (List.mem_of_getElem? hr0))
  obtain ⟨e3, e4⟩ := putR_len (a := a) (bs := bs) (hD.ok s0 (List.mem_of_getElem? hs0))
  rw [e1, e2, e4]
  exact h.apart i j r0 s0 hij hr0 hs0
/-! ### Add -/
def addG (K : List Reg) (base : Int) (bs : List Int) : List Reg := if addOk K base bs.length then ⟨base, bs⟩ :: K else K
theorem addOk_perm {K K' : List Reg} (hp : K.Perm K') (base : Int) (n : Nat) : addOk K base n = addOk K' base n := by
  unfold addOk
  refine decide_eq_decide.2 ⟨fun h => ⟨h.1, h.2.1, fun r hr => h.2.2 r (hp.mem_iff.2 hr)⟩, fun h => ⟨h.1, h.2.1, fun r hr => h.2.2 r (hp.mem_iff.1 hr)⟩⟩
theorem inv_insert {L : List Reg} (h : Inv L) {base : Int} {bs : List Int} (ho : addOk L base bs.length = true) (h0 : 0 ≤ base) (hw : ∀ x ∈ bs, 0 ≤ x ∧ x < 256) (hs : bs.length ≤ 4294967296) {i : Nat} (hi : IsAt L (base + bs.length - 1) i) : Inv (L.take i ++ [⟨base, bs⟩] ++ L.drop i) := by
  obtain ⟨o1, o2, o3⟩ := of_decide_eq_true ho
  have hm : ∀ r ∈ L.take i ++ [⟨base, bs⟩] ++ L.drop i, r ∈ L ∨ r = ⟨base, bs⟩ := fun r hr => by
    rcases List.mem_append.1 hr with hr | hr
    · rcases List.mem_append.1 hr with hr | hr
      · exact .inl (List.mem_of_mem_take hr)
      · exact .inr (List.mem_singleton.1 hr)
    · exact .inl (List.mem_of_mem_drop hr)
  refine ⟨fun r hr => ?_, fun r hr => ?_, fun r hr => ?_, fun r hr => ?_, fun r hr => ?_, ?_⟩
  · rcases hm r hr with hr | rfl; exact h.pos r hr; exact o1
  · rcases hm r hr with hr | rfl; exact h.lo r hr; exact h0
  · rcases hm r hr with hr | rfl; exact h.hi r hr; exact o2
  · rcases hm r hr with hr | rfl; exact h.wf r hr; exact hw
  · rcases hm r hr with hr | rfl; exact h.short r hr; exact hs
  · intro j k r s hjk hr hs'
    rw [ins_get _ _ _ hi.1] at hr hs'
    have hbef : ∀ (j : Nat) (r : Reg), j < i → L[j]? = some r → r.base + r.data.length ≤ base := fun j r hj hr => by
      have h1 := hi.2.1 j r hj hr
      have h2 := h.pos r (List.mem_of_getElem? hr)
      rcases o3 r (List.mem_of_getElem? hr) with h3 | h3 <;> omega
    have haft : ∀ (j : Nat) (r : Reg), i ≤ j → L[j]? = some r → base + bs.length ≤ r.base := fun j r hj hr => by
      have h1 := hi.2.2 j r hj hr
      have h2 := h.pos r (List.mem_of_getElem? hr)
      rcases o3 r (List.mem_of_getElem? hr) with h3 | h3 <;> omega
    by_cases hj : j < i
    · rw [if_pos hj] at hr
      by_cases hk : k < i
      · rw [if_pos hk] at hs'; exact h.apart j k r s hjk hr hs'
      · rw [if_neg hk] at hs'
        by_cases hk2 : k = i
        · rw [if_pos hk2] at hs'; cases hs'; exact hbef j r hj hr
        · rw [if_neg hk2] at hs'; exact h.apart j (k - 1) r s (by omega) hr hs'
    · rw [if_neg hj] at hr
      have hk : ¬ k < i := by omega
      have hk2 : ¬ k = i := by omega
      rw [if_neg hk, if_neg hk2] at hs'
      by_cases hj2 : j = i
      · rw [if_pos hj2] at hr; cases hr; exact haft (k - 1) s (by omega) hs'
      · rw [if_neg hj2] at hr; exact h.apart (j - 1) (k - 1) r s (by omega) hr hs'
theorem ins_perm (L : List Reg) (s : Reg) (i : Nat) : (L.take i ++ [s] ++ L.drop i).Perm (s :: L) := by
  have := List.perm_middle (a := s) (l₁ := L.take i) (l₂ := L.drop i)
  rw [List.take_append_drop] at this
  rw [List.append_assoc]
  exact this
/-! ### Remove -/
theorem remF_eq {L : List Reg} (h : Inv L) (a : Int) : (remF L a).isSome = L.any (fun r => r.base == a) ∧ (remF L a).getD L = remR L a := by
  have hD := inv_DL h
  unfold remF
  cases hi : L.findIdx? (fun r => r.base == a) with
  | none =>
    rw [List.findIdx?_eq_none_iff] at hi
    refine ⟨?_, ?_⟩
    · symm
      show _ = false
      rw [List.any_eq_false]
      intro r hr; simp [hi r hr]
    · show L = remR L a
      unfold remR
      symm
      rw [List.filter_eq_self]
      intro r hr
      have := hi r hr
      simpa using this
  | some k =>
    obtain ⟨hk, hh, _⟩ := List.findIdx?_eq_some_iff_getElem.1 hi
    have hb : L[k].base = a := by simpa using hh
    refine ⟨?_, ?_⟩
    · symm
      show _ = true
      rw [List.any_eq_true]
      exact ⟨_, List.getElem_mem hk, hh⟩
    · show L.take k ++ L.drop (k + 1) = remR L a
      unfold remR
      have e : L = L.take k ++ (L[k] :: L.drop (k + 1)) := by rw [← List.drop_eq_getElem_cons hk, List.take_append_drop]
      have hr : L[k]? = some L[k] := List.getElem?_eq_getElem hk
      have h1 : (L.take k).filter (fun r => decide (r.base ≠ a)) = L.take k := by
        rw [List.filter_eq_self]
        intro r hr2
        obtain ⟨j, hj⟩ := List.mem_iff_getElem?.1 hr2
        rw [List.getElem?_take] at hj
        by_cases hjk : j < k
        · rw [if_pos hjk] at hj
          simp only [decide_eq_true_eq]
          intro hc
          have := hD.base_uniq hj hr (by rw [hc, hb])
          omega
        · rw [if_neg hjk] at hj; cases hj
      have h2 : (L.drop (k + 1)).filter (fun r => decide (r.base ≠ a)) = L.drop (k + 1) := by
        rw [List.filter_eq_self]
        intro r hr2
        obtain ⟨j, hj⟩ := List.mem_iff_getElem?.1 hr2
        rw [List.getElem?_drop] at hj
        simp only [decide_eq_true_eq]
        intro hc
        have := hD.base_uniq hj hr (by rw [hc, hb])
        omega
      conv => rhs; rw [e]
      rw [List.filter_append, List.filter_cons, h1, h2, if_neg (by simp [hb])]
theorem inv_rem {L : List Reg} (h : Inv L) (a : Int) : Inv (remR L a) := by
  have hm : ∀ r ∈ remR L a, r ∈ L := fun r hr => (List.mem_filter.1 hr).1
  refine ⟨fun r hr => h.pos r (hm r hr), fun r hr => h.lo r (hm r hr), fun r hr => h.hi r (hm r hr), fun r hr => h.wf r (hm r hr), fun r hr => h.short r (hm r hr), ?_⟩
  have hp : (remR L a).Pairwise (fun (r s : Reg) => r.base + (r.data.length : Int) ≤ s.base) :=
    (List.pairwise_iff_getElem.2 (fun i j hi hj hij => h.apart i j _ _ hij (List.getElem?_eq_getElem hi) (List.getElem?_eq_getElem hj))).sublist List.filter_sublist
  intro i j r s hij hr hs
  obtain ⟨hi, rfl⟩ := List.getElem?_eq_some_iff.1 hr
  obtain ⟨hj, rfl⟩ := List.getElem?_eq_some_iff.1 hs
  exact List.pairwise_iff_getElem.1 hp i j hi hj hij
theorem rem_lt (R : List Reg) (a : Int) : decide ((remR R a).length < R.length) = R.any (fun r => r.base == a) := by
  rw [Bool.eq_iff_iff, decide_eq_true_eq, List.any_eq_true]
  constructor
  · intro h
    apply Classical.byContradiction
    intro hc
    have : remR R a = R := by
      unfold remR
      rw [List.filter_eq_self]
      intro r hr
      simp only [decide_eq_true_eq]
      intro he
      exact hc ⟨r, hr, by simpa using he⟩
    rw [this] at h
    omega
  · rintro ⟨r, hr, he⟩
    refine Nat.lt_of_le_of_ne (List.length_filter_le _ _) (fun hl => ?_)
    have := List.length_filter_eq_length_iff.1 hl r hr
    simp at this he
    exact this he
theorem any_perm {K K' : List Reg} (hp : K.Perm K') (p : Reg → Bool) : K.any p = K'.any p := by
  rw [Bool.eq_iff_iff, List.any_eq_true, List.any_eq_true]
  exact ⟨fun ⟨r, hr, h⟩ => ⟨r, hp.mem_iff.1 hr, h⟩, fun ⟨r, hr, h⟩ => ⟨r, hp.mem_iff.2 hr, h⟩⟩
end Go.Proofs.Ytlolhmocimaobaa.PAll
