/- The texts RefBase, RefW1, RefW2, RefW3, RefW4, RefW5, RefW6, RunLaw, RunTwo of this claim, joined. -/
import Derived.Test.YtmkmldpcoonepaaGMemB
import Derived.Maps.AppendAt
import Derived.Test.YtmkmldpcoonepaaPAllx2
import Derived.Deep.RegionHeld3
import Derived.Laws.OwnMore
import Derived.Deep.AppendLies
import Derived.Deep.RegionLaw
/- The reference's memory: what lies in the heap. -/
set_option linter.unusedVariables false
set_option linter.unusedSimpArgs false
namespace Go.Proofs.Ytmkmldpcoonepaa.PAll
open Go.RowKit Go.Shelf Go.Proofs.YtmkmldpcoonepaaW.PrintWords Go.Proofs.YtmkmldpcoonepaaW.PrintLast Go.Proofs.YtmkmldpcoonepaaW.PrintMore
/-- The two cells of a region whose bytes lie in block p.1 (capacity p.2). -/
def cell2 (r : Reg) (p : Nat × Nat) : List Value := [.int .u64 r.base, .slice (some ⟨p.1, 0, none⟩) r.data.length p.2]
def cells2 : List Reg → List (Nat × Nat) → List Value
  | r :: R, p :: ps => cell2 r p ++ cells2 R ps
  | _, _ => []
theorem cells2_len : ∀ (R : List Reg) (ps : List (Nat × Nat)), ps.length = R.length → (cells2 R ps).length = R.length * 2
  | [], [], _ => rfl
  | r :: R, p :: ps, h => by
    simp only [cells2, cell2, List.length_append, List.length_cons, List.length_nil]
    rw [cells2_len R ps (by simpa using h)]
    omega
  | [], _ :: _, h => by simp at h
  | _ :: _, [], h => by simp at h
theorem cells2_append : ∀ (R : List Reg) (ps : List (Nat × Nat)) (r : Reg) (p : Nat × Nat), ps.length = R.length → cells2 (R ++ [r]) (ps ++ [p]) = cells2 R ps ++ cell2 r p
  | [], [], _, _, _ => by simp [cells2]
  | r' :: R, p' :: ps, r, p, h => by
    simp only [List.cons_append, cells2, cells2_append R ps r p (by simpa using h), List.append_assoc]
  | [], _ :: _, _, _, h => by simp at h
  | _ :: _, [], _, _, h => by simp at h
theorem cells2_at : ∀ (R : List Reg) (ps : List (Nat × Nat)) (i : Nat) (r : Reg) (p : Nat × Nat), R[i]? = some r → ps[i]? = some p →
    (cells2 R ps)[i * 2]? = some (.int .u64 r.base) ∧ (cells2 R ps)[i * 2 + 1]? = some (.slice (some ⟨p.1, 0, none⟩) r.data.length p.2)
  | [], _, i, r, p, h, _ => by simp at h
  | _ :: _, [], i, r, p, _, h => by simp at h
  | r' :: R, p' :: ps, 0, r, p, h, k => by
    simp at h k
    subst h; subst k
    exact ⟨rfl, rfl⟩
  | r' :: R, p' :: ps, i + 1, r, p, h, k => by
    have := cells2_at R ps i r p (by simpa using h) (by simpa using k)
    have e : (cells2 (r' :: R) (p' :: ps)) = .int .u64 r'.base :: .slice (some ⟨p'.1, 0, none⟩) r'.data.length p'.2 :: cells2 R ps := rfl
    rw [e, show (i + 1) * 2 = i * 2 + 1 + 1 by omega, show i * 2 + 1 + 1 + 1 = (i * 2 + 1) + 1 + 1 by omega]
    simpa using this
/-- The reference's memory in block b: its list lies in v, the bytes of the i-th region in block ps[i].1. -/
structure RefIn (X : World) (B : Nat) (own : Nat → Prop) (b : Nat) (R : List Reg) (v : Value) (ps : List (Nat × Nat)) : Prop where
  blk : X.heap[b]? = some (.cells #[v] 37 (0, 0))
  ob : own b
  bb : B ≤ b
  row : X.ownsRow B 126 2 v R.length (cells2 R ps)
  orow : ∀ k, v.ownBlock = some k → own k
  len : ps.length = R.length
  reg : ∀ (i : Nat) (p : Nat × Nat) (r : Reg), ps[i]? = some p → R[i]? = some r → own p.1 ∧ X.ownsRow B 5 1 (.slice (some ⟨p.1, 0, none⟩) r.data.length p.2) r.data.length (nums .u8 r.data)
  nd : (ps.map (·.1)).Nodup
def RefAt (X : World) (B : Nat) (own : Nat → Prop) (b : Nat) (R : List Reg) : Prop := ∃ v ps, RefIn X B own b R v ps
theorem RefIn.keep {X X' : World} {B : Nat} {own : Nat → Prop} {b : Nat} {R : List Reg} {v : Value} {ps : List (Nat × Nat)} (h : RefIn X B own b R v ps) (hk : ∀ k, k < X.heap.size → own k → X'.heap[k]? = X.heap[k]?) : RefIn X' B own b R v ps :=
  ⟨(hk b (Array.getElem?_eq_some_iff.1 h.blk).1 h.ob).trans h.blk, h.ob, h.bb, row_keep h.row (fun k hk' => hk k (own_lt h.row k hk') (h.orow k hk')), h.orow, h.len,
    fun i p r hp hr => by
      obtain ⟨g1, g2⟩ := h.reg i p r hp hr
      exact ⟨g1, row_keep g2 (fun k hk' => by cases hk'; exact hk p.1 (own_lt g2 p.1 rfl) g1)⟩, h.nd⟩
theorem RefIn.mono {X : World} {B : Nat} {own own' : Nat → Prop} {b : Nat} {R : List Reg} {v : Value} {ps : List (Nat × Nat)} (h : RefIn X B own b R v ps) (ho : ∀ k, k < X.heap.size → own k → own' k) : RefIn X B own' b R v ps :=
  ⟨h.blk, ho b (Array.getElem?_eq_some_iff.1 h.blk).1 h.ob, h.bb, h.row, fun k hk => ho k (own_lt h.row k hk) (h.orow k hk), h.len,
    fun i p r hp hr => by
      obtain ⟨g1, g2⟩ := h.reg i p r hp hr
      exact ⟨ho p.1 (own_lt g2 p.1 rfl) g1, g2⟩, h.nd⟩
theorem RefAt.keep {X X' : World} {B : Nat} {own : Nat → Prop} {b : Nat} {R : List Reg} (h : RefAt X B own b R) (hk : ∀ k, k < X.heap.size → own k → X'.heap[k]? = X.heap[k]?) : RefAt X' B own b R := by
  obtain ⟨v, ps, h⟩ := h
  exact ⟨v, ps, h.keep hk⟩
theorem RefAt.mono {X : World} {B : Nat} {own own' : Nat → Prop} {b : Nat} {R : List Reg} (h : RefAt X B own b R) (ho : ∀ k, k < X.heap.size → own k → own' k) : RefAt X B own' b R := by
  obtain ⟨v, ps, h⟩ := h
  exact ⟨v, ps, h.mono ho⟩
theorem RefAt.below {X X' : World} {B : Nat} {own : Nat → Prop} {b : Nat} {R : List Reg} (h : RefAt X B own b R) (hb : Below X.heap.size X X') : RefAt X' B own b R := h.keep fun k hk _ => hb.block k hk
theorem RefIn.below {X X' : World} {B : Nat} {own : Nat → Prop} {b : Nat} {R : List Reg} {v : Value} {ps : List (Nat × Nat)} (h : RefIn X B own b R v ps) (hb : Below X.heap.size X X') : RefIn X' B own b R v ps := h.keep fun k hk _ => hb.block k hk
theorem RefAt.bound {X : World} {B : Nat} {own : Nat → Prop} {b : Nat} {R : List Reg} (h : RefAt X B own b R) : RefAt X B (fun k => own k ∧ k < X.heap.size) b R := h.mono fun k hk ho => ⟨ho, hk⟩
theorem RefAt.out {X X' : World} {B : Nat} {own own' : Nat → Prop} {b : Nat} {R : List Reg} (h : RefAt X B own b R) (ho : Out own' X X') (hd : ∀ k, k < X.heap.size → own k → ¬ own' k) : RefAt X' B own b R := h.keep fun k hk hk' => ho.block k hk (hd k hk hk')
theorem blk1 {X : World} {b : Nat} {u : Value} {T : TypeId} (h : X.heap[b]? = some (.cells #[u] T (0, 0))) : X.cell? ⟨b, 0, none⟩ = some u ∧ X.frozen? ⟨b, 0, none⟩ = false := by
  refine ⟨?_, ?_⟩ <;> simp [World.cell?, World.frozen?, h]
/-- The i-th region's cells. -/
theorem RefIn.get {X : World} {B : Nat} {own : Nat → Prop} {b : Nat} {R : List Reg} {v : Value} {ps : List (Nat × Nat)} (h : RefIn X B own b R v ps) {i : Nat} (hi : i < R.length) :
    ∃ p r g cap, ps[i]? = some p ∧ R[i]? = some r ∧ v = .slice (some ⟨g, 0, none⟩) R.length cap ∧ X.cell? ⟨g, i * 2, none⟩ = some (.int .u64 r.base) ∧ X.cell? ⟨g, i * 2 + 1, none⟩ = some (.slice (some ⟨p.1, 0, none⟩) r.data.length p.2) ∧ R.length ≤ cap ∧ cap ≤ maxLen ∧
      own p.1 ∧ X.ownsRow B 5 1 (.slice (some ⟨p.1, 0, none⟩) r.data.length p.2) r.data.length (nums .u8 r.data) := by
  have hip : i < ps.length := by rw [h.len]; exact hi
  have e1 : ps[i]? = some ps[i] := List.getElem?_eq_getElem hip
  have e2 : R[i]? = some R[i] := List.getElem?_eq_getElem hi
  obtain ⟨c0, c1⟩ := cells2_at R ps i _ _ e2 e1
  rcases h.row.2 with ⟨_, h0⟩ | ⟨g, cap, cur, rfl, hg, hh, h3, h4, h5, h6⟩
  · omega
  · have k0 := h.row.cells (g := g) rfl (i * 2) _ c0
    have k1 := h.row.cells (g := g) rfl (i * 2 + 1) _ c1
    rw [add_plain] at k0 k1
    obtain ⟨o1, o2⟩ := h.reg i _ _ e1 e2
    exact ⟨_, _, g, cap, e1, e2, rfl, k0, k1, h3, h4, o1, o2⟩
end Go.Proofs.Ytmkmldpcoonepaa.PAll
/- The reference's Find. -/
set_option linter.unusedVariables false
set_option linter.unusedSimpArgs false
namespace Go.Proofs.Ytmkmldpcoonepaa.PAll
open Go.RowKit Go.Shelf Go.Proofs.YtmkmldpcoonepaaW.PrintWords Go.Proofs.YtmkmldpcoonepaaW.PrintLast Go.Proofs.YtmkmldpcoonepaaW.PrintMore
def insB (r : Reg) (a : Int) : Bool := decide (r.base ≤ a ∧ a < r.base + r.data.length)
theorem inside_f (r : Reg) (a : Int) (h0 : 0 ≤ r.base) (h1 : 0 ≤ a) (h2 : a < 18446744073709551616) (h3 : r.data.length ≤ 4294967296) : slotcoderef20_inside.f r.base r.data a = some (insB r a) := by
  unfold slotcoderef20_inside.f insB
  by_cases h : a ≥ r.base
  · rw [if_pos h, u64_mod, u64_mod, Int.emod_eq_of_lt (by omega) (by omega), Int.emod_eq_of_lt (by omega) (by omega)]
    congr 1
    exact decide_eq_decide.2 ⟨fun _ => ⟨h, by omega⟩, fun _ => by omega⟩
  · rw [if_neg h, decide_eq_false (fun hh => h hh.1)]
theorem inside_c (r : Reg) (a : Int) (A : Option Addr) (c : Nat) (w : World) (h0 : 0 ≤ r.base) (h1 : 0 ≤ a) (h2 : a < 18446744073709551616) (h3 : r.data.length ≤ 4294967296) (hC : Kd.C (Kd.int .u8) w A r.data.length r.data) (hc : r.data.length ≤ c) :
    Calls Try.prog 76 #[.agg #[.int .u64 r.base, .slice A r.data.length c], .int .u64 a] w fun e w' => e = .returned (.bool (insB r a)) ∧ Below w.heap.size w w' :=
  (slotcoderef20_inside.calls r.base A c r.data a _ w hC hc (inside_f r a h0 h1 h2 h3)).mono fun e w' h => ⟨h.1, by first | exact h.2 | exact h.2.below⟩
/-- Where an access lies. -/
theorem hit_ins {a n : Int} {r : Reg} : hitR a n r = true ↔ 1 ≤ n ∧ insB r a = true ∧ n ≤ r.data.length - (a - r.base) := by
  rw [hit_iff]
  unfold insB
  rw [decide_eq_true_eq]
  omega
/-- What holds of every region. -/
structure Ok (r : Reg) : Prop where
  pos : 0 < r.data.length
  lo : 0 ≤ r.base
  hi : r.base + r.data.length ≤ 18446744073709551616
  wf : ∀ x ∈ r.data, 0 ≤ x ∧ x < 256
  short : r.data.length ≤ 4294967296
def findR (R : List Reg) (a n : Int) : Int := match R.findIdx? (hitR a n) with
  | none => -1
  | some k => k
theorem find_at {R : List Reg} {a n : Int} {k : Nat} {r : Reg} (hr : R[k]? = some r) (hh : hitR a n r = true) (hb : ∀ (j : Nat) (q : Reg), j < k → R[j]? = some q → hitR a n q = false) : findR R a n = k := by
  have : R.findIdx? (hitR a n) = some k := by
    rw [List.findIdx?_eq_some_iff_getElem]
    obtain ⟨h1, h2⟩ := List.getElem?_eq_some_iff.1 hr
    exact ⟨h1, by rw [h2]; exact hh, fun j hj => by
      have := hb j _ hj (List.getElem?_eq_getElem (by omega))
      simp [this]⟩
  unfold findR
  rw [this]
theorem find_not {R : List Reg} {a n : Int} (hb : ∀ (j : Nat) (q : Reg), j < R.length → R[j]? = some q → hitR a n q = false) : findR R a n = -1 := by
  have : R.findIdx? (hitR a n) = none := List.findIdx?_eq_none_iff.2 (fun q hq => by
    obtain ⟨j, hj⟩ := List.mem_iff_getElem?.1 hq
    exact hb j q (List.getElem?_eq_some_iff.1 hj).1 hj)
  unfold findR
  rw [this]
set_option maxHeartbeats 2000000 in
set_option maxRecDepth 100000 in
theorem ref_Find (X : World) (B : Nat) (own : Nat → Prop) (b : Nat) (R : List Reg) (v : Value) (ps : List (Nat × Nat)) (a n : Int) (h : RefIn X B own b R v ps) (hW : ∀ r ∈ R, Ok r) (hl : R.length ≤ 1000000) (ha0 : 0 ≤ a) (ha1 : a < 18446744073709551616) (hn0 : -9223372036854775808 ≤ n) (hn1 : n < 9223372036854775808) :
    Calls Try.prog 61 #[.pointer (some ⟨b, 0, none⟩), .int .u64 a, .int .i64 n] X fun e X' => e = .returned (.int .i64 (findR R a n)) ∧ Below X.heap.size X X' := by
  obtain ⟨A, c, rfl⟩ := own_slice h.row
  have HM := Aside0.mk h
  have HW := Aside0.mk hW
  have HA := Aside0.mk (And.intro ha0 ha1)
  have HN := Aside0.mk (And.intro hn0 hn1)
  clear h hW ha0 ha1 hn0 hn1
  go_enter Try.func61, Try.ntmps61
  go_wp2_with fail
  go_loopw [7] (fun v7 wr => ∃ k : Nat, k ≤ R.length ∧ v7 = .int .i64 k ∧ Aside0 (Below X.heap.size X wr) ∧ Aside0 (∀ (j : Nat) (q : Reg), j < k → R[j]? = some q → hitR a n q = false)) (fun v7 _ => R.length - (intOf v7).toNat)
  case atStart => exact ⟨0, Nat.zero_le _, rfl, ⟨Below.refl _ _⟩, ⟨fun j q hj => by omega⟩⟩
  case round =>
    obtain ⟨k, hk, rfl, HB, HJ⟩ := hrel
    have HMr := Aside0.mk (HM.out.below HB.out)
    have hm0 := (blk1 HMr.out.blk).1
    by_cases hlt : k < R.length
    · obtain ⟨p, r, g, cap, hp, hr, hv, hc0, hc1, hcap, hcm, hop, hro⟩ := HMr.out.get hlt
      cases hv
      have hok := HW.out r (List.mem_of_getElem? hr)
      have HR := Aside0.mk hr
      have HNEXT : Aside0 (hitR a n r = false → ∀ (j : Nat) (q : Reg), j < k + 1 → R[j]? = some q → hitR a n q = false) := ⟨fun hf j q hj hq => by
        rcases Nat.lt_or_eq_of_le (Nat.le_of_lt_succ hj) with h | h
        · exact HJ.out j q h hq
        · subst h; rw [HR.out] at hq; cases hq; exact hf⟩
      by_cases hn : n < 1
      · have hf : hitR a n r = false := by
          cases hh : hitR a n r with
          | false => rfl
          | true => have := (hit_ins.1 hh).1; omega
        have HF := Aside0.mk (HNEXT.out hf)
        clear hf hok hr hp hro hop hcap hcm
        have hd : decide ((1 : Int) ≤ n) = false := decide_eq_false (by omega)
        have HBD : Aside0 (Below X.heap.size X wr.drew) := ⟨below_drew HB.out⟩
        go_wp2_with fail
        go_region
        go_wp2_with fail
        exact ⟨⟨k + 1, by omega, by congr 1, HBD, HF⟩, by simp [intOf]; omega⟩
      · have hd : decide ((1 : Int) ≤ n) = true := decide_eq_true (by omega)
        have HBD : Aside0 (Below X.heap.size X wr.drew) := ⟨below_drew HB.out⟩
        have hmd : wr.drew.cell? ⟨b, 0, none⟩ = some (.slice (some ⟨g, 0, none⟩) R.length c) := hm0
        have hcd0 : wr.drew.cell? ⟨g, k * 2, none⟩ = some (.int .u64 r.base) := hc0
        have hcd1 : wr.drew.cell? ⟨g, k * 2 + 1, none⟩ = some (.slice (some ⟨p.1, 0, none⟩) r.data.length p.2) := hc1
        have hcap2 : r.data.length ≤ p.2 := by
          rcases hro.2 with ⟨h1, _⟩ | ⟨_, _, _, h1, _, _, h3, _⟩
          · cases h1
          · cases h1; exact h3
        have HBwr : Aside0 (Below wr.heap.size wr wr.drew) := ⟨below_drew (Below.refl _ _)⟩
        have HINS : Aside0 (∀ w, (w.cell? ⟨b, 0, none⟩ = some (.slice (some ⟨g, 0, none⟩) R.length c) ∧ w.cell? ⟨g, k * 2, none⟩ = some (.int .u64 r.base) ∧ w.cell? ⟨g, k * 2 + 1, none⟩ = some (.slice (some ⟨p.1, 0, none⟩) r.data.length p.2) ∧ Below wr.heap.size wr w) →
            Calls Try.prog 76 #[.agg #[.int .u64 r.base, .slice (some ⟨p.1, 0, none⟩) r.data.length p.2], .int .u64 a] w fun e w' => e = .returned (.bool (insB r a)) ∧
              (w'.cell? ⟨b, 0, none⟩ = some (.slice (some ⟨g, 0, none⟩) R.length c) ∧ w'.cell? ⟨g, k * 2, none⟩ = some (.int .u64 r.base) ∧ w'.cell? ⟨g, k * 2 + 1, none⟩ = some (.slice (some ⟨p.1, 0, none⟩) r.data.length p.2) ∧ Below wr.heap.size wr w')) := ⟨fun w ⟨s1, s2, s3, hb⟩ => by
          obtain ⟨A2, c2, he2, _, _, hC2⟩ := row_C (row_keep hro (X' := w) (fun q hq => by cases hq; exact hb.block p.1 (own_lt hro p.1 rfl)))
          obtain ⟨rfl, rfl⟩ : A2 = some ⟨p.1, 0, none⟩ ∧ c2 = p.2 := by
            have := he2
            simp only [Value.slice.injEq] at this
            exact ⟨this.1.symm, this.2.2.symm⟩
          refine (inside_c r a _ _ w hok.lo HA.out.1 HA.out.2 hok.short hC2 hcap2).mono ?_
          rintro e w' ⟨he, hb'⟩
          exact ⟨he, pw_cell_below hb' s1, pw_cell_below hb' s2, pw_cell_below hb' s3, below_then hb hb.size hb'⟩⟩
        have HOK := Aside0.mk hok
        clear hok hr hp hro hop hcap hcm hcap2
        have HBw := Aside0.mk HB.out
        cases hins : insB r a with
        | false =>
          have hf : hitR a n r = false := by
            cases hh : hitR a n r with
            | false => rfl
            | true => have := (hit_ins.1 hh).2.1; rw [hins] at this; cases this
          have HF := Aside0.mk (HNEXT.out hf)
          rw [hins] at HINS
          clear hf hins
          go_wp2_with fail
          refine wp_region_held_drew (S := (fun w' => w'.cell? ⟨b, 0, none⟩ = some (.slice (some ⟨g, 0, none⟩) R.length c) ∧ w'.cell? ⟨g, k * 2, none⟩ = some (.int .u64 r.base) ∧ w'.cell? ⟨g, k * 2 + 1, none⟩ = some (.slice (some ⟨p.1, 0, none⟩) r.data.length p.2) ∧ Below wr.heap.size wr w')) (by kernel_rfl) ⟨hmd, hcd0, hcd1, HBwr.out⟩ (fun hHeld => ?_)
          refine wpAnyH_take (i := 0) (oi := { dst := some 17, op := Op.move (Operand.tmp 2), type := 3, pos := "ref.go:19", after := #[], guard := none }) (v := ?v0) rfl (by kernel_rfl) (by kernel_rfl) (by kernel_rfl) (fun _ _ _ h => h) (Or.inl ⟨by rfl, ?hy0⟩) (by assumption) ?rest0
          case hy0 => (intro w hSw; (try dsimp only at hSw); first | (go_simp; done) | (go_simp; with_reducible rfl))
          try simp only [Act.put, List.setIfInBounds_toArray, List.set_cons_zero, List.set_cons_succ]
          refine wpAnyH_take (i := 1) (oi := { dst := some 18, op := Op.binOp BinOp.geq 3 (Operand.tmp 17) (Operand.const (Value.int IntKind.i64 1)) 3, type := 4, pos := "ref.go:19", after := #[{ on := 0, ground := Ground.data }], guard := none }) (v := ?v1) rfl (by kernel_rfl) (by kernel_rfl) (by kernel_rfl) (fun _ _ _ h => h) (Or.inl ⟨by rfl, ?hy1⟩) (by assumption) ?rest1
          case hy1 => (intro w hSw; (try dsimp only at hSw); first | (go_simp; done) | (go_simp; with_reducible rfl))
          try simp only [Act.put, List.setIfInBounds_toArray, List.set_cons_zero, List.set_cons_succ]
          refine wpAnyH_take (i := 2) (oi := { dst := some 19, op := Op.move (Operand.tmp 18), type := 4, pos := "ref.go:19", after := #[{ on := 1, ground := Ground.data }], guard := none }) (v := ?v2) rfl (by kernel_rfl) (by kernel_rfl) (by kernel_rfl) (fun _ _ _ h => h) (Or.inl ⟨by rfl, ?hy2⟩) (by assumption) ?rest2
          case hy2 => (intro w hSw; (try dsimp only at hSw); first | (go_simp; done) | (go_simp; with_reducible rfl))
          try simp only [Act.put, List.setIfInBounds_toArray, List.set_cons_zero, List.set_cons_succ]
          refine wpAnyH_take (i := 3) (oi := { dst := some 20, op := Op.move (Operand.tmp 0), type := 34, pos := "ref.go:19", after := #[{ on := 2, ground := Ground.guard }], guard := some (2, true) }) (v := ?v3) rfl (by kernel_rfl) (by kernel_rfl) (by kernel_rfl) (fun _ _ _ h => h) (Or.inl ⟨by rfl, ?hy3⟩) (by assumption) ?rest3
          case hy3 => (intro w hSw; (try dsimp only at hSw); first | (go_simp; done) | (go_simp; with_reducible rfl))
          try simp only [Act.put, List.setIfInBounds_toArray, List.set_cons_zero, List.set_cons_succ]
          refine wpAnyH_take (i := 4) (oi := { dst := some 21, op := Op.nilCheck (Operand.tmp 20), type := 0, pos := "ref.go:19", after := #[{ on := 3, ground := Ground.data }, { on := 2, ground := Ground.guard }], guard := some (2, true) }) (v := ?v4) rfl (by kernel_rfl) (by kernel_rfl) (by kernel_rfl) (fun _ _ _ h => h) (Or.inl ⟨by rfl, ?hy4⟩) (by assumption) ?rest4
          case hy4 => (intro w hSw; (try dsimp only at hSw); first | (go_simp; done) | (go_simp; with_reducible rfl))
          try simp only [Act.put, List.setIfInBounds_toArray, List.set_cons_zero, List.set_cons_succ]
          refine wpAnyH_take (i := 5) (oi := { dst := some 22, op := Op.fieldAddr 37 (Operand.tmp 21) 0, type := 0, pos := "ref.go:19", after := #[{ on := 4, ground := Ground.data }, { on := 2, ground := Ground.guard }], guard := some (2, true) }) (v := ?v5) rfl (by kernel_rfl) (by kernel_rfl) (by kernel_rfl) (fun _ _ _ h => h) (Or.inl ⟨by rfl, ?hy5⟩) (by assumption) ?rest5
          case hy5 => (intro w hSw; (try dsimp only at hSw); first | (go_simp; done) | (go_simp; with_reducible rfl))
          try simp only [Act.put, List.setIfInBounds_toArray, List.set_cons_zero, List.set_cons_succ]
          refine wpAnyH_take (i := 6) (oi := { dst := some 23, op := Op.load 35 (Operand.tmp 22), type := 35, pos := "ref.go:19", after := #[{ on := 5, ground := Ground.data }, { on := 2, ground := Ground.guard }], guard := some (2, true) }) (v := ?v6) rfl (by kernel_rfl) (by kernel_rfl) (by kernel_rfl) (fun _ _ _ h => h) (Or.inl ⟨by rfl, ?hy6⟩) (by assumption) ?rest6
          case hy6 => (intro w hSw; (try dsimp only at hSw); first | (go_simp; done) | (go_simp; with_reducible rfl))
          try simp only [Act.put, List.setIfInBounds_toArray, List.set_cons_zero, List.set_cons_succ]
          refine wpAnyH_take (i := 7) (oi := { dst := some 24, op := Op.move (Operand.tmp 7), type := 3, pos := "ref.go:19", after := #[{ on := 2, ground := Ground.guard }], guard := some (2, true) }) (v := ?v7) rfl (by kernel_rfl) (by kernel_rfl) (by kernel_rfl) (fun _ _ _ h => h) (Or.inl ⟨by rfl, ?hy7⟩) (by assumption) ?rest7
          case hy7 => (intro w hSw; (try dsimp only at hSw); first | (go_simp; done) | (go_simp; with_reducible rfl))
          try simp only [Act.put, List.setIfInBounds_toArray, List.set_cons_zero, List.set_cons_succ]
          refine wpAnyH_take (i := 8) (oi := { dst := some 25, op := Op.indexAddr 35 (Operand.tmp 23) (Operand.tmp 24), type := 0, pos := "ref.go:19", after := #[{ on := 6, ground := Ground.data }, { on := 7, ground := Ground.data }, { on := 2, ground := Ground.guard }], guard := some (2, true) }) (v := ?v8) rfl (by kernel_rfl) (by kernel_rfl) (by kernel_rfl) (fun _ _ _ h => h) (Or.inl ⟨by rfl, ?hy8⟩) (by assumption) ?rest8
          case hy8 => (intro w hSw; (try dsimp only at hSw); first | (go_simp; done) | (go_simp; with_reducible rfl))
          try simp only [Act.put, List.setIfInBounds_toArray, List.set_cons_zero, List.set_cons_succ]
          refine wpAnyH_take (i := 9) (oi := { dst := some 26, op := Op.load 126 (Operand.tmp 25), type := 126, pos := "ref.go:19", after := #[{ on := 8, ground := Ground.data }, { on := 2, ground := Ground.guard }], guard := some (2, true) }) (v := ?v9) rfl (by kernel_rfl) (by kernel_rfl) (by kernel_rfl) (fun _ _ _ h => h) (Or.inl ⟨by rfl, ?hy9⟩) (by assumption) ?rest9
          case hy9 => (intro w hSw; (try dsimp only at hSw); first | (go_simp; done) | (go_simp; with_reducible rfl))
          try simp only [Act.put, List.setIfInBounds_toArray, List.set_cons_zero, List.set_cons_succ]
          refine wpAnyH_take (i := 10) (oi := { dst := some 27, op := Op.move (Operand.tmp 1), type := 23, pos := "ref.go:19", after := #[{ on := 2, ground := Ground.guard }], guard := some (2, true) }) (v := ?v10) rfl (by kernel_rfl) (by kernel_rfl) (by kernel_rfl) (fun _ _ _ h => h) (Or.inl ⟨by rfl, ?hy10⟩) (by assumption) ?rest10
          case hy10 => (intro w hSw; (try dsimp only at hSw); first | (go_simp; done) | (go_simp; with_reducible rfl))
          try simp only [Act.put, List.setIfInBounds_toArray, List.set_cons_zero, List.set_cons_succ]
          refine wpAnyH_ready (rs := [11]) (by kernel_rfl) (by simp) (AllReadyH.cons (o := { dst := some 28, op := Op.call { callee := Callee.value (Operand.func 76), args := #[Operand.tmp 26, Operand.tmp 27], argTypes := #[126, 23] }, type := 4, pos := "ref.go:19", after := #[{ on := 9, ground := Ground.data }, { on := 10, ground := Ground.data }, { on := 2, ground := Ground.chain }, { on := 2, ground := Ground.guard }], guard := some (2, true) }) rfl (fun K hK => ?step) AllReadyH.nil)
          go_simp
          go_at_call 76
          refine (HINS.out _ hHeld).mono ?_
          rintro e w3 ⟨rfl, hS3⟩
          try dsimp only
          refine hK.out _ _ hS3 (fun hHeld2 => ?_)
          clear hK K hHeld
          try simp only [Act.put, List.setIfInBounds_toArray, List.set_cons_zero, List.set_cons_succ]
          refine wpAnyH_take (i := 12) (oi := { dst := some 29, op := Op.pick (Operand.tmp 19) (Operand.tmp 28) (Operand.const (Value.bool false)), type := 4, pos := "ref.go:19", after := #[{ on := 2, ground := Ground.data }, { on := 11, ground := Ground.data }], guard := none }) (v := ?v12) rfl (by kernel_rfl) (by kernel_rfl) (by kernel_rfl) (fun _ _ _ h => h) (Or.inl ⟨by rfl, ?hy12⟩) (by assumption) ?rest12
          case hy12 => (intro w hSw; (try dsimp only at hSw); first | (go_simp; done) | (go_simp; with_reducible rfl))
          try simp only [Act.put, List.setIfInBounds_toArray, List.set_cons_zero, List.set_cons_succ]
          refine wpAnyH_take (i := 13) (oi := { dst := some 30, op := Op.move (Operand.tmp 29), type := 4, pos := "ref.go:19", after := #[{ on := 12, ground := Ground.data }, { on := 11, ground := Ground.chain }], guard := none }) (v := ?v13) rfl (by kernel_rfl) (by kernel_rfl) (by kernel_rfl) (fun _ _ _ h => h) (Or.inl ⟨by rfl, ?hy13⟩) (by assumption) ?rest13
          case hy13 => (intro w hSw; (try dsimp only at hSw); first | (go_simp; done) | (go_simp; with_reducible rfl))
          try simp only [Act.put, List.setIfInBounds_toArray, List.set_cons_zero, List.set_cons_succ]
          refine wpAnyH_take (i := 14) (oi := { dst := some 31, op := Op.move (Operand.tmp 2), type := 3, pos := "ref.go:19", after := #[{ on := 13, ground := Ground.guard }], guard := some (13, true) }) (v := undef) rfl (by kernel_rfl) (by kernel_rfl) (by kernel_rfl) (fun _ _ _ h => h) (Or.inr ⟨by rfl, rfl⟩) (by assumption) ?rest14
          try simp only [Act.put, List.setIfInBounds_toArray, List.set_cons_zero, List.set_cons_succ]
          refine wpAnyH_take (i := 15) (oi := { dst := some 32, op := Op.convert 3 23 (Operand.tmp 31), type := 23, pos := "ref.go:19", after := #[{ on := 14, ground := Ground.data }, { on := 13, ground := Ground.guard }], guard := some (13, true) }) (v := undef) rfl (by kernel_rfl) (by kernel_rfl) (by kernel_rfl) (fun _ _ _ h => h) (Or.inr ⟨by rfl, rfl⟩) (by assumption) ?rest15
          try simp only [Act.put, List.setIfInBounds_toArray, List.set_cons_zero, List.set_cons_succ]
          refine wpAnyH_take (i := 16) (oi := { dst := some 33, op := Op.move (Operand.tmp 0), type := 34, pos := "ref.go:19", after := #[{ on := 13, ground := Ground.guard }], guard := some (13, true) }) (v := undef) rfl (by kernel_rfl) (by kernel_rfl) (by kernel_rfl) (fun _ _ _ h => h) (Or.inr ⟨by rfl, rfl⟩) (by assumption) ?rest16
          try simp only [Act.put, List.setIfInBounds_toArray, List.set_cons_zero, List.set_cons_succ]
          refine wpAnyH_take (i := 17) (oi := { dst := some 34, op := Op.nilCheck (Operand.tmp 33), type := 0, pos := "ref.go:19", after := #[{ on := 16, ground := Ground.data }, { on := 13, ground := Ground.guard }], guard := some (13, true) }) (v := undef) rfl (by kernel_rfl) (by kernel_rfl) (by kernel_rfl) (fun _ _ _ h => h) (Or.inr ⟨by rfl, rfl⟩) (by assumption) ?rest17
          try simp only [Act.put, List.setIfInBounds_toArray, List.set_cons_zero, List.set_cons_succ]
          refine wpAnyH_take (i := 18) (oi := { dst := some 35, op := Op.fieldAddr 37 (Operand.tmp 34) 0, type := 0, pos := "ref.go:19", after := #[{ on := 17, ground := Ground.data }, { on := 13, ground := Ground.guard }], guard := some (13, true) }) (v := undef) rfl (by kernel_rfl) (by kernel_rfl) (by kernel_rfl) (fun _ _ _ h => h) (Or.inr ⟨by rfl, rfl⟩) (by assumption) ?rest18
          try simp only [Act.put, List.setIfInBounds_toArray, List.set_cons_zero, List.set_cons_succ]
          refine wpAnyH_take (i := 19) (oi := { dst := some 36, op := Op.load 35 (Operand.tmp 35), type := 35, pos := "ref.go:19", after := #[{ on := 18, ground := Ground.data }, { on := 13, ground := Ground.guard }], guard := some (13, true) }) (v := undef) rfl (by kernel_rfl) (by kernel_rfl) (by kernel_rfl) (fun _ _ _ h => h) (Or.inr ⟨by rfl, rfl⟩) (by assumption) ?rest19
          try simp only [Act.put, List.setIfInBounds_toArray, List.set_cons_zero, List.set_cons_succ]
          refine wpAnyH_take (i := 20) (oi := { dst := some 37, op := Op.move (Operand.tmp 7), type := 3, pos := "ref.go:19", after := #[{ on := 13, ground := Ground.guard }], guard := some (13, true) }) (v := undef) rfl (by kernel_rfl) (by kernel_rfl) (by kernel_rfl) (fun _ _ _ h => h) (Or.inr ⟨by rfl, rfl⟩) (by assumption) ?rest20
          try simp only [Act.put, List.setIfInBounds_toArray, List.set_cons_zero, List.set_cons_succ]
          refine wpAnyH_take (i := 21) (oi := { dst := some 38, op := Op.indexAddr 35 (Operand.tmp 36) (Operand.tmp 37), type := 0, pos := "ref.go:19", after := #[{ on := 19, ground := Ground.data }, { on := 20, ground := Ground.data }, { on := 13, ground := Ground.guard }], guard := some (13, true) }) (v := undef) rfl (by kernel_rfl) (by kernel_rfl) (by kernel_rfl) (fun _ _ _ h => h) (Or.inr ⟨by rfl, rfl⟩) (by assumption) ?rest21
          try simp only [Act.put, List.setIfInBounds_toArray, List.set_cons_zero, List.set_cons_succ]
          refine wpAnyH_take (i := 22) (oi := { dst := some 39, op := Op.fieldAddr 126 (Operand.tmp 38) 1, type := 0, pos := "ref.go:19", after := #[{ on := 21, ground := Ground.data }, { on := 13, ground := Ground.guard }], guard := some (13, true) }) (v := undef) rfl (by kernel_rfl) (by kernel_rfl) (by kernel_rfl) (fun _ _ _ h => h) (Or.inr ⟨by rfl, rfl⟩) (by assumption) ?rest22
          try simp only [Act.put, List.setIfInBounds_toArray, List.set_cons_zero, List.set_cons_succ]
          refine wpAnyH_take (i := 23) (oi := { dst := some 40, op := Op.load 46 (Operand.tmp 39), type := 46, pos := "ref.go:19", after := #[{ on := 22, ground := Ground.data }, { on := 13, ground := Ground.guard }], guard := some (13, true) }) (v := undef) rfl (by kernel_rfl) (by kernel_rfl) (by kernel_rfl) (fun _ _ _ h => h) (Or.inr ⟨by rfl, rfl⟩) (by assumption) ?rest23
          try simp only [Act.put, List.setIfInBounds_toArray, List.set_cons_zero, List.set_cons_succ]
          refine wpAnyH_take (i := 24) (oi := { dst := some 41, op := Op.call { callee := Callee.builtin Builtin.len, args := #[Operand.tmp 40], argTypes := #[46] }, type := 3, pos := "ref.go:19", after := #[{ on := 23, ground := Ground.data }, { on := 13, ground := Ground.guard }], guard := some (13, true) }) (v := undef) rfl (by kernel_rfl) (by kernel_rfl) (by kernel_rfl) (fun _ _ _ h => h) (Or.inr ⟨by rfl, rfl⟩) (by assumption) ?rest24
          try simp only [Act.put, List.setIfInBounds_toArray, List.set_cons_zero, List.set_cons_succ]
          refine wpAnyH_take (i := 25) (oi := { dst := some 42, op := Op.convert 3 23 (Operand.tmp 41), type := 23, pos := "ref.go:19", after := #[{ on := 24, ground := Ground.data }, { on := 13, ground := Ground.guard }], guard := some (13, true) }) (v := undef) rfl (by kernel_rfl) (by kernel_rfl) (by kernel_rfl) (fun _ _ _ h => h) (Or.inr ⟨by rfl, rfl⟩) (by assumption) ?rest25
          try simp only [Act.put, List.setIfInBounds_toArray, List.set_cons_zero, List.set_cons_succ]
          refine wpAnyH_take (i := 26) (oi := { dst := some 43, op := Op.move (Operand.tmp 1), type := 23, pos := "ref.go:19", after := #[{ on := 13, ground := Ground.guard }], guard := some (13, true) }) (v := undef) rfl (by kernel_rfl) (by kernel_rfl) (by kernel_rfl) (fun _ _ _ h => h) (Or.inr ⟨by rfl, rfl⟩) (by assumption) ?rest26
          try simp only [Act.put, List.setIfInBounds_toArray, List.set_cons_zero, List.set_cons_succ]
          refine wpAnyH_take (i := 27) (oi := { dst := some 44, op := Op.move (Operand.tmp 0), type := 34, pos := "ref.go:19", after := #[{ on := 13, ground := Ground.guard }], guard := some (13, true) }) (v := undef) rfl (by kernel_rfl) (by kernel_rfl) (by kernel_rfl) (fun _ _ _ h => h) (Or.inr ⟨by rfl, rfl⟩) (by assumption) ?rest27
          try simp only [Act.put, List.setIfInBounds_toArray, List.set_cons_zero, List.set_cons_succ]
          refine wpAnyH_take (i := 28) (oi := { dst := some 45, op := Op.nilCheck (Operand.tmp 44), type := 0, pos := "ref.go:19", after := #[{ on := 27, ground := Ground.data }, { on := 13, ground := Ground.guard }], guard := some (13, true) }) (v := undef) rfl (by kernel_rfl) (by kernel_rfl) (by kernel_rfl) (fun _ _ _ h => h) (Or.inr ⟨by rfl, rfl⟩) (by assumption) ?rest28
          try simp only [Act.put, List.setIfInBounds_toArray, List.set_cons_zero, List.set_cons_succ]
          refine wpAnyH_take (i := 29) (oi := { dst := some 46, op := Op.fieldAddr 37 (Operand.tmp 45) 0, type := 0, pos := "ref.go:19", after := #[{ on := 28, ground := Ground.data }, { on := 13, ground := Ground.guard }], guard := some (13, true) }) (v := undef) rfl (by kernel_rfl) (by kernel_rfl) (by kernel_rfl) (fun _ _ _ h => h) (Or.inr ⟨by rfl, rfl⟩) (by assumption) ?rest29
          try simp only [Act.put, List.setIfInBounds_toArray, List.set_cons_zero, List.set_cons_succ]
          refine wpAnyH_take (i := 30) (oi := { dst := some 47, op := Op.load 35 (Operand.tmp 46), type := 35, pos := "ref.go:19", after := #[{ on := 29, ground := Ground.data }, { on := 13, ground := Ground.guard }], guard := some (13, true) }) (v := undef) rfl (by kernel_rfl) (by kernel_rfl) (by kernel_rfl) (fun _ _ _ h => h) (Or.inr ⟨by rfl, rfl⟩) (by assumption) ?rest30
          try simp only [Act.put, List.setIfInBounds_toArray, List.set_cons_zero, List.set_cons_succ]
          refine wpAnyH_take (i := 31) (oi := { dst := some 48, op := Op.move (Operand.tmp 7), type := 3, pos := "ref.go:19", after := #[{ on := 13, ground := Ground.guard }], guard := some (13, true) }) (v := undef) rfl (by kernel_rfl) (by kernel_rfl) (by kernel_rfl) (fun _ _ _ h => h) (Or.inr ⟨by rfl, rfl⟩) (by assumption) ?rest31
          try simp only [Act.put, List.setIfInBounds_toArray, List.set_cons_zero, List.set_cons_succ]
          refine wpAnyH_take (i := 32) (oi := { dst := some 49, op := Op.indexAddr 35 (Operand.tmp 47) (Operand.tmp 48), type := 0, pos := "ref.go:19", after := #[{ on := 30, ground := Ground.data }, { on := 31, ground := Ground.data }, { on := 13, ground := Ground.guard }], guard := some (13, true) }) (v := undef) rfl (by kernel_rfl) (by kernel_rfl) (by kernel_rfl) (fun _ _ _ h => h) (Or.inr ⟨by rfl, rfl⟩) (by assumption) ?rest32
          try simp only [Act.put, List.setIfInBounds_toArray, List.set_cons_zero, List.set_cons_succ]
          refine wpAnyH_take (i := 33) (oi := { dst := some 50, op := Op.fieldAddr 126 (Operand.tmp 49) 0, type := 0, pos := "ref.go:19", after := #[{ on := 32, ground := Ground.data }, { on := 13, ground := Ground.guard }], guard := some (13, true) }) (v := undef) rfl (by kernel_rfl) (by kernel_rfl) (by kernel_rfl) (fun _ _ _ h => h) (Or.inr ⟨by rfl, rfl⟩) (by assumption) ?rest33
          try simp only [Act.put, List.setIfInBounds_toArray, List.set_cons_zero, List.set_cons_succ]
          refine wpAnyH_take (i := 34) (oi := { dst := some 51, op := Op.load 23 (Operand.tmp 50), type := 23, pos := "ref.go:19", after := #[{ on := 33, ground := Ground.data }, { on := 13, ground := Ground.guard }], guard := some (13, true) }) (v := undef) rfl (by kernel_rfl) (by kernel_rfl) (by kernel_rfl) (fun _ _ _ h => h) (Or.inr ⟨by rfl, rfl⟩) (by assumption) ?rest34
          try simp only [Act.put, List.setIfInBounds_toArray, List.set_cons_zero, List.set_cons_succ]
          refine wpAnyH_take (i := 35) (oi := { dst := some 52, op := Op.binOp BinOp.sub 23 (Operand.tmp 43) (Operand.tmp 51) 23, type := 23, pos := "ref.go:19", after := #[{ on := 26, ground := Ground.data }, { on := 34, ground := Ground.data }, { on := 13, ground := Ground.guard }], guard := some (13, true) }) (v := undef) rfl (by kernel_rfl) (by kernel_rfl) (by kernel_rfl) (fun _ _ _ h => h) (Or.inr ⟨by rfl, rfl⟩) (by assumption) ?rest35
          try simp only [Act.put, List.setIfInBounds_toArray, List.set_cons_zero, List.set_cons_succ]
          refine wpAnyH_take (i := 36) (oi := { dst := some 53, op := Op.binOp BinOp.sub 23 (Operand.tmp 42) (Operand.tmp 52) 23, type := 23, pos := "ref.go:19", after := #[{ on := 25, ground := Ground.data }, { on := 35, ground := Ground.data }, { on := 13, ground := Ground.guard }], guard := some (13, true) }) (v := undef) rfl (by kernel_rfl) (by kernel_rfl) (by kernel_rfl) (fun _ _ _ h => h) (Or.inr ⟨by rfl, rfl⟩) (by assumption) ?rest36
          try simp only [Act.put, List.setIfInBounds_toArray, List.set_cons_zero, List.set_cons_succ]
          refine wpAnyH_take (i := 37) (oi := { dst := some 54, op := Op.binOp BinOp.leq 23 (Operand.tmp 32) (Operand.tmp 53) 23, type := 4, pos := "ref.go:19", after := #[{ on := 15, ground := Ground.data }, { on := 36, ground := Ground.data }, { on := 13, ground := Ground.guard }], guard := some (13, true) }) (v := undef) rfl (by kernel_rfl) (by kernel_rfl) (by kernel_rfl) (fun _ _ _ h => h) (Or.inr ⟨by rfl, rfl⟩) (by assumption) ?rest37
          try simp only [Act.put, List.setIfInBounds_toArray, List.set_cons_zero, List.set_cons_succ]
          refine wpAnyH_take (i := 38) (oi := { dst := some 55, op := Op.pick (Operand.tmp 30) (Operand.tmp 54) (Operand.const (Value.bool false)), type := 4, pos := "ref.go:19", after := #[{ on := 13, ground := Ground.data }, { on := 37, ground := Ground.data }], guard := none }) (v := ?v38) rfl (by kernel_rfl) (by kernel_rfl) (by kernel_rfl) (fun _ _ _ h => h) (Or.inl ⟨by rfl, ?hy38⟩) (by assumption) ?rest38
          case hy38 => (intro w hSw; (try dsimp only at hSw); first | (go_simp; done) | (go_simp; with_reducible rfl))
          try simp only [Act.put, List.setIfInBounds_toArray, List.set_cons_zero, List.set_cons_succ]
          refine wpAnyH_done (by kernel_rfl) ?_ _
          have HB3 : Aside0 (Below X.heap.size X w3) := ⟨HBw.out.trans (hS3.2.2.2.mono HBw.out.size)⟩
          clear hS3 hHeld2
          go_wp2_with fail
          exact ⟨⟨k + 1, by omega, by congr 1, HB3, HF⟩, by simp [intOf]; omega⟩
        | true =>
          rw [hins] at HINS
          have HHIT : Aside0 (insB r a = true) := ⟨hins⟩
          clear hins
          go_wp2_with fail
          refine wp_region_held_drew (S := (fun w' => w'.cell? ⟨b, 0, none⟩ = some (.slice (some ⟨g, 0, none⟩) R.length c) ∧ w'.cell? ⟨g, k * 2, none⟩ = some (.int .u64 r.base) ∧ w'.cell? ⟨g, k * 2 + 1, none⟩ = some (.slice (some ⟨p.1, 0, none⟩) r.data.length p.2) ∧ Below wr.heap.size wr w')) (by kernel_rfl) ⟨hmd, hcd0, hcd1, HBwr.out⟩ (fun hHeld => ?_)
          refine wpAnyH_take (i := 0) (oi := { dst := some 17, op := Op.move (Operand.tmp 2), type := 3, pos := "ref.go:19", after := #[], guard := none }) (v := ?vt0) rfl (by kernel_rfl) (by kernel_rfl) (by kernel_rfl) (fun _ _ _ h => h) (Or.inl ⟨by rfl, ?hyt0⟩) (by assumption) ?restt0
          case hyt0 => (intro w hSw; (try dsimp only at hSw); first | (go_simp; done) | (go_simp; with_reducible rfl))
          try simp only [Act.put, List.setIfInBounds_toArray, List.set_cons_zero, List.set_cons_succ]
          refine wpAnyH_take (i := 1) (oi := { dst := some 18, op := Op.binOp BinOp.geq 3 (Operand.tmp 17) (Operand.const (Value.int IntKind.i64 1)) 3, type := 4, pos := "ref.go:19", after := #[{ on := 0, ground := Ground.data }], guard := none }) (v := ?vt1) rfl (by kernel_rfl) (by kernel_rfl) (by kernel_rfl) (fun _ _ _ h => h) (Or.inl ⟨by rfl, ?hyt1⟩) (by assumption) ?restt1
          case hyt1 => (intro w hSw; (try dsimp only at hSw); first | (go_simp; done) | (go_simp; with_reducible rfl))
          try simp only [Act.put, List.setIfInBounds_toArray, List.set_cons_zero, List.set_cons_succ]
          refine wpAnyH_take (i := 2) (oi := { dst := some 19, op := Op.move (Operand.tmp 18), type := 4, pos := "ref.go:19", after := #[{ on := 1, ground := Ground.data }], guard := none }) (v := ?vt2) rfl (by kernel_rfl) (by kernel_rfl) (by kernel_rfl) (fun _ _ _ h => h) (Or.inl ⟨by rfl, ?hyt2⟩) (by assumption) ?restt2
          case hyt2 => (intro w hSw; (try dsimp only at hSw); first | (go_simp; done) | (go_simp; with_reducible rfl))
          try simp only [Act.put, List.setIfInBounds_toArray, List.set_cons_zero, List.set_cons_succ]
          refine wpAnyH_take (i := 3) (oi := { dst := some 20, op := Op.move (Operand.tmp 0), type := 34, pos := "ref.go:19", after := #[{ on := 2, ground := Ground.guard }], guard := some (2, true) }) (v := ?vt3) rfl (by kernel_rfl) (by kernel_rfl) (by kernel_rfl) (fun _ _ _ h => h) (Or.inl ⟨by rfl, ?hyt3⟩) (by assumption) ?restt3
          case hyt3 => (intro w hSw; (try dsimp only at hSw); first | (go_simp; done) | (go_simp; with_reducible rfl))
          try simp only [Act.put, List.setIfInBounds_toArray, List.set_cons_zero, List.set_cons_succ]
          refine wpAnyH_take (i := 4) (oi := { dst := some 21, op := Op.nilCheck (Operand.tmp 20), type := 0, pos := "ref.go:19", after := #[{ on := 3, ground := Ground.data }, { on := 2, ground := Ground.guard }], guard := some (2, true) }) (v := ?vt4) rfl (by kernel_rfl) (by kernel_rfl) (by kernel_rfl) (fun _ _ _ h => h) (Or.inl ⟨by rfl, ?hyt4⟩) (by assumption) ?restt4
          case hyt4 => (intro w hSw; (try dsimp only at hSw); first | (go_simp; done) | (go_simp; with_reducible rfl))
          try simp only [Act.put, List.setIfInBounds_toArray, List.set_cons_zero, List.set_cons_succ]
          refine wpAnyH_take (i := 5) (oi := { dst := some 22, op := Op.fieldAddr 37 (Operand.tmp 21) 0, type := 0, pos := "ref.go:19", after := #[{ on := 4, ground := Ground.data }, { on := 2, ground := Ground.guard }], guard := some (2, true) }) (v := ?vt5) rfl (by kernel_rfl) (by kernel_rfl) (by kernel_rfl) (fun _ _ _ h => h) (Or.inl ⟨by rfl, ?hyt5⟩) (by assumption) ?restt5
          case hyt5 => (intro w hSw; (try dsimp only at hSw); first | (go_simp; done) | (go_simp; with_reducible rfl))
          try simp only [Act.put, List.setIfInBounds_toArray, List.set_cons_zero, List.set_cons_succ]
          refine wpAnyH_take (i := 6) (oi := { dst := some 23, op := Op.load 35 (Operand.tmp 22), type := 35, pos := "ref.go:19", after := #[{ on := 5, ground := Ground.data }, { on := 2, ground := Ground.guard }], guard := some (2, true) }) (v := ?vt6) rfl (by kernel_rfl) (by kernel_rfl) (by kernel_rfl) (fun _ _ _ h => h) (Or.inl ⟨by rfl, ?hyt6⟩) (by assumption) ?restt6
          case hyt6 => (intro w hSw; (try dsimp only at hSw); first | (go_simp; done) | (go_simp; with_reducible rfl))
          try simp only [Act.put, List.setIfInBounds_toArray, List.set_cons_zero, List.set_cons_succ]
          refine wpAnyH_take (i := 7) (oi := { dst := some 24, op := Op.move (Operand.tmp 7), type := 3, pos := "ref.go:19", after := #[{ on := 2, ground := Ground.guard }], guard := some (2, true) }) (v := ?vt7) rfl (by kernel_rfl) (by kernel_rfl) (by kernel_rfl) (fun _ _ _ h => h) (Or.inl ⟨by rfl, ?hyt7⟩) (by assumption) ?restt7
          case hyt7 => (intro w hSw; (try dsimp only at hSw); first | (go_simp; done) | (go_simp; with_reducible rfl))
          try simp only [Act.put, List.setIfInBounds_toArray, List.set_cons_zero, List.set_cons_succ]
          refine wpAnyH_take (i := 8) (oi := { dst := some 25, op := Op.indexAddr 35 (Operand.tmp 23) (Operand.tmp 24), type := 0, pos := "ref.go:19", after := #[{ on := 6, ground := Ground.data }, { on := 7, ground := Ground.data }, { on := 2, ground := Ground.guard }], guard := some (2, true) }) (v := ?vt8) rfl (by kernel_rfl) (by kernel_rfl) (by kernel_rfl) (fun _ _ _ h => h) (Or.inl ⟨by rfl, ?hyt8⟩) (by assumption) ?restt8
          case hyt8 => (intro w hSw; (try dsimp only at hSw); first | (go_simp; done) | (go_simp; with_reducible rfl))
          try simp only [Act.put, List.setIfInBounds_toArray, List.set_cons_zero, List.set_cons_succ]
          refine wpAnyH_take (i := 9) (oi := { dst := some 26, op := Op.load 126 (Operand.tmp 25), type := 126, pos := "ref.go:19", after := #[{ on := 8, ground := Ground.data }, { on := 2, ground := Ground.guard }], guard := some (2, true) }) (v := ?vt9) rfl (by kernel_rfl) (by kernel_rfl) (by kernel_rfl) (fun _ _ _ h => h) (Or.inl ⟨by rfl, ?hyt9⟩) (by assumption) ?restt9
          case hyt9 => (intro w hSw; (try dsimp only at hSw); first | (go_simp; done) | (go_simp; with_reducible rfl))
          try simp only [Act.put, List.setIfInBounds_toArray, List.set_cons_zero, List.set_cons_succ]
          refine wpAnyH_take (i := 10) (oi := { dst := some 27, op := Op.move (Operand.tmp 1), type := 23, pos := "ref.go:19", after := #[{ on := 2, ground := Ground.guard }], guard := some (2, true) }) (v := ?vt10) rfl (by kernel_rfl) (by kernel_rfl) (by kernel_rfl) (fun _ _ _ h => h) (Or.inl ⟨by rfl, ?hyt10⟩) (by assumption) ?restt10
          case hyt10 => (intro w hSw; (try dsimp only at hSw); first | (go_simp; done) | (go_simp; with_reducible rfl))
          try simp only [Act.put, List.setIfInBounds_toArray, List.set_cons_zero, List.set_cons_succ]
          refine wpAnyH_ready (rs := [11]) (by kernel_rfl) (by simp) (AllReadyH.cons (o := { dst := some 28, op := Op.call { callee := Callee.value (Operand.func 76), args := #[Operand.tmp 26, Operand.tmp 27], argTypes := #[126, 23] }, type := 4, pos := "ref.go:19", after := #[{ on := 9, ground := Ground.data }, { on := 10, ground := Ground.data }, { on := 2, ground := Ground.chain }, { on := 2, ground := Ground.guard }], guard := some (2, true) }) rfl (fun K hK => ?stept) AllReadyH.nil)
          go_simp
          go_at_call 76
          refine (HINS.out _ hHeld).mono ?_
          rintro e w3 ⟨rfl, hS3⟩
          try dsimp only
          refine hK.out _ _ hS3 (fun hHeld2 => ?_)
          clear hK K hHeld
          try simp only [Act.put, List.setIfInBounds_toArray, List.set_cons_zero, List.set_cons_succ]
          refine wpAnyH_take (i := 12) (oi := { dst := some 29, op := Op.pick (Operand.tmp 19) (Operand.tmp 28) (Operand.const (Value.bool false)), type := 4, pos := "ref.go:19", after := #[{ on := 2, ground := Ground.data }, { on := 11, ground := Ground.data }], guard := none }) (v := ?vt12) rfl (by kernel_rfl) (by kernel_rfl) (by kernel_rfl) (fun _ _ _ h => h) (Or.inl ⟨by rfl, ?hyt12⟩) (by assumption) ?restt12
          case hyt12 => (intro w hSw; (try dsimp only at hSw); first | (go_simp; done) | (go_simp; with_reducible rfl))
          try simp only [Act.put, List.setIfInBounds_toArray, List.set_cons_zero, List.set_cons_succ]
          refine wpAnyH_take (i := 13) (oi := { dst := some 30, op := Op.move (Operand.tmp 29), type := 4, pos := "ref.go:19", after := #[{ on := 12, ground := Ground.data }, { on := 11, ground := Ground.chain }], guard := none }) (v := ?vt13) rfl (by kernel_rfl) (by kernel_rfl) (by kernel_rfl) (fun _ _ _ h => h) (Or.inl ⟨by rfl, ?hyt13⟩) (by assumption) ?restt13
          case hyt13 => (intro w hSw; (try dsimp only at hSw); first | (go_simp; done) | (go_simp; with_reducible rfl))
          try simp only [Act.put, List.setIfInBounds_toArray, List.set_cons_zero, List.set_cons_succ]
          refine wpAnyH_take (i := 14) (oi := { dst := some 31, op := Op.move (Operand.tmp 2), type := 3, pos := "ref.go:19", after := #[{ on := 13, ground := Ground.guard }], guard := some (13, true) }) (v := ?vt14) rfl (by kernel_rfl) (by kernel_rfl) (by kernel_rfl) (fun _ _ _ h => h) (Or.inl ⟨by rfl, ?hyt14⟩) (by assumption) ?restt14
          case hyt14 => (intro w hSw; (try dsimp only at hSw); first | (go_simp; done) | (go_simp; with_reducible rfl))
          try simp only [Act.put, List.setIfInBounds_toArray, List.set_cons_zero, List.set_cons_succ]
          refine wpAnyH_take (i := 15) (oi := { dst := some 32, op := Op.convert 3 23 (Operand.tmp 31), type := 23, pos := "ref.go:19", after := #[{ on := 14, ground := Ground.data }, { on := 13, ground := Ground.guard }], guard := some (13, true) }) (v := ?vt15) rfl (by kernel_rfl) (by kernel_rfl) (by kernel_rfl) (fun _ _ _ h => h) (Or.inl ⟨by rfl, ?hyt15⟩) (by assumption) ?restt15
          case hyt15 => (intro w hSw; (try dsimp only at hSw); first | (go_simp; done) | (go_simp; with_reducible rfl))
          try simp only [Act.put, List.setIfInBounds_toArray, List.set_cons_zero, List.set_cons_succ]
          refine wpAnyH_take (i := 16) (oi := { dst := some 33, op := Op.move (Operand.tmp 0), type := 34, pos := "ref.go:19", after := #[{ on := 13, ground := Ground.guard }], guard := some (13, true) }) (v := ?vt16) rfl (by kernel_rfl) (by kernel_rfl) (by kernel_rfl) (fun _ _ _ h => h) (Or.inl ⟨by rfl, ?hyt16⟩) (by assumption) ?restt16
          case hyt16 => (intro w hSw; (try dsimp only at hSw); first | (go_simp; done) | (go_simp; with_reducible rfl))
          try simp only [Act.put, List.setIfInBounds_toArray, List.set_cons_zero, List.set_cons_succ]
          refine wpAnyH_take (i := 17) (oi := { dst := some 34, op := Op.nilCheck (Operand.tmp 33), type := 0, pos := "ref.go:19", after := #[{ on := 16, ground := Ground.data }, { on := 13, ground := Ground.guard }], guard := some (13, true) }) (v := ?vt17) rfl (by kernel_rfl) (by kernel_rfl) (by kernel_rfl) (fun _ _ _ h => h) (Or.inl ⟨by rfl, ?hyt17⟩) (by assumption) ?restt17
          case hyt17 => (intro w hSw; (try dsimp only at hSw); first | (go_simp; done) | (go_simp; with_reducible rfl))
          try simp only [Act.put, List.setIfInBounds_toArray, List.set_cons_zero, List.set_cons_succ]
          refine wpAnyH_take (i := 18) (oi := { dst := some 35, op := Op.fieldAddr 37 (Operand.tmp 34) 0, type := 0, pos := "ref.go:19", after := #[{ on := 17, ground := Ground.data }, { on := 13, ground := Ground.guard }], guard := some (13, true) }) (v := ?vt18) rfl (by kernel_rfl) (by kernel_rfl) (by kernel_rfl) (fun _ _ _ h => h) (Or.inl ⟨by rfl, ?hyt18⟩) (by assumption) ?restt18
          case hyt18 => (intro w hSw; (try dsimp only at hSw); first | (go_simp; done) | (go_simp; with_reducible rfl))
          try simp only [Act.put, List.setIfInBounds_toArray, List.set_cons_zero, List.set_cons_succ]
          refine wpAnyH_take (i := 19) (oi := { dst := some 36, op := Op.load 35 (Operand.tmp 35), type := 35, pos := "ref.go:19", after := #[{ on := 18, ground := Ground.data }, { on := 13, ground := Ground.guard }], guard := some (13, true) }) (v := ?vt19) rfl (by kernel_rfl) (by kernel_rfl) (by kernel_rfl) (fun _ _ _ h => h) (Or.inl ⟨by rfl, ?hyt19⟩) (by assumption) ?restt19
          case hyt19 => (intro w hSw; (try dsimp only at hSw); first | (go_simp; done) | (go_simp; with_reducible rfl))
          try simp only [Act.put, List.setIfInBounds_toArray, List.set_cons_zero, List.set_cons_succ]
          refine wpAnyH_take (i := 20) (oi := { dst := some 37, op := Op.move (Operand.tmp 7), type := 3, pos := "ref.go:19", after := #[{ on := 13, ground := Ground.guard }], guard := some (13, true) }) (v := ?vt20) rfl (by kernel_rfl) (by kernel_rfl) (by kernel_rfl) (fun _ _ _ h => h) (Or.inl ⟨by rfl, ?hyt20⟩) (by assumption) ?restt20
          case hyt20 => (intro w hSw; (try dsimp only at hSw); first | (go_simp; done) | (go_simp; with_reducible rfl))
          try simp only [Act.put, List.setIfInBounds_toArray, List.set_cons_zero, List.set_cons_succ]
          refine wpAnyH_take (i := 21) (oi := { dst := some 38, op := Op.indexAddr 35 (Operand.tmp 36) (Operand.tmp 37), type := 0, pos := "ref.go:19", after := #[{ on := 19, ground := Ground.data }, { on := 20, ground := Ground.data }, { on := 13, ground := Ground.guard }], guard := some (13, true) }) (v := ?vt21) rfl (by kernel_rfl) (by kernel_rfl) (by kernel_rfl) (fun _ _ _ h => h) (Or.inl ⟨by rfl, ?hyt21⟩) (by assumption) ?restt21
          case hyt21 => (intro w hSw; (try dsimp only at hSw); first | (go_simp; done) | (go_simp; with_reducible rfl))
          try simp only [Act.put, List.setIfInBounds_toArray, List.set_cons_zero, List.set_cons_succ]
          refine wpAnyH_take (i := 22) (oi := { dst := some 39, op := Op.fieldAddr 126 (Operand.tmp 38) 1, type := 0, pos := "ref.go:19", after := #[{ on := 21, ground := Ground.data }, { on := 13, ground := Ground.guard }], guard := some (13, true) }) (v := ?vt22) rfl (by kernel_rfl) (by kernel_rfl) (by kernel_rfl) (fun _ _ _ h => h) (Or.inl ⟨by rfl, ?hyt22⟩) (by assumption) ?restt22
          case hyt22 => (intro w hSw; (try dsimp only at hSw); first | (go_simp; done) | (go_simp; with_reducible rfl))
          try simp only [Act.put, List.setIfInBounds_toArray, List.set_cons_zero, List.set_cons_succ]
          refine wpAnyH_take (i := 23) (oi := { dst := some 40, op := Op.load 46 (Operand.tmp 39), type := 46, pos := "ref.go:19", after := #[{ on := 22, ground := Ground.data }, { on := 13, ground := Ground.guard }], guard := some (13, true) }) (v := ?vt23) rfl (by kernel_rfl) (by kernel_rfl) (by kernel_rfl) (fun _ _ _ h => h) (Or.inl ⟨by rfl, ?hyt23⟩) (by assumption) ?restt23
          case hyt23 => (intro w hSw; (try dsimp only at hSw); first | (go_simp; done) | (go_simp; with_reducible rfl))
          try simp only [Act.put, List.setIfInBounds_toArray, List.set_cons_zero, List.set_cons_succ]
          refine wpAnyH_take (i := 24) (oi := { dst := some 41, op := Op.call { callee := Callee.builtin Builtin.len, args := #[Operand.tmp 40], argTypes := #[46] }, type := 3, pos := "ref.go:19", after := #[{ on := 23, ground := Ground.data }, { on := 13, ground := Ground.guard }], guard := some (13, true) }) (v := ?vt24) rfl (by kernel_rfl) (by kernel_rfl) (by kernel_rfl) (fun _ _ _ h => h) (Or.inl ⟨by rfl, ?hyt24⟩) (by assumption) ?restt24
          case hyt24 => (intro w hSw; (try dsimp only at hSw); first | (go_simp; done) | (go_simp; with_reducible rfl))
          try simp only [Act.put, List.setIfInBounds_toArray, List.set_cons_zero, List.set_cons_succ]
          refine wpAnyH_take (i := 25) (oi := { dst := some 42, op := Op.convert 3 23 (Operand.tmp 41), type := 23, pos := "ref.go:19", after := #[{ on := 24, ground := Ground.data }, { on := 13, ground := Ground.guard }], guard := some (13, true) }) (v := ?vt25) rfl (by kernel_rfl) (by kernel_rfl) (by kernel_rfl) (fun _ _ _ h => h) (Or.inl ⟨by rfl, ?hyt25⟩) (by assumption) ?restt25
          case hyt25 => (intro w hSw; (try dsimp only at hSw); first | (go_simp; done) | (go_simp; with_reducible rfl))
          try simp only [Act.put, List.setIfInBounds_toArray, List.set_cons_zero, List.set_cons_succ]
          refine wpAnyH_take (i := 26) (oi := { dst := some 43, op := Op.move (Operand.tmp 1), type := 23, pos := "ref.go:19", after := #[{ on := 13, ground := Ground.guard }], guard := some (13, true) }) (v := ?vt26) rfl (by kernel_rfl) (by kernel_rfl) (by kernel_rfl) (fun _ _ _ h => h) (Or.inl ⟨by rfl, ?hyt26⟩) (by assumption) ?restt26
          case hyt26 => (intro w hSw; (try dsimp only at hSw); first | (go_simp; done) | (go_simp; with_reducible rfl))
          try simp only [Act.put, List.setIfInBounds_toArray, List.set_cons_zero, List.set_cons_succ]
          refine wpAnyH_take (i := 27) (oi := { dst := some 44, op := Op.move (Operand.tmp 0), type := 34, pos := "ref.go:19", after := #[{ on := 13, ground := Ground.guard }], guard := some (13, true) }) (v := ?vt27) rfl (by kernel_rfl) (by kernel_rfl) (by kernel_rfl) (fun _ _ _ h => h) (Or.inl ⟨by rfl, ?hyt27⟩) (by assumption) ?restt27
          case hyt27 => (intro w hSw; (try dsimp only at hSw); first | (go_simp; done) | (go_simp; with_reducible rfl))
          try simp only [Act.put, List.setIfInBounds_toArray, List.set_cons_zero, List.set_cons_succ]
          refine wpAnyH_take (i := 28) (oi := { dst := some 45, op := Op.nilCheck (Operand.tmp 44), type := 0, pos := "ref.go:19", after := #[{ on := 27, ground := Ground.data }, { on := 13, ground := Ground.guard }], guard := some (13, true) }) (v := ?vt28) rfl (by kernel_rfl) (by kernel_rfl) (by kernel_rfl) (fun _ _ _ h => h) (Or.inl ⟨by rfl, ?hyt28⟩) (by assumption) ?restt28
          case hyt28 => (intro w hSw; (try dsimp only at hSw); first | (go_simp; done) | (go_simp; with_reducible rfl))
          try simp only [Act.put, List.setIfInBounds_toArray, List.set_cons_zero, List.set_cons_succ]
          refine wpAnyH_take (i := 29) (oi := { dst := some 46, op := Op.fieldAddr 37 (Operand.tmp 45) 0, type := 0, pos := "ref.go:19", after := #[{ on := 28, ground := Ground.data }, { on := 13, ground := Ground.guard }], guard := some (13, true) }) (v := ?vt29) rfl (by kernel_rfl) (by kernel_rfl) (by kernel_rfl) (fun _ _ _ h => h) (Or.inl ⟨by rfl, ?hyt29⟩) (by assumption) ?restt29
          case hyt29 => (intro w hSw; (try dsimp only at hSw); first | (go_simp; done) | (go_simp; with_reducible rfl))
          try simp only [Act.put, List.setIfInBounds_toArray, List.set_cons_zero, List.set_cons_succ]
          refine wpAnyH_take (i := 30) (oi := { dst := some 47, op := Op.load 35 (Operand.tmp 46), type := 35, pos := "ref.go:19", after := #[{ on := 29, ground := Ground.data }, { on := 13, ground := Ground.guard }], guard := some (13, true) }) (v := ?vt30) rfl (by kernel_rfl) (by kernel_rfl) (by kernel_rfl) (fun _ _ _ h => h) (Or.inl ⟨by rfl, ?hyt30⟩) (by assumption) ?restt30
          case hyt30 => (intro w hSw; (try dsimp only at hSw); first | (go_simp; done) | (go_simp; with_reducible rfl))
          try simp only [Act.put, List.setIfInBounds_toArray, List.set_cons_zero, List.set_cons_succ]
          refine wpAnyH_take (i := 31) (oi := { dst := some 48, op := Op.move (Operand.tmp 7), type := 3, pos := "ref.go:19", after := #[{ on := 13, ground := Ground.guard }], guard := some (13, true) }) (v := ?vt31) rfl (by kernel_rfl) (by kernel_rfl) (by kernel_rfl) (fun _ _ _ h => h) (Or.inl ⟨by rfl, ?hyt31⟩) (by assumption) ?restt31
          case hyt31 => (intro w hSw; (try dsimp only at hSw); first | (go_simp; done) | (go_simp; with_reducible rfl))
          try simp only [Act.put, List.setIfInBounds_toArray, List.set_cons_zero, List.set_cons_succ]
          refine wpAnyH_take (i := 32) (oi := { dst := some 49, op := Op.indexAddr 35 (Operand.tmp 47) (Operand.tmp 48), type := 0, pos := "ref.go:19", after := #[{ on := 30, ground := Ground.data }, { on := 31, ground := Ground.data }, { on := 13, ground := Ground.guard }], guard := some (13, true) }) (v := ?vt32) rfl (by kernel_rfl) (by kernel_rfl) (by kernel_rfl) (fun _ _ _ h => h) (Or.inl ⟨by rfl, ?hyt32⟩) (by assumption) ?restt32
          case hyt32 => (intro w hSw; (try dsimp only at hSw); first | (go_simp; done) | (go_simp; with_reducible rfl))
          try simp only [Act.put, List.setIfInBounds_toArray, List.set_cons_zero, List.set_cons_succ]
          refine wpAnyH_take (i := 33) (oi := { dst := some 50, op := Op.fieldAddr 126 (Operand.tmp 49) 0, type := 0, pos := "ref.go:19", after := #[{ on := 32, ground := Ground.data }, { on := 13, ground := Ground.guard }], guard := some (13, true) }) (v := ?vt33) rfl (by kernel_rfl) (by kernel_rfl) (by kernel_rfl) (fun _ _ _ h => h) (Or.inl ⟨by rfl, ?hyt33⟩) (by assumption) ?restt33
          case hyt33 => (intro w hSw; (try dsimp only at hSw); first | (go_simp; done) | (go_simp; with_reducible rfl))
          try simp only [Act.put, List.setIfInBounds_toArray, List.set_cons_zero, List.set_cons_succ]
          refine wpAnyH_take (i := 34) (oi := { dst := some 51, op := Op.load 23 (Operand.tmp 50), type := 23, pos := "ref.go:19", after := #[{ on := 33, ground := Ground.data }, { on := 13, ground := Ground.guard }], guard := some (13, true) }) (v := ?vt34) rfl (by kernel_rfl) (by kernel_rfl) (by kernel_rfl) (fun _ _ _ h => h) (Or.inl ⟨by rfl, ?hyt34⟩) (by assumption) ?restt34
          case hyt34 => (intro w hSw; (try dsimp only at hSw); first | (go_simp; done) | (go_simp; with_reducible rfl))
          try simp only [Act.put, List.setIfInBounds_toArray, List.set_cons_zero, List.set_cons_succ]
          refine wpAnyH_take (i := 35) (oi := { dst := some 52, op := Op.binOp BinOp.sub 23 (Operand.tmp 43) (Operand.tmp 51) 23, type := 23, pos := "ref.go:19", after := #[{ on := 26, ground := Ground.data }, { on := 34, ground := Ground.data }, { on := 13, ground := Ground.guard }], guard := some (13, true) }) (v := ?vt35) rfl (by kernel_rfl) (by kernel_rfl) (by kernel_rfl) (fun _ _ _ h => h) (Or.inl ⟨by rfl, ?hyt35⟩) (by assumption) ?restt35
          case hyt35 => (intro w hSw; (try dsimp only at hSw); first | (go_simp; done) | (go_simp; with_reducible rfl))
          try simp only [Act.put, List.setIfInBounds_toArray, List.set_cons_zero, List.set_cons_succ]
          refine wpAnyH_take (i := 36) (oi := { dst := some 53, op := Op.binOp BinOp.sub 23 (Operand.tmp 42) (Operand.tmp 52) 23, type := 23, pos := "ref.go:19", after := #[{ on := 25, ground := Ground.data }, { on := 35, ground := Ground.data }, { on := 13, ground := Ground.guard }], guard := some (13, true) }) (v := ?vt36) rfl (by kernel_rfl) (by kernel_rfl) (by kernel_rfl) (fun _ _ _ h => h) (Or.inl ⟨by rfl, ?hyt36⟩) (by assumption) ?restt36
          case hyt36 => (intro w hSw; (try dsimp only at hSw); first | (go_simp; done) | (go_simp; with_reducible rfl))
          try simp only [Act.put, List.setIfInBounds_toArray, List.set_cons_zero, List.set_cons_succ]
          refine wpAnyH_take (i := 37) (oi := { dst := some 54, op := Op.binOp BinOp.leq 23 (Operand.tmp 32) (Operand.tmp 53) 23, type := 4, pos := "ref.go:19", after := #[{ on := 15, ground := Ground.data }, { on := 36, ground := Ground.data }, { on := 13, ground := Ground.guard }], guard := some (13, true) }) (v := ?vt37) rfl (by kernel_rfl) (by kernel_rfl) (by kernel_rfl) (fun _ _ _ h => h) (Or.inl ⟨by rfl, ?hyt37⟩) (by assumption) ?restt37
          case hyt37 => (intro w hSw; (try dsimp only at hSw); first | (go_simp; done) | (go_simp; with_reducible rfl))
          try simp only [Act.put, List.setIfInBounds_toArray, List.set_cons_zero, List.set_cons_succ]
          refine wpAnyH_take (i := 38) (oi := { dst := some 55, op := Op.pick (Operand.tmp 30) (Operand.tmp 54) (Operand.const (Value.bool false)), type := 4, pos := "ref.go:19", after := #[{ on := 13, ground := Ground.data }, { on := 37, ground := Ground.data }], guard := none }) (v := ?vt38) rfl (by kernel_rfl) (by kernel_rfl) (by kernel_rfl) (fun _ _ _ h => h) (Or.inl ⟨by rfl, ?hyt38⟩) (by assumption) ?restt38
          case hyt38 => (intro w hSw; (try dsimp only at hSw); first | (go_simp; done) | (go_simp; with_reducible rfl))
          try simp only [Act.put, List.setIfInBounds_toArray, List.set_cons_zero, List.set_cons_succ]
          refine wpAnyH_done (by kernel_rfl) ?_ _
          have HB3 : Aside0 (Below X.heap.size X w3) := ⟨HBw.out.trans (hS3.2.2.2.mono HBw.out.size)⟩
          clear hS3 hHeld2
          have hcmp : decide (IntKind.u64.wrap n ≤ IntKind.u64.wrap (IntKind.u64.wrap (r.data.length : Int) - IntKind.u64.wrap (a - r.base))) = hitR a n r := by
            have h1 := of_decide_eq_true HHIT.out
            have h2 := HOK.out.short
            have h3 := HN.out
            have h4 := HA.out
            have h5 := HOK.out.lo
            rw [u64_mod n, u64_mod (r.data.length : Int), u64_mod (a - r.base), Int.emod_eq_of_lt (a := n) (by omega) (by omega), Int.emod_eq_of_lt (a := (r.data.length : Int)) (by omega) (by omega), Int.emod_eq_of_lt (a := a - r.base) (by omega) (by omega), u64_mod, Int.emod_eq_of_lt (by omega) (by omega)]
            cases hh : hitR a n r with
            | true => exact decide_eq_true (hit_ins.1 hh).2.2
            | false => exact decide_eq_false (fun h => by rw [hit_ins.2 ⟨by omega, HHIT.out, h⟩] at hh; cases hh)
          cases hh : hitR a n r with
          | true =>
            have HF := Aside0.mk (find_at HR.out hh HJ.out)
            rw [hh] at hcmp
            have hle := of_decide_eq_true hcmp
            clear hh hcmp
            go_wp2_with fail
            go_ret
            exact ⟨by rw [HF.out]; rfl, HB3.out⟩
          | false =>
            have HF := Aside0.mk (HNEXT.out hh)
            rw [hh] at hcmp
            have hlt2 := Int.not_le.1 (of_decide_eq_false hcmp)
            clear hh hcmp
            go_wp2_with fail
            exact ⟨⟨k + 1, by omega, by congr 1, HB3, HF⟩, by simp [intOf]; omega⟩
    · obtain rfl : k = R.length := by omega
      have HF := Aside0.mk (find_not HJ.out)
      go_wp2_with fail
      go_ret
      exact ⟨by rw [HF.out]; rfl, HB.out⟩
end Go.Proofs.Ytmkmldpcoonepaa.PAll
/- The reference's Bytes. -/
set_option linter.unusedVariables false
set_option linter.unusedSimpArgs false
namespace Go.Proofs.Ytmkmldpcoonepaa.PAll
open Go.RowKit Go.Shelf Go.Proofs.YtmkmldpcoonepaaW.PrintWords Go.Proofs.YtmkmldpcoonepaaW.PrintLast Go.Proofs.YtmkmldpcoonepaaW.PrintMore
theorem findR_none {R : List Reg} {a n : Int} (h : R.findIdx? (hitR a n) = none) : findR R a n = -1 := by unfold findR; rw [h]
theorem findR_some {R : List Reg} {a n : Int} {k : Nat} (h : R.findIdx? (hitR a n) = some k) : findR R a n = k := by unfold findR; rw [h]
set_option maxHeartbeats 2000000 in
set_option maxRecDepth 100000 in
theorem ref_Bytes_none (X : World) (B : Nat) (own : Nat → Prop) (b : Nat) (R : List Reg) (v : Value) (ps : List (Nat × Nat)) (a n : Int) (h : RefIn X B own b R v ps) (hW : ∀ r ∈ R, Ok r) (hl : R.length ≤ 1000000) (ha0 : 0 ≤ a) (ha1 : a < 18446744073709551616) (hn0 : -9223372036854775808 ≤ n) (hn1 : n < 9223372036854775808) (hf : R.findIdx? (hitR a n) = none) :
    Calls Try.prog 47 #[.pointer (some ⟨b, 0, none⟩), .int .u64 a, .int .i64 n] X fun e X' => e = .returned (.tuple #[.slice none 0 0, .bool false]) ∧ Below X.heap.size X X' := by
  have HF := Aside0.mk (ref_Find X B own b R v ps a n h hW hl ha0 ha1 hn0 hn1)
  rw [findR_none hf] at HF
  clear h hW ha0 ha1 hn0 hn1 hf
  go_enter Try.func47, Try.ntmps47
  go_wp2_with fail
  refine HF.out.mono ?_
  rintro e w1 ⟨rfl, hb1⟩
  go_wp2_with fail
  go_ret2
  exact ⟨rfl, hb1⟩
set_option maxHeartbeats 2000000 in
set_option maxRecDepth 100000 in
theorem ref_Bytes_some (X : World) (B : Nat) (own : Nat → Prop) (b : Nat) (R : List Reg) (v : Value) (ps : List (Nat × Nat)) (a : Int) (nn k : Nat) (r : Reg) (h : RefIn X B own b R v ps) (hW : ∀ r ∈ R, Ok r) (hl : R.length ≤ 1000000) (ha0 : 0 ≤ a) (ha1 : a < 18446744073709551616) (hn1 : nn < 4294967297) (hf : R.findIdx? (hitR a nn) = some k) (hr : R[k]? = some r) (hh : hitR a nn r = true) :
    Calls Try.prog 47 #[.pointer (some ⟨b, 0, none⟩), .int .u64 a, .int .i64 nn] X fun e X' => (∃ v', e = .returned (.tuple #[v', .bool true]) ∧ X'.ownsRow X.heap.size 5 1 v' nn (nums .u8 ((r.data.drop (a - r.base).toNat).take nn))) ∧ Below X.heap.size X X' := by
  have HF := Aside0.mk (ref_Find X B own b R v ps a nn h hW hl ha0 ha1 (by omega) (by omega))
  rw [findR_some hf] at HF
  obtain ⟨h1, h2, h3⟩ := hit_iff.1 hh
  obtain ⟨off, hoff⟩ : ∃ off : Nat, (a - r.base).toNat = off := ⟨_, rfl⟩
  have hao : a - r.base = off := by omega
  obtain ⟨bs, hbs⟩ : ∃ bs, (r.data.drop off).take nn = bs := ⟨_, rfl⟩
  have HBS := Aside0.mk hbs
  rw [hoff, hbs]
  have hkl := (List.getElem?_eq_some_iff.1 hr).1
  obtain ⟨p, r', g, cap, hp, hr', hv, hc0, hc1, hcap, hcm, hop, hro⟩ := h.get hkl
  rw [hr] at hr'
  cases hr'
  cases hv
  have HM := Aside0.mk h
  have HRO := Aside0.mk hro
  have hsh := (hW r (List.mem_of_getElem? hr)).short
  have hwo : ∀ j : Nat, j < nn → IntKind.u64.wrap (IntKind.u64.wrap (off : Int) + IntKind.u64.wrap (j : Int)) = ((off + j : Nat) : Int) := fun j hj => by rw [u64_mod, u64_mod, u64_mod, Int.emod_eq_of_lt (a := (off : Int)) (by omega) (by omega), Int.emod_eq_of_lt (a := (j : Int)) (by omega) (by omega), Int.emod_eq_of_lt (by omega) (by omega)]; omega
  have HWO := Aside0.mk hwo
  have HFIT : Aside0 (off + nn ≤ r.data.length) := ⟨by omega⟩
  have HBY : Aside0 (∀ z : Nat, z < r.data.length → X.cell? ⟨p.1, z, none⟩ = some (.int .u8 (rd r.data (z : Int)))) := ⟨fun z hz => by
    have h1 := HRO.out.cells (g := p.1) rfl z (.int .u8 (rd r.data (z : Int))) (by
      unfold nums rd
      rw [List.getElem?_map, List.getElem?_eq_getElem hz, Int.toNat_natCast, List.getD_eq_getElem?_getD, List.getElem?_eq_getElem hz]
      rfl)
    rwa [add_plain] at h1⟩
  have HC0 := Aside0.mk hc0
  have HC1 := Aside0.mk hc1
  have HM0 := Aside0.mk (blk1 h.blk).1
  clear h hW ha0 ha1 hf hh h1 h2 h3 hoff hsh hwo hc0 hc1 hop hro hr hp
  go_enter Try.func47, Try.ntmps47
  go_wp2_with fail
  refine HF.out.mono ?_
  rintro e w1 ⟨rfl, hb1⟩
  go_wp2_with fail
  go_loopw [9, 10] (fun v9 v10 wr => ∃ j : Nat, j ≤ nn ∧ v10 = .int .i64 j ∧ Aside0 (Below X.heap.size X wr) ∧ Aside0 (wr.ownsRow X.heap.size 5 1 v9 j (nums .u8 (bs.take j)))) (fun _ v10 _ => nn - (intOf v10).toNat)
  case atStart => exact ⟨0, Nat.zero_le _, rfl, ⟨hb1⟩, ⟨by simpa [nums] using World.ownsRow_nil _ _ _ _⟩⟩
  case round =>
    obtain ⟨j, hj, rfl, HB, HO⟩ := hrel
    by_cases hlt : j < nn
    · have hmd : wr.drew.cell? ⟨b, 0, none⟩ = some (.slice (some ⟨g, 0, none⟩) R.length cap) := pw_cell_below HB.out HM0.out
      have hcd0 : wr.drew.cell? ⟨g, k * 2, none⟩ = some (.int .u64 r.base) := pw_cell_below HB.out HC0.out
      have hcd1 : wr.drew.cell? ⟨g, k * 2 + 1, none⟩ = some (.slice (some ⟨p.1, 0, none⟩) r.data.length p.2) := pw_cell_below HB.out HC1.out
      have hbyte : wr.drew.cell? ⟨p.1, off + j, none⟩ = some (.int .u8 (rd r.data ((off + j : Nat) : Int))) := by
        have h1 := HRO.out.cells (g := p.1) rfl (off + j) (.int .u8 (rd r.data ((off + j : Nat) : Int))) (by
          have := HFIT.out
          unfold nums rd
          rw [List.getElem?_map, List.getElem?_eq_getElem (show off + j < r.data.length by omega), Int.toNat_natCast, List.getD_eq_getElem?_getD, List.getElem?_eq_getElem (show off + j < r.data.length by omega)]
          rfl)
        rw [add_plain] at h1
        exact pw_cell_below HB.out h1
      have hwj := HWO.out j hlt
      obtain ⟨q, hq⟩ : ∃ q : Nat, off + j = q := ⟨_, rfl⟩
      have hql : q < r.data.length := by have := HFIT.out; omega
      have hq0 : (0 : Int) ≤ (q : Int) := by omega
      have hq1 : (q : Int) < (r.data.length : Int) := by omega
      rw [hq] at hwj hbyte
      have HQ := Aside0.mk hq
      clear hq
      go_wp2_with fail
      refine wp_region_held_drew (S := (fun w' => w'.cell? ⟨b, 0, none⟩ = some (.slice (some ⟨g, 0, none⟩) R.length cap) ∧ w'.cell? ⟨g, k * 2, none⟩ = some (.int .u64 r.base) ∧ w'.cell? ⟨g, k * 2 + 1, none⟩ = some (.slice (some ⟨p.1, 0, none⟩) r.data.length p.2) ∧ w'.cell? ⟨p.1, q, none⟩ = some (.int .u8 (rd r.data (q : Int))))) (by kernel_rfl) ⟨hmd, hcd0, hcd1, hbyte⟩ (fun hHeld => ?_)
      refine wpAnyH_take (i := 0) (oi := { dst := some 22, op := Op.move (Operand.tmp 9), type := 46, pos := "ref.go:62", after := #[], guard := none }) (v := ?vb0) rfl (by kernel_rfl) (by kernel_rfl) (by kernel_rfl) (fun _ _ _ h => h) (Or.inl ⟨by rfl, ?hyb0⟩) (by assumption) ?restb0
      case hyb0 => (intro w hSw; (try dsimp only at hSw); first | (go_simp; done) | (go_simp; with_reducible rfl))
      try simp only [Act.put, List.setIfInBounds_toArray, List.set_cons_zero, List.set_cons_succ]
      refine wpAnyH_take (i := 1) (oi := { dst := some 23, op := Op.move (Operand.tmp 0), type := 34, pos := "ref.go:62", after := #[], guard := none }) (v := ?vb1) rfl (by kernel_rfl) (by kernel_rfl) (by kernel_rfl) (fun _ _ _ h => h) (Or.inl ⟨by rfl, ?hyb1⟩) (by assumption) ?restb1
      case hyb1 => (intro w hSw; (try dsimp only at hSw); first | (go_simp; done) | (go_simp; with_reducible rfl))
      try simp only [Act.put, List.setIfInBounds_toArray, List.set_cons_zero, List.set_cons_succ]
      refine wpAnyH_take (i := 2) (oi := { dst := some 24, op := Op.nilCheck (Operand.tmp 23), type := 0, pos := "ref.go:62", after := #[{ on := 1, ground := Ground.data }], guard := none }) (v := ?vb2) rfl (by kernel_rfl) (by kernel_rfl) (by kernel_rfl) (fun _ _ _ h => h) (Or.inl ⟨by rfl, ?hyb2⟩) (by assumption) ?restb2
      case hyb2 => (intro w hSw; (try dsimp only at hSw); first | (go_simp; done) | (go_simp; with_reducible rfl))
      try simp only [Act.put, List.setIfInBounds_toArray, List.set_cons_zero, List.set_cons_succ]
      refine wpAnyH_take (i := 3) (oi := { dst := some 25, op := Op.fieldAddr 37 (Operand.tmp 24) 0, type := 0, pos := "ref.go:62", after := #[{ on := 2, ground := Ground.data }], guard := none }) (v := ?vb3) rfl (by kernel_rfl) (by kernel_rfl) (by kernel_rfl) (fun _ _ _ h => h) (Or.inl ⟨by rfl, ?hyb3⟩) (by assumption) ?restb3
      case hyb3 => (intro w hSw; (try dsimp only at hSw); first | (go_simp; done) | (go_simp; with_reducible rfl))
      try simp only [Act.put, List.setIfInBounds_toArray, List.set_cons_zero, List.set_cons_succ]
      refine wpAnyH_take (i := 4) (oi := { dst := some 26, op := Op.load 35 (Operand.tmp 25), type := 35, pos := "ref.go:62", after := #[{ on := 3, ground := Ground.data }], guard := none }) (v := ?vb4) rfl (by kernel_rfl) (by kernel_rfl) (by kernel_rfl) (fun _ _ _ h => h) (Or.inl ⟨by rfl, ?hyb4⟩) (by assumption) ?restb4
      case hyb4 => (intro w hSw; (try dsimp only at hSw); first | (go_simp; done) | (go_simp; with_reducible rfl))
      try simp only [Act.put, List.setIfInBounds_toArray, List.set_cons_zero, List.set_cons_succ]
      refine wpAnyH_take (i := 5) (oi := { dst := some 27, op := Op.move (Operand.tmp 8), type := 3, pos := "ref.go:62", after := #[], guard := none }) (v := ?vb5) rfl (by kernel_rfl) (by kernel_rfl) (by kernel_rfl) (fun _ _ _ h => h) (Or.inl ⟨by rfl, ?hyb5⟩) (by assumption) ?restb5
      case hyb5 => (intro w hSw; (try dsimp only at hSw); first | (go_simp; done) | (go_simp; with_reducible rfl))
      try simp only [Act.put, List.setIfInBounds_toArray, List.set_cons_zero, List.set_cons_succ]
      refine wpAnyH_take (i := 6) (oi := { dst := some 28, op := Op.indexAddr 35 (Operand.tmp 26) (Operand.tmp 27), type := 0, pos := "ref.go:62", after := #[{ on := 4, ground := Ground.data }, { on := 5, ground := Ground.data }], guard := none }) (v := ?vb6) rfl (by kernel_rfl) (by kernel_rfl) (by kernel_rfl) (fun _ _ _ h => h) (Or.inl ⟨by rfl, ?hyb6⟩) (by assumption) ?restb6
      case hyb6 => (intro w hSw; (try dsimp only at hSw); first | (go_simp; done) | (go_simp; with_reducible rfl))
      try simp only [Act.put, List.setIfInBounds_toArray, List.set_cons_zero, List.set_cons_succ]
      refine wpAnyH_take (i := 7) (oi := { dst := some 29, op := Op.fieldAddr 126 (Operand.tmp 28) 1, type := 0, pos := "ref.go:62", after := #[{ on := 6, ground := Ground.data }], guard := none }) (v := ?vb7) rfl (by kernel_rfl) (by kernel_rfl) (by kernel_rfl) (fun _ _ _ h => h) (Or.inl ⟨by rfl, ?hyb7⟩) (by assumption) ?restb7
      case hyb7 => (intro w hSw; (try dsimp only at hSw); first | (go_simp; done) | (go_simp; with_reducible rfl))
      try simp only [Act.put, List.setIfInBounds_toArray, List.set_cons_zero, List.set_cons_succ]
      refine wpAnyH_take (i := 8) (oi := { dst := some 30, op := Op.load 46 (Operand.tmp 29), type := 46, pos := "ref.go:62", after := #[{ on := 7, ground := Ground.data }], guard := none }) (v := ?vb8) rfl (by kernel_rfl) (by kernel_rfl) (by kernel_rfl) (fun _ _ _ h => h) (Or.inl ⟨by rfl, ?hyb8⟩) (by assumption) ?restb8
      case hyb8 => (intro w hSw; (try dsimp only at hSw); first | (go_simp; done) | (go_simp; with_reducible rfl))
      try simp only [Act.put, List.setIfInBounds_toArray, List.set_cons_zero, List.set_cons_succ]
      refine wpAnyH_take (i := 9) (oi := { dst := some 31, op := Op.move (Operand.tmp 1), type := 23, pos := "ref.go:62", after := #[], guard := none }) (v := ?vb9) rfl (by kernel_rfl) (by kernel_rfl) (by kernel_rfl) (fun _ _ _ h => h) (Or.inl ⟨by rfl, ?hyb9⟩) (by assumption) ?restb9
      case hyb9 => (intro w hSw; (try dsimp only at hSw); first | (go_simp; done) | (go_simp; with_reducible rfl))
      try simp only [Act.put, List.setIfInBounds_toArray, List.set_cons_zero, List.set_cons_succ]
      refine wpAnyH_take (i := 10) (oi := { dst := some 32, op := Op.move (Operand.tmp 0), type := 34, pos := "ref.go:62", after := #[], guard := none }) (v := ?vb10) rfl (by kernel_rfl) (by kernel_rfl) (by kernel_rfl) (fun _ _ _ h => h) (Or.inl ⟨by rfl, ?hyb10⟩) (by assumption) ?restb10
      case hyb10 => (intro w hSw; (try dsimp only at hSw); first | (go_simp; done) | (go_simp; with_reducible rfl))
      try simp only [Act.put, List.setIfInBounds_toArray, List.set_cons_zero, List.set_cons_succ]
      refine wpAnyH_take (i := 11) (oi := { dst := some 33, op := Op.nilCheck (Operand.tmp 32), type := 0, pos := "ref.go:62", after := #[{ on := 10, ground := Ground.data }], guard := none }) (v := ?vb11) rfl (by kernel_rfl) (by kernel_rfl) (by kernel_rfl) (fun _ _ _ h => h) (Or.inl ⟨by rfl, ?hyb11⟩) (by assumption) ?restb11
      case hyb11 => (intro w hSw; (try dsimp only at hSw); first | (go_simp; done) | (go_simp; with_reducible rfl))
      try simp only [Act.put, List.setIfInBounds_toArray, List.set_cons_zero, List.set_cons_succ]
      refine wpAnyH_take (i := 12) (oi := { dst := some 34, op := Op.fieldAddr 37 (Operand.tmp 33) 0, type := 0, pos := "ref.go:62", after := #[{ on := 11, ground := Ground.data }], guard := none }) (v := ?vb12) rfl (by kernel_rfl) (by kernel_rfl) (by kernel_rfl) (fun _ _ _ h => h) (Or.inl ⟨by rfl, ?hyb12⟩) (by assumption) ?restb12
      case hyb12 => (intro w hSw; (try dsimp only at hSw); first | (go_simp; done) | (go_simp; with_reducible rfl))
      try simp only [Act.put, List.setIfInBounds_toArray, List.set_cons_zero, List.set_cons_succ]
      refine wpAnyH_take (i := 13) (oi := { dst := some 35, op := Op.load 35 (Operand.tmp 34), type := 35, pos := "ref.go:62", after := #[{ on := 12, ground := Ground.data }], guard := none }) (v := ?vb13) rfl (by kernel_rfl) (by kernel_rfl) (by kernel_rfl) (fun _ _ _ h => h) (Or.inl ⟨by rfl, ?hyb13⟩) (by assumption) ?restb13
      case hyb13 => (intro w hSw; (try dsimp only at hSw); first | (go_simp; done) | (go_simp; with_reducible rfl))
      try simp only [Act.put, List.setIfInBounds_toArray, List.set_cons_zero, List.set_cons_succ]
      refine wpAnyH_take (i := 14) (oi := { dst := some 36, op := Op.move (Operand.tmp 8), type := 3, pos := "ref.go:62", after := #[], guard := none }) (v := ?vb14) rfl (by kernel_rfl) (by kernel_rfl) (by kernel_rfl) (fun _ _ _ h => h) (Or.inl ⟨by rfl, ?hyb14⟩) (by assumption) ?restb14
      case hyb14 => (intro w hSw; (try dsimp only at hSw); first | (go_simp; done) | (go_simp; with_reducible rfl))
      try simp only [Act.put, List.setIfInBounds_toArray, List.set_cons_zero, List.set_cons_succ]
      refine wpAnyH_take (i := 15) (oi := { dst := some 37, op := Op.indexAddr 35 (Operand.tmp 35) (Operand.tmp 36), type := 0, pos := "ref.go:62", after := #[{ on := 13, ground := Ground.data }, { on := 14, ground := Ground.data }], guard := none }) (v := ?vb15) rfl (by kernel_rfl) (by kernel_rfl) (by kernel_rfl) (fun _ _ _ h => h) (Or.inl ⟨by rfl, ?hyb15⟩) (by assumption) ?restb15
      case hyb15 => (intro w hSw; (try dsimp only at hSw); first | (go_simp; done) | (go_simp; with_reducible rfl))
      try simp only [Act.put, List.setIfInBounds_toArray, List.set_cons_zero, List.set_cons_succ]
      refine wpAnyH_take (i := 16) (oi := { dst := some 38, op := Op.fieldAddr 126 (Operand.tmp 37) 0, type := 0, pos := "ref.go:62", after := #[{ on := 15, ground := Ground.data }], guard := none }) (v := ?vb16) rfl (by kernel_rfl) (by kernel_rfl) (by kernel_rfl) (fun _ _ _ h => h) (Or.inl ⟨by rfl, ?hyb16⟩) (by assumption) ?restb16
      case hyb16 => (intro w hSw; (try dsimp only at hSw); first | (go_simp; done) | (go_simp; with_reducible rfl))
      try simp only [Act.put, List.setIfInBounds_toArray, List.set_cons_zero, List.set_cons_succ]
      refine wpAnyH_take (i := 17) (oi := { dst := some 39, op := Op.load 23 (Operand.tmp 38), type := 23, pos := "ref.go:62", after := #[{ on := 16, ground := Ground.data }], guard := none }) (v := ?vb17) rfl (by kernel_rfl) (by kernel_rfl) (by kernel_rfl) (fun _ _ _ h => h) (Or.inl ⟨by rfl, ?hyb17⟩) (by assumption) ?restb17
      case hyb17 => (intro w hSw; (try dsimp only at hSw); first | (go_simp; done) | (go_simp; with_reducible rfl))
      try simp only [Act.put, List.setIfInBounds_toArray, List.set_cons_zero, List.set_cons_succ]
      refine wpAnyH_take (i := 18) (oi := { dst := some 40, op := Op.binOp BinOp.sub 23 (Operand.tmp 31) (Operand.tmp 39) 23, type := 23, pos := "ref.go:62", after := #[{ on := 9, ground := Ground.data }, { on := 17, ground := Ground.data }], guard := none }) (v := ?vb18) rfl (by kernel_rfl) (by kernel_rfl) (by kernel_rfl) (fun _ _ _ h => h) (Or.inl ⟨by rfl, ?hyb18⟩) (by assumption) ?restb18
      case hyb18 => (intro w hSw; (try dsimp only at hSw); first | (go_simp; done) | (go_simp; with_reducible rfl))
      try simp only [Act.put, List.setIfInBounds_toArray, List.set_cons_zero, List.set_cons_succ]
      refine wpAnyH_take (i := 19) (oi := { dst := some 41, op := Op.move (Operand.tmp 10), type := 3, pos := "ref.go:62", after := #[], guard := none }) (v := ?vb19) rfl (by kernel_rfl) (by kernel_rfl) (by kernel_rfl) (fun _ _ _ h => h) (Or.inl ⟨by rfl, ?hyb19⟩) (by assumption) ?restb19
      case hyb19 => (intro w hSw; (try dsimp only at hSw); first | (go_simp; done) | (go_simp; with_reducible rfl))
      try simp only [Act.put, List.setIfInBounds_toArray, List.set_cons_zero, List.set_cons_succ]
      refine wpAnyH_take (i := 20) (oi := { dst := some 42, op := Op.convert 3 23 (Operand.tmp 41), type := 23, pos := "ref.go:62", after := #[{ on := 19, ground := Ground.data }], guard := none }) (v := ?vb20) rfl (by kernel_rfl) (by kernel_rfl) (by kernel_rfl) (fun _ _ _ h => h) (Or.inl ⟨by rfl, ?hyb20⟩) (by assumption) ?restb20
      case hyb20 => (intro w hSw; (try dsimp only at hSw); first | (go_simp; done) | (go_simp; with_reducible rfl))
      try simp only [Act.put, List.setIfInBounds_toArray, List.set_cons_zero, List.set_cons_succ]
      refine wpAnyH_take (i := 21) (oi := { dst := some 43, op := Op.binOp BinOp.add 23 (Operand.tmp 40) (Operand.tmp 42) 23, type := 23, pos := "ref.go:62", after := #[{ on := 18, ground := Ground.data }, { on := 20, ground := Ground.data }], guard := none }) (v := ?vb21) rfl (by kernel_rfl) (by kernel_rfl) (by kernel_rfl) (fun _ _ _ h => h) (Or.inl ⟨by rfl, ?hyb21⟩) (by assumption) ?restb21
      case hyb21 => (intro w hSw; (try dsimp only at hSw); first | (go_simp; done) | (go_simp; with_reducible rfl))
      try simp only [Act.put, List.setIfInBounds_toArray, List.set_cons_zero, List.set_cons_succ]
      refine wpAnyH_take (i := 22) (oi := { dst := some 44, op := Op.indexAddr 46 (Operand.tmp 30) (Operand.tmp 43), type := 0, pos := "ref.go:62", after := #[{ on := 8, ground := Ground.data }, { on := 21, ground := Ground.data }], guard := none }) (v := ?vb22) rfl (by kernel_rfl) (by kernel_rfl) (by kernel_rfl) (fun _ _ _ h => h) (Or.inl ⟨by rfl, ?hyb22⟩) (by assumption) ?restb22
      case hyb22 => (intro w hSw; (try dsimp only at hSw); first | (go_simp; done) | (go_simp; with_reducible rfl))
      try simp only [Act.put, List.setIfInBounds_toArray, List.set_cons_zero, List.set_cons_succ]
      refine wpAnyH_take (i := 23) (oi := { dst := some 45, op := Op.load 5 (Operand.tmp 44), type := 5, pos := "ref.go:62", after := #[{ on := 22, ground := Ground.data }], guard := none }) (v := ?vb23) rfl (by kernel_rfl) (by kernel_rfl) (by kernel_rfl) (fun _ _ _ h => h) (Or.inl ⟨by rfl, ?hyb23⟩) (by assumption) ?restb23
      case hyb23 => (intro w hSw; (try dsimp only at hSw); first | (go_simp; done) | (go_simp; with_reducible rfl))
      try simp only [Act.put, List.setIfInBounds_toArray, List.set_cons_zero, List.set_cons_succ]
      refine wpAnyH_ready (rs := [24]) (by kernel_rfl) (by simp) (AllReadyH.cons (o := { dst := some 46, op := Op.buildSlice 46 1 #[(0, Operand.tmp 45)], type := 46, pos := "ref.go:62", after := #[{ on := 23, ground := Ground.data }], guard := none }) rfl (fun K hK => ?stepb24) AllReadyH.nil)
      go_simp
      refine hK.out _ _ ⟨pw_cell_below (below_alloc (Below.refl _ _) _) hmd, pw_cell_below (below_alloc (Below.refl _ _) _) hcd0, pw_cell_below (below_alloc (Below.refl _ _) _) hcd1, pw_cell_below (below_alloc (Below.refl _ _) _) hbyte⟩ (fun hHeld2 => ?_)
      clear hK K hHeld
      try simp only [Act.put, List.setIfInBounds_toArray, List.set_cons_zero, List.set_cons_succ]
      refine wpAnyH_ready (rs := [25]) (by kernel_rfl) (by simp) (AllReadyH.cons (o := { dst := some 47, op := Op.call { callee := Callee.builtin Builtin.append, args := #[Operand.tmp 22, Operand.tmp 46], argTypes := #[46, 46] }, type := 46, pos := "ref.go:62", after := #[{ on := 0, ground := Ground.data }, { on := 24, ground := Ground.data }], guard := none }) rfl (fun K hK => ?stepb25) AllReadyH.nil)
      have hBW : Below wr.heap.size wr (wr.alloc (.cells #[.int .u8 (rd r.data (q : Int))] 5)).drew := below_drew (below_alloc (Below.refl _ _) _)
      have hown' := row_keep HO.out (X' := (wr.alloc (.cells #[.int .u8 (rd r.data (q : Int))] 5)).drew) (fun z hz => hBW.block z (own_lt HO.out z hz))
      obtain ⟨i0, hi0, hz0, hzs, hzb⟩ := info_parts infoU8
      obtain ⟨v', w', hrun, hown2, hg, _, hat⟩ := run_append_own_at (P := Try.prog) _ X.heap.size 46 46 5 i0 (.int .u8 0) 1 1 Try.underlying46 hi0 hz0 hzs hzb rfl (by decide) _ j _ hown' ⟨wr.heap.size, 0, none⟩ 1 1 [.int .u8 (rd r.data (q : Int))] rfl (fun z u hz => by
        match z, hz with
        | 0, hz => obtain rfl := Option.some.inj hz; rw [add_plain]; exact (pw_cell_below (below_drew (Below.refl _ _)) (by unfold World.cell?; dsimp only; rw [heap_alloc_new]; rfl))
        | _ + 1, hz => simp at hz) (fun u hu => by rw [List.mem_singleton.1 hu]; rfl) (by unfold maxLen; omega) (by omega) (Nat.le_trans HB.out.size hBW.size)
      have hBX : Below X.heap.size X w' := (HB.out.trans (hBW.mono HB.out.size)).grown hg (Nat.le_trans HB.out.size hBW.size) (fun z hz => own_base hown' z hz)
      have HBX := Aside0.mk hBX
      have HO2 := Aside0.mk hown2
      rw [if_pos (by rfl)]
      refine Go.Lib.wp_append_run _ (.tmp 22) (.tmp 46) 46 46 rfl _ _ rfl rfl v' w' hrun ?_
      refine hK.out _ _ ⟨pw_cell_below hBX HM0.out, pw_cell_below hBX HC0.out, pw_cell_below hBX HC1.out, ?hbb⟩ (fun hHeld3 => ?_)
      case hbb => exact pw_cell_below hBX (HBY.out q hql)
      clear hK K hHeld2 hrun hown2 hg hat hBX hown' hBW
      try simp only [Act.put, List.setIfInBounds_toArray, List.set_cons_zero, List.set_cons_succ]
      refine wpAnyH_ready (rs := [26]) (by kernel_rfl) (by simp) (AllReadyH.cons (o := { dst := some 9, op := Op.assign (Operand.tmp 47), type := 46, pos := "ref.go:62", after := #[{ on := 25, ground := Ground.data }, { on := 25, ground := Ground.chain }, { on := 0, ground := Ground.phase }, { on := 1, ground := Ground.phase }, { on := 2, ground := Ground.phase }, { on := 3, ground := Ground.phase }, { on := 4, ground := Ground.phase }, { on := 5, ground := Ground.phase }, { on := 6, ground := Ground.phase }, { on := 7, ground := Ground.phase }, { on := 8, ground := Ground.phase }, { on := 9, ground := Ground.phase }, { on := 10, ground := Ground.phase }, { on := 11, ground := Ground.phase }, { on := 12, ground := Ground.phase }, { on := 13, ground := Ground.phase }, { on := 14, ground := Ground.phase }, { on := 15, ground := Ground.phase }, { on := 16, ground := Ground.phase }, { on := 17, ground := Ground.phase }, { on := 18, ground := Ground.phase }, { on := 19, ground := Ground.phase }, { on := 20, ground := Ground.phase }, { on := 21, ground := Ground.phase }, { on := 22, ground := Ground.phase }, { on := 23, ground := Ground.phase }, { on := 24, ground := Ground.phase }, { on := 25, ground := Ground.phase }], guard := none }) rfl (fun K hK => ?stepb26) AllReadyH.nil)
      go_simp
      refine hK.out _ _ hHeld3 (fun hHeld4 => ?_)
      clear hK K hHeld3 hHeld4
      try simp only [Act.put, List.setIfInBounds_toArray, List.set_cons_zero, List.set_cons_succ]
      refine wpAnyH_done (by kernel_rfl) ?_ _
      go_wp2_with fail
      refine ⟨⟨j + 1, by omega, by congr 1, HBX, ⟨?_⟩⟩, by simp [intOf]; omega⟩
      have e1 : bs[j]? = some (rd r.data (q : Int)) := by
        rw [← HBS.out, List.getElem?_take, if_pos hlt, List.getElem?_drop, HQ.out]
        unfold rd
        rw [Int.toNat_natCast, List.getD_eq_getElem?_getD, List.getElem?_eq_getElem hql]
        rfl
      have e2 : bs.take (j + 1) = bs.take j ++ [rd r.data (q : Int)] := by rw [List.take_add_one, e1]; rfl
      rw [e2]
      have := HO2.out
      simpa [nums] using this
    · obtain rfl : j = nn := by omega
      have e3 : bs.take j = bs := List.take_of_length_le (by rw [← HBS.out, List.length_take]; omega)
      have HO3 := HO.out
      rw [e3] at HO3
      obtain ⟨A3, c3, rfl⟩ := own_slice HO3
      have HO4 := Aside0.mk HO3
      clear HO3 e3
      go_wp2_with fail
      go_ret2
      exact ⟨⟨_, rfl, HO4.out⟩, HB.out⟩
end Go.Proofs.Ytmkmldpcoonepaa.PAll
/- The reference's Put. -/
set_option linter.unusedVariables false
set_option linter.unusedSimpArgs false
namespace Go.Proofs.Ytmkmldpcoonepaa.PAll
open Go.RowKit Go.Shelf Go.Proofs.YtmkmldpcoonepaaW.PrintWords Go.Proofs.YtmkmldpcoonepaaW.PrintLast Go.Proofs.YtmkmldpcoonepaaW.PrintMore
theorem Out.drew {own : Nat → Prop} {X Y : World} (h : Out own X Y) : Out own X Y.drew := ⟨h.os, h.tape, h.output, h.size, h.block⟩
theorem nums_set (k : IntKind) (xs : List Int) (i : Nat) (x : Int) : nums k (xs.set i x) = (nums k xs).set i (.int k x) := by unfold nums; rw [List.map_set]
theorem splice_step (data bs : List Int) (off j : Nat) (hj : j < bs.length) (hf : off + bs.length ≤ data.length) : (splice data off (bs.take j)).set (off + j) (rd bs (j : Int)) = splice data off (bs.take (j + 1)) := by
  have e1 : bs.take (j + 1) = bs.take j ++ [rd bs (j : Int)] := by
    rw [List.take_add_one, List.getElem?_eq_getElem hj]
    unfold rd
    rw [Int.toNat_natCast, List.getD_eq_getElem?_getD, List.getElem?_eq_getElem hj]
    rfl
  have hl : (bs.take j).length = j := by rw [List.length_take]; omega
  unfold splice
  rw [e1]
  have hl2 : (data.take off).length = off := by rw [List.length_take]; omega
  rw [List.set_append_right _ _ (by omega), hl2, Nat.add_sub_cancel_left, List.set_append_right _ _ (by omega), hl, Nat.sub_self, List.length_append, hl, List.length_singleton]
  obtain ⟨y, hy⟩ : ∃ y, data[off + j]? = some y := ⟨_, List.getElem?_eq_getElem (by omega)⟩
  have hd : data.drop (off + j) = y :: data.drop (off + (j + 1)) := by
    rw [List.drop_eq_getElem_cons (by omega)]
    have : data[off + j] = y := by rw [List.getElem?_eq_getElem (by omega)] at hy; exact Option.some.inj hy
    rw [this]; rfl
  rw [hd, List.set_cons_zero, List.append_assoc]
  rfl
theorem cap_of_row {X : World} {B e n cap : Nat} {A : Option Addr} {xs : List Value} (h : X.ownsRow B e 1 (.slice A n cap) n xs) : n ≤ cap ∧ cap ≤ 9223372036854775807 := by
  rcases h.2 with ⟨h1, h2⟩ | ⟨g, c, cur, h1, _, _, h3, h4, _⟩
  · cases h1; omega
  · cases h1; exact ⟨h3, h4⟩
/-- One region's bytes turn; all else stands. -/
theorem RefIn.turn {X X' : World} {B : Nat} {own : Nat → Prop} {b : Nat} {R : List Reg} {v : Value} {ps : List (Nat × Nat)} (h : RefIn X B own b R v ps) {k : Nat} {p : Nat × Nat} {r : Reg} (hp : ps[k]? = some p) (hr : R[k]? = some r) (data : List Int) (hlen : data.length = r.data.length)
    (hX : ∀ i, i < X.heap.size → i ≠ p.1 → X'.heap[i]? = X.heap[i]?)
    (hrow : X'.ownsRow B 5 1 (.slice (some ⟨p.1, 0, none⟩) r.data.length p.2) r.data.length (nums .u8 data)) :
    RefIn X' B own b (R.set k { r with data := data }) v ps := by
  obtain ⟨ho, hro⟩ := h.reg k p r hp hr
  obtain ⟨cur, hcur⟩ := row_block hro rfl
  have hlt : ∀ {i : Nat} {o : Obj}, X.heap[i]? = some o → i < X.heap.size := fun hh => (Array.getElem?_eq_some_iff.1 hh).1
  have hk : k < R.length := (List.getElem?_eq_some_iff.1 hr).1
  have hrb : ∀ g, v.ownBlock = some g → ∃ cur, X.heap[g]? = some (.cells cur 126 (0, 0)) := by
    intro g hg
    rcases h.row.2 with ⟨rfl, _⟩ | ⟨g', cap, cur, rfl, _, hh, _⟩
    · simp [Value.ownBlock] at hg
    · obtain rfl : g' = g := by simpa [Value.ownBlock] using hg
      exact ⟨cur, hh⟩
  refine ⟨?_, h.ob, h.bb, ?_, h.orow, by rw [List.length_set]; exact h.len, ?_, h.nd⟩
  · rw [hX b (hlt h.blk) (two_blocks h.blk hcur (by decide))]; exact h.blk
  · rw [List.length_set]
    have e : cells2 (R.set k { r with data := data }) ps = cells2 R ps := by
      apply List.ext_getElem?
      intro j
      obtain ⟨i, hi⟩ : ∃ i, j = i * 2 ∨ j = i * 2 + 1 := ⟨j / 2, by omega⟩
      by_cases hil : i < R.length
      · obtain ⟨pi, hpi⟩ : ∃ pi, ps[i]? = some pi := ⟨_, List.getElem?_eq_getElem (by rw [h.len]; exact hil)⟩
        obtain ⟨ri, hri⟩ : ∃ ri, R[i]? = some ri := ⟨_, List.getElem?_eq_getElem hil⟩
        obtain ⟨c0, c1⟩ := cells2_at R ps i _ _ hri hpi
        by_cases hik : i = k
        · subst hik
          obtain ⟨d0, d1⟩ := cells2_at (R.set i { r with data := data }) ps i _ _ (List.getElem?_set_self hk) hpi
          have hrr : ri = r := by rw [hri] at hr; exact Option.some.inj hr
          rcases hi with rfl | rfl
          · rw [d0, c0, hrr]
          · rw [d1, c1, hrr]; show _ = some (Value.slice _ r.data.length _); rw [← hlen]
        · obtain ⟨d0, d1⟩ := cells2_at (R.set k { r with data := data }) ps i ri _ (by rw [List.getElem?_set_ne (by omega)]; exact hri) hpi
          rcases hi with rfl | rfl
          · rw [d0, c0]
          · rw [d1, c1]
      · rw [List.getElem?_eq_none (by rw [cells2_len _ _ (by rw [List.length_set]; exact h.len), List.length_set]; omega), List.getElem?_eq_none (by rw [cells2_len _ _ h.len]; omega)]
    rw [e]
    exact row_keep h.row (fun g hg => by obtain ⟨c2, hc2⟩ := hrb g hg; exact hX g (hlt hc2) (two_blocks hc2 hcur (by decide)))
  · intro i q s hq hs
    by_cases hik : i = k
    · subst hik
      rw [hp] at hq
      cases hq
      rw [List.getElem?_set_self hk] at hs
      cases hs
      refine ⟨ho, ?_⟩
      show X'.ownsRow B _ 1 (.slice (some ⟨p.1, 0, none⟩) data.length p.2) data.length _
      rw [hlen]
      exact hrow
    · rw [List.getElem?_set_ne (by omega)] at hs
      obtain ⟨hg, hro2⟩ := h.reg i q s hq hs
      have hne : q.1 ≠ p.1 := by
        intro he
        have e1 : (ps.map (·.1))[i]? = some q.1 := by rw [List.getElem?_map, hq]; rfl
        have e2 : (ps.map (·.1))[k]? = some p.1 := by rw [List.getElem?_map, hp]; rfl
        have hil : i < (ps.map (·.1)).length := (List.getElem?_eq_some_iff.1 e1).1
        exact hik ((List.getElem?_inj hil h.nd).1 (by rw [e1, e2, he]))
      exact ⟨hg, row_keep hro2 (fun g hg' => by cases hg'; exact hX q.1 (own_lt hro2 q.1 rfl) hne)⟩
def RPutPost (X : World) (B : Nat) (own : Nat → Prop) (b : Nat) (R : List Reg) (a : Int) (bs : List Int) (e : Ending) (X' : World) : Prop :=
  match putF R a bs with
  | none => e = .returned (.bool false) ∧ Below X.heap.size X X'
  | some R' => e = .returned (.bool true) ∧ RefAt X' B own b R' ∧ Out own X X'
theorem ref_Put_none (X : World) (B : Nat) (own : Nat → Prop) (b : Nat) (R : List Reg) (v : Value) (ps : List (Nat × Nat)) (a : Int) (A0 : Option Addr) (c0 nn : Nat) (h : RefIn X B own b R v ps) (hW : ∀ r ∈ R, Ok r) (hl : R.length ≤ 1000000) (ha0 : 0 ≤ a) (ha1 : a < 18446744073709551616) (hn1 : nn < 4294967296) (hf : R.findIdx? (hitR a nn) = none) :
    Calls Try.prog 56 #[.pointer (some ⟨b, 0, none⟩), .int .u64 a, .slice A0 nn c0] X fun e X' => e = .returned (.bool false) ∧ Below X.heap.size X X' := by
  have HF := Aside0.mk (ref_Find X B own b R v ps a nn h hW hl ha0 ha1 (by omega) (by omega))
  rw [findR_none hf] at HF
  clear h hW ha0 ha1 hn1 hf
  go_enter Try.func56, Try.ntmps56
  go_wp2_with fail
  refine HF.out.mono ?_
  rintro e w1 ⟨rfl, hb1⟩
  go_wp2_with fail
  go_ret
  exact ⟨rfl, hb1⟩
set_option maxHeartbeats 4000000 in
set_option maxRecDepth 100000 in
theorem ref_Put_some (X : World) (B : Nat) (own : Nat → Prop) (b : Nat) (R : List Reg) (v : Value) (ps : List (Nat × Nat)) (a : Int) (A0 : Option Addr) (c0 nn k : Nat) (bs : List Int) (hbl : bs.length = nn) (r : Reg) (h : RefIn X B own b R v ps) (hW : ∀ r ∈ R, Ok r) (hl : R.length ≤ 1000000) (ha0 : 0 ≤ a) (ha1 : a < 18446744073709551616) (hn1 : nn < 4294967296) (hf : R.findIdx? (hitR a nn) = some k) (hr : R[k]? = some r) (hh : hitR a nn r = true)
    (hr0 : Kd.C (Kd.int .u8) X A0 nn bs) (hA : ∀ ad, A0 = some ad → ¬ own ad.block) :
    Calls Try.prog 56 #[.pointer (some ⟨b, 0, none⟩), .int .u64 a, .slice A0 nn c0] X fun e X' => e = .returned (.bool true) ∧ RefAt X' B own b (R.set k { r with data := splice r.data (a - r.base).toNat bs }) ∧ Out own X X' := by
  have HF := Aside0.mk (ref_Find X B own b R v ps a nn h hW hl ha0 ha1 (by omega) (by omega))
  rw [findR_some hf] at HF
  obtain ⟨h1, h2, h3⟩ := hit_iff.1 hh
  obtain ⟨off, hoff⟩ : ∃ off : Nat, (a - r.base).toNat = off := ⟨_, rfl⟩
  have hao : a - r.base = off := by omega
  rw [hoff]
  have hkl := (List.getElem?_eq_some_iff.1 hr).1
  obtain ⟨p, r', g, cap, hp, hr', hv, hc0, hc1, hcap, hcm, hop, hro⟩ := h.get hkl
  rw [hr] at hr'
  cases hr'
  cases hv
  have HM := Aside0.mk h
  have HRO := Aside0.mk hro
  have hsh := (hW r (List.mem_of_getElem? hr)).short
  have HWO : Aside0 (∀ j : Nat, j < nn → IntKind.u64.wrap (IntKind.u64.wrap (off : Int) + IntKind.u64.wrap (j : Int)) = ((off + j : Nat) : Int)) := ⟨fun j hj => by rw [u64_mod, u64_mod, u64_mod, Int.emod_eq_of_lt (a := (off : Int)) (by omega) (by omega), Int.emod_eq_of_lt (a := (j : Int)) (by omega) (by omega), Int.emod_eq_of_lt (by omega) (by omega)]; omega⟩
  have HFIT : Aside0 (off + nn ≤ r.data.length) := ⟨by omega⟩
  have HAO := Aside0.mk hao
  have HC0 := Aside0.mk hc0
  have HC1 := Aside0.mk hc1
  have HM0 := Aside0.mk (blk1 h.blk).1
  have HP := Aside0.mk hp
  have HR := Aside0.mk hr
  have HOP := Aside0.mk hop
  have HR0 := Aside0.mk hr0
  have HBL := Aside0.mk hbl
  have HA := Aside0.mk hA
  obtain ⟨cur, hcur⟩ := row_block hro rfl
  have hgb : ∃ c2, X.heap[g]? = some (.cells c2 126 (0, 0)) := by
    rcases h.row.2 with ⟨h', _⟩ | ⟨g', cap', cur', h', _, hh', _⟩
    · cases h'
    · cases h'; exact ⟨cur', hh'⟩
  have HBP : Aside0 (b ≠ p.1) := ⟨two_blocks h.blk hcur (by decide)⟩
  have HGP : Aside0 (g ≠ p.1) := ⟨by obtain ⟨c2, hc2⟩ := hgb; exact two_blocks hc2 hcur (by decide)⟩
  clear h hW ha0 ha1 hf hh h1 h2 h3 hoff hsh hc0 hc1 hop hro hr hp hao hr0 hbl hA hcur hgb
  go_enter Try.func56, Try.ntmps56
  go_wp2_with fail
  refine HF.out.mono ?_
  rintro e w1 ⟨rfl, hb1⟩
  go_wp2_with fail
  go_loopw [8] (fun v8 wr => ∃ j : Nat, j ≤ nn ∧ v8 = .int .i64 j ∧ Aside0 (Out (fun z => z = p.1) X wr) ∧ Aside0 (wr.ownsRow B 5 1 (.slice (some ⟨p.1, 0, none⟩) r.data.length p.2) r.data.length (nums .u8 (splice r.data off (bs.take j))))) (fun v8 _ => nn - (intOf v8).toNat)
  case atStart => exact ⟨0, Nat.zero_le _, rfl, ⟨below_out hb1 _⟩, ⟨by
    have e0 : splice r.data off (bs.take 0) = r.data := by simp [splice]
    rw [e0]
    exact row_keep HRO.out (fun z hz => by cases hz; exact hb1.block p.1 (own_lt HRO.out p.1 rfl))⟩⟩
  case round =>
    obtain ⟨j, hj, rfl, HO, HS⟩ := hrel
    by_cases hlt : j < nn
    · have hkeep : ∀ (z o : Nat) (u : Value), z ≠ p.1 → X.cell? ⟨z, o, none⟩ = some u → wr.drew.cell? ⟨z, o, none⟩ = some u := fun z o u hz hu => by
        have := HO.out.block z (World.block_lt_of_cell? X _ hu) hz
        show wr.cell? _ = _
        unfold World.cell? at hu ⊢
        rw [this]
        exact hu
      have hmd : wr.drew.cell? ⟨b, 0, none⟩ = some (.slice (some ⟨g, 0, none⟩) R.length cap) := hkeep _ _ _ HBP.out HM0.out
      have hcd0 : wr.drew.cell? ⟨g, k * 2, none⟩ = some (.int .u64 r.base) := hkeep _ _ _ HGP.out HC0.out
      have hcd1 : wr.drew.cell? ⟨g, k * 2 + 1, none⟩ = some (.slice (some ⟨p.1, 0, none⟩) r.data.length p.2) := hkeep _ _ _ HGP.out HC1.out
      have hsrc : ∃ ad, A0 = some ad ∧ wr.drew.cell? (ad.add j) = some (.int .u8 (rd bs (j : Int))) := by
        obtain ⟨ad, e, hx⟩ := Kd.at_int HR0.out (j : Int) (by omega) (by omega)
        refine ⟨ad, e, ?_⟩
        rw [Int.toNat_natCast] at hx
        have hb' : (ad.add j).block = ad.block := by unfold Addr.add; split <;> rfl
        have := HO.out.block (ad.add j).block (World.block_lt_of_cell? X _ hx) (fun h' => HA.out ad e (by rw [← hb', h']; exact HOP.out))
        show wr.cell? _ = _
        unfold World.cell? at hx ⊢
        rw [this]
        exact hx
      obtain ⟨ad, rfl, hsrc⟩ := hsrc
      have hwj := HWO.out j hlt
      obtain ⟨q, hq⟩ : ∃ q : Nat, off + j = q := ⟨_, rfl⟩
      have hql : q < r.data.length := by have := HFIT.out; omega
      have hq0 : (0 : Int) ≤ (q : Int) := by omega
      have hq1 : (q : Int) < (r.data.length : Int) := by omega
      rw [hq] at hwj
      have HQ := Aside0.mk hq
      have hold : ∃ u, wr.drew.cell? ⟨p.1, q, none⟩ = some u := ⟨_, by
        show wr.cell? _ = _
        rw [HS.out.cellAt q (by omega), List.getElem?_eq_getElem (by rw [nums_length, length_splice _ _ _ (by rw [List.length_take]; have := HFIT.out; omega)]; exact hql)]⟩
      obtain ⟨u0, hold⟩ := hold
      have hfro : wr.drew.frozen? ⟨p.1, q, none⟩ = false := HS.out.frozenAt q
      have hao := HAO.out
      clear hq hkeep
      go_wp2_with fail
      have HK : Aside0 (∀ (z : Addr) (u x : Value), z.block ≠ p.1 → wr.drew.cell? z = some u → (wr.setCell ⟨p.1, q, none⟩ x).drew.cell? z = some u) := ⟨fun z u x hz hu => by
        show (wr.setCell _ _).cell? _ = _
        rw [World.cell?_setCell_far _ _ _ _ (fun h => hz h.symm)]
        exact hu⟩
      have HAD : Aside0 ((ad.add j).block ≠ p.1) := ⟨fun h => by
        have hb' : (ad.add j).block = ad.block := by unfold Addr.add; split <;> rfl
        exact HA.out ad rfl (by rw [← hb', h]; exact HOP.out)⟩
      go_region_held3 (fun w' => w'.cell? ⟨b, 0, none⟩ = some (.slice (some ⟨g, 0, none⟩) R.length cap) ∧ w'.cell? ⟨g, k * 2, none⟩ = some (.int .u64 r.base) ∧ w'.cell? ⟨g, k * 2 + 1, none⟩ = some (.slice (some ⟨p.1, 0, none⟩) r.data.length p.2) ∧ w'.cell? (ad.add j) = some (.int .u8 (rd bs (j : Int)))) ((first | exact ⟨hmd, hcd0, hcd1, hsrc⟩ | exact ⟨HK.out _ _ _ HBP.out hmd, HK.out _ _ _ HGP.out hcd0, HK.out _ _ _ HGP.out hcd1, HK.out _ _ _ HAD.out hsrc⟩)) (fail)
      go_wp2_with fail
      refine ⟨⟨j + 1, by omega, by congr 1, ⟨?_⟩, ⟨?_⟩⟩, by simp [intOf]; omega⟩
      · exact (HO.out.trans (set_out wr p.1 q (.int .u8 (rd bs (j : Int)))) (fun _ _ h => h)).drew
      · rw [← splice_step r.data bs off j (by rw [HBL.out]; exact hlt) (by rw [HBL.out]; exact HFIT.out), nums_set, HQ.out]
        exact (HS.out.stored q (.int .u8 (rd bs (j : Int)))).1
    · obtain rfl : j = nn := by omega
      have HS2 := HS.out
      rw [List.take_of_length_le (by rw [HBL.out]; exact Nat.le_refl _)] at HS2
      have HS3 := Aside0.mk HS2
      clear HS2
      go_wp2_with fail
      go_ret
      refine ⟨rfl, ⟨_, ps, HM.out.turn HP.out HR.out _ (length_splice _ _ _ (by rw [HBL.out]; exact HFIT.out)) (fun i hi hne => HO.out.block i hi hne) HS3.out⟩, HO.out.mono (fun i _ h => by rw [h]; exact HOP.out)⟩
set_option maxHeartbeats 1000000 in
theorem ref_Put (X : World) (B : Nat) (own : Nat → Prop) (b : Nat) (R : List Reg) (a : Int) (A0 : Option Addr) (c0 : Nat) (bs : List Int) (h : RefAt X B own b R) (hW : ∀ r ∈ R, Ok r) (hl : R.length ≤ 1000000) (ha0 : 0 ≤ a) (ha1 : a < 18446744073709551616) (hbl : bs.length < 4294967296)
    (hr0 : Kd.C (Kd.int .u8) X A0 bs.length bs) (hA : 0 < bs.length → ∀ ad, A0 = some ad → ¬ own ad.block) :
    Calls Try.prog 56 #[.pointer (some ⟨b, 0, none⟩), .int .u64 a, .slice A0 bs.length c0] X (RPutPost X B own b R a bs) := by
  obtain ⟨v, ps, h⟩ := h
  unfold RPutPost putF
  cases hf : R.findIdx? (hitR a bs.length) with
  | none => exact ref_Put_none X B own b R v ps a A0 c0 bs.length h hW hl ha0 ha1 hbl hf
  | some k =>
    obtain ⟨hk, hh, _⟩ := List.findIdx?_eq_some_iff_getElem.1 hf
    have hr : R[k]? = some R[k] := List.getElem?_eq_getElem hk
    dsimp only
    rw [hr]
    exact ref_Put_some X B own b R v ps a A0 c0 bs.length k bs rfl R[k] h hW hl ha0 ha1 hbl hf hr hh hr0 (hA (by have := (hit_iff.1 hh).1; omega))
end Go.Proofs.Ytmkmldpcoonepaa.PAll
/- The reference's Read and Write. -/
set_option linter.unusedVariables false
set_option linter.unusedSimpArgs false
namespace Go.Proofs.Ytmkmldpcoonepaa.PAll
open Go.RowKit Go.Shelf Go.Proofs.YtmkmldpcoonepaaW.PrintWords Go.Proofs.YtmkmldpcoonepaaW.PrintLast Go.Proofs.YtmkmldpcoonepaaW.PrintMore
theorem size_f (n : Int) : slotcoderef20_size.f n = some (numB n) := by
  unfold slotcoderef20_size.f numB
  by_cases h1 : n = 1
  · rw [if_pos h1, decide_eq_true (.inl h1)]
  · rw [if_neg h1]
    by_cases h2 : n = 2
    · rw [if_pos h2, decide_eq_true (.inr (.inl h2))]
    · rw [if_neg h2]
      by_cases h4 : n = 4
      · rw [if_pos h4, decide_eq_true (.inr (.inr (.inl h4)))]
      · rw [if_neg h4]
        by_cases h8 : n = 8
        · rw [h8]; rfl
        · rw [decide_eq_false (by omega), beq_eq_false_iff_ne.mpr h8]
theorem row_R {X : World} {B n : Nat} {v : Value} {xs : List Int} (h : X.ownsRow B 5 1 v n (nums .u8 xs)) : Kd.R (Kd.int .u8) 5 X B (fun _ => True) v xs := by
  have hl : xs.length = n := by have := h.1; rw [nums_length] at this; omega
  subst hl
  exact Kd.R_of_own (enc := fun x => .int .u8 x) (by simpa [encs, nums] using h) (fun _ _ => trivial)
theorem ref_Bytes (X : World) (B : Nat) (own : Nat → Prop) (b : Nat) (R : List Reg) (a n : Int) (h : RefAt X B own b R) (hW : ∀ r ∈ R, Ok r) (hl : R.length ≤ 1000000) (ha0 : 0 ≤ a) (ha1 : a < 18446744073709551616) (hn0 : -9223372036854775808 ≤ n) (hn1 : n < 9223372036854775808) :
    Calls Try.prog 47 #[.pointer (some ⟨b, 0, none⟩), .int .u64 a, .int .i64 n] X (BytesPost X R a n) := by
  obtain ⟨v, ps, h⟩ := h
  cases hf : R.findIdx? (hitR a n) with
  | none =>
    refine (ref_Bytes_none X B own b R v ps a n h hW hl ha0 ha1 hn0 hn1 hf).mono ?_
    rintro e X' ⟨he, hb⟩
    have hF : bytesF R a n = none := by unfold bytesF; rw [hf]
    exact ⟨hb, _, by rw [hF]; exact he, by rw [hF]; exact Kd.R_nil _ _ _ _ _⟩
  | some k =>
    obtain ⟨hk, hh, _⟩ := List.findIdx?_eq_some_iff_getElem.1 hf
    have hr : R[k]? = some R[k] := List.getElem?_eq_getElem hk
    obtain ⟨h1, h2, h3⟩ := hit_iff.1 hh
    obtain ⟨nn, rfl⟩ : ∃ nn : Nat, n = nn := ⟨n.toNat, by omega⟩
    have hsh := (hW _ (List.getElem_mem hk)).short
    refine (ref_Bytes_some X B own b R v ps a nn k R[k] h hW hl ha0 ha1 (by omega) hf hr hh).mono ?_
    rintro e X' ⟨⟨v', he, hro⟩, hb⟩
    have hF : bytesF R a nn = some ((R[k].data.drop (a - R[k].base).toNat).take nn) := by unfold bytesF; rw [hf]; dsimp only; rw [hr]; rfl
    exact ⟨hb, v', by rw [hF]; exact he, by rw [hF]; exact row_R hro⟩
/-- What stands behind some rounds of Read. -/
def RdRel (bs : List Int) (k : Nat) (x : Int) : Prop := ∃ pre, backL bs.length bs = pre ++ backL k bs ∧ x = valB pre ∧ pre.length + k = bs.length
theorem RdRel.bound {bs : List Int} {k : Nat} {x : Int} (h : RdRel bs k x) (hw : ∀ x ∈ bs, 0 ≤ x ∧ x < 256) : 0 ≤ x ∧ x < 256 ^ (bs.length - k) := by
  obtain ⟨pre, h1, rfl, h3⟩ := h
  refine valB_range _ pre (by omega) (fun y hy => backL_mem bs hw bs.length (Nat.le_refl _) y (by rw [h1]; exact List.mem_append_left _ hy))
theorem RdRel.step {bs : List Int} {k : Nat} {x : Int} (h : RdRel bs (k + 1) x) : RdRel bs k (x * 256 + rd bs k) := by
  obtain ⟨pre, h1, rfl, h3⟩ := h
  exact ⟨pre ++ [((k : Int), rd bs k)], by rw [h1]; simp [backL], by rw [valB_snoc], by simp; omega⟩
theorem RdRel.done {bs : List Int} {x : Int} (h : RdRel bs 0 x) : x = leV bs := by
  obtain ⟨pre, h1, rfl, h3⟩ := h
  unfold leV
  rw [h1]
  simp [backL]
def RWritePost (X : World) (B : Nat) (own : Nat → Prop) (b : Nat) (R : List Reg) (a n x : Int) (e : Ending) (X' : World) : Prop :=
  match writeF R a n x with
  | none => e = .returned (.bool false) ∧ Below X.heap.size X X'
  | some R' => e = .returned (.bool true) ∧ RefAt X' B own b R' ∧ Out own X X'
theorem Out.alloc {own : Nat → Prop} {X Y : World} (h : Out own X Y) (o : Obj) : Out own X (Y.alloc o) := h.trans (below_out (below_alloc (Below.refl _ _) _) own) (fun _ _ h => h)
theorem ediv_pow (x : Int) (j : Nat) : x / 2 ^ (8 * j) / 256 = x / 2 ^ (8 * (j + 1)) := by
  rw [show 8 * (j + 1) = 8 * j + 8 by omega, Int.pow_add, Int.ediv_ediv_of_nonneg (Int.le_of_lt (Int.pow_pos (by decide)))]
  rfl
set_option maxHeartbeats 2000000 in
set_option maxRecDepth 100000 in
theorem ref_Write (X : World) (B : Nat) (own : Nat → Prop) (b : Nat) (R : List Reg) (a n x : Int) (h : RefAt X B own b R) (hW : ∀ r ∈ R, Ok r) (hl : R.length ≤ 1000000) (ha0 : 0 ≤ a) (ha1 : a < 18446744073709551616) (hn0 : -9223372036854775808 ≤ n) (hn1 : n < 9223372036854775808) (hx0 : 0 ≤ x) (hx1 : x < 18446744073709551616) :
    Calls Try.prog 46 #[.pointer (some ⟨b, 0, none⟩), .int .u64 a, .int .i64 n, .int .u64 x] X (RWritePost X B own b R a n x) := by
  have HN := Aside0.mk (fun W => slotcoderef20_size.calls n _ W (size_f n))
  by_cases hn : numB n = true
  · rw [hn] at HN
    have hn2 : n = 1 ∨ n = 2 ∨ n = 4 ∨ n = 8 := of_decide_eq_true hn
    obtain ⟨nn, rfl⟩ : ∃ nn : Nat, n = nn := ⟨n.toNat, by omega⟩
    have hnn0 : 1 ≤ nn := by omega
    have hnn : nn ≤ 8 := by omega
    have HF : Aside0 (writeF R a nn x = putF R a (le nn x)) := ⟨by unfold writeF; rw [if_pos hn, Int.toNat_natCast]⟩
    have HM := Aside0.mk h
    have HPUT : Aside0 (∀ (W : World) (A0 : Option Addr) (c0 : Nat), Below X.heap.size X W → Kd.C (Kd.int .u8) W A0 nn (le nn x) → (∀ ad, A0 = some ad → X.heap.size ≤ ad.block) → Calls Try.prog 56 #[.pointer (some ⟨b, 0, none⟩), .int .u64 a, .slice A0 nn c0] W (RPutPost W B (fun k => own k ∧ k < X.heap.size) b R a (le nn x))) := ⟨fun W A0 c0 hb hC hA => by
      have := ref_Put W B (fun k => own k ∧ k < X.heap.size) b R a A0 c0 (le nn x) (h.bound.below hb) hW hl ha0 ha1 (by rw [le_length]; omega) (by rw [le_length]; exact hC) (fun _ ad e ho => by have := hA ad e; omega)
      rwa [le_length] at this⟩
    obtain ⟨i0, hi, hz0, hz1, hz2⟩ := info_parts infoU8
    clear h hW hn hn2 ha0 ha1 hn0 hn1
    go_enter Try.func46, Try.ntmps46
    go_wp2_with fail
    refine (HN.out _).mono ?_
    rintro e w1 ⟨rfl, hd1⟩
    have HB1 : Aside0 (Below X.heap.size X w1) := ⟨hd1.below⟩
    clear hd1
    go_wp2_with fail
    go_loopw [3, 9, 10] (fun v3 v9 v10 wr => ∃ (j : Nat) (y : Int), j ≤ nn ∧ v10 = .int .i64 j ∧ v3 = .int .u64 y ∧ 0 ≤ y ∧ y < 18446744073709551616 ∧ Aside0 (y = x / 2 ^ (8 * j)) ∧ Aside0 (Below X.heap.size X wr) ∧ Aside0 (wr.ownsRow X.heap.size 5 1 v9 j (nums .u8 (le j x)))) (fun _ _ v10 _ => nn - (intOf v10).toNat)
    case atStart => exact ⟨0, x, Nat.zero_le _, rfl, rfl, hx0, hx1, ⟨by simp⟩, ⟨HB1.out⟩, ⟨World.ownsRow_nil _ _ _ _⟩⟩
    case round =>
      obtain ⟨j, y, hj, rfl, rfl, hy0, hy1, HY, HB, HO⟩ := hrel
      by_cases hlt : j < nn
      · go_wp2_with (at_builtin; refine wpList_append_own_at _ rfl _ _ 46 rfl X.heap.size 5 i0 (.int .u8 0) 1 1 Try.underlying46 hi hz0 hz1 hz2 rfl (by decide) _ j _ rfl (HO.out.alloc _) ⟨wr.heap.size, 0, none⟩ 1 1 [.int .u8 (y % 256)] rfl rfl (cell_one_new _ _ _) (ints_oneCell .u8 [y % 256]) (by unfold maxLen; omega) (by omega) (Nat.le_trans HB.out.size (below_alloc (Below.refl _ _) _).size) ?_; intro v' w2 hown' hgrow hnil hloc)
        have HB2 : Below X.heap.size X w2 := (HB.out.alloc HB.out.size _).grown hgrow (Nat.le_trans HB.out.size (below_alloc (Below.refl _ _) _).size) (fun z hz => own_base HO.out z hz)
        refine ⟨⟨j + 1, y / 256, by omega, by congr 1, rfl, by omega, by omega, ⟨by rw [HY.out]; exact ediv_pow x j⟩, ⟨HB2⟩, ⟨?_⟩⟩, by simp [intOf]; omega⟩
        rw [le_succ, nums_append]
        have e : byteAt x j = y % 256 := by rw [HY.out]; rfl
        rw [e]
        exact hown'
      · obtain rfl : j = nn := by omega
        obtain ⟨A3, c3, rfl, hc3, hl3, hC3⟩ := row_C HO.out
        have hA3 : ∀ ad, A3 = some ad → X.heap.size ≤ ad.block := fun ad e => by
          subst e
          rcases HO.out.2 with ⟨h', _⟩ | ⟨g', cap', cur', h', hg', _⟩
          · cases h'
          · cases h'; exact hg'
        have HCALL := Aside0.mk (HPUT.out wr A3 c3 HB.out hC3 hA3)
        clear hC3 hA3 hl3 hc3
        go_wp2_with fail
        refine HCALL.out.mono ?_
        intro e w2 hp
        have HQ : Aside0 (RWritePost X B own b R a j x e w2) := by
          refine ⟨?_⟩
          unfold RWritePost
          rw [HF.out]
          unfold RPutPost at hp
          cases hf : putF R a (le j x) with
          | none => rw [hf] at hp; exact ⟨hp.1, below_then HB.out HB.out.size hp.2⟩
          | some R' => rw [hf] at hp; exact ⟨hp.1, hp.2.1.mono (fun _ _ h => h.1), (below_out HB.out own).trans hp.2.2 (fun _ _ h => h.1)⟩
        obtain ⟨bb, rfl⟩ : ∃ b, e = .returned (.bool b) := by
          unfold RPutPost at hp
          cases hf : putF R a (le j x) with
          | none => rw [hf] at hp; exact ⟨_, hp.1⟩
          | some L' => rw [hf] at hp; exact ⟨_, hp.1⟩
        clear hp
        go_wp2_with fail
        go_ret
        exact HQ.out
  · have hn' : numB n = false := by simpa using hn
    rw [hn'] at HN
    have HF : Aside0 (writeF R a n x = none) := ⟨by unfold writeF; rw [if_neg hn]⟩
    clear hn hn' h ha0 ha1 hW
    go_enter Try.func46, Try.ntmps46
    go_wp2_with fail
    refine (HN.out _).mono ?_
    rintro e w1 ⟨rfl, hd1⟩
    go_wp2_with fail
    go_ret
    unfold RWritePost
    rw [HF.out]
    exact ⟨rfl, hd1.below⟩
end Go.Proofs.Ytmkmldpcoonepaa.PAll
/- The reference's Add. -/
set_option linter.unusedVariables false
set_option linter.unusedSimpArgs false
namespace Go.Proofs.Ytmkmldpcoonepaa.PAll
open Go.RowKit Go.Shelf Go.Proofs.YtmkmldpcoonepaaW.PrintWords Go.Proofs.YtmkmldpcoonepaaW.PrintLast Go.Proofs.YtmkmldpcoonepaaW.PrintMore
theorem infoReg : (Try.prog.info? 126).map (fun i => (i.zero, i.size, i.bytes)) = some (some (.agg #[.int .u64 0, .slice none 0 0]), 2, 32) := by kernel_rfl
/-- A region is added behind the others. -/
theorem RefIn.push {X Y : World} {B : Nat} {own own' : Nat → Prop} {b : Nat} {R : List Reg} {v v' : Value} {ps : List (Nat × Nat)} (h : RefIn X B own b R v ps) (s : Reg) (q : Nat × Nat) (hown : ∀ k, own k → own' k)
    (hk : ∀ k, k < X.heap.size → k ≠ b → v.ownBlock ≠ some k → Y.heap[k]? = X.heap[k]?) (hb : Y.heap[b]? = some (.cells #[v'] 37 (0, 0)))
    (hrow : Y.ownsRow B 126 2 v' (R.length + 1) (cells2 R ps ++ cell2 s q)) (hvo : ∀ k, v'.ownBlock = some k → own' k)
    (hq : own' q.1) (hqr : Y.ownsRow B 5 1 (.slice (some ⟨q.1, 0, none⟩) s.data.length q.2) s.data.length (nums .u8 s.data)) (hnew : X.heap.size ≤ q.1) :
    RefIn Y B own' b (R ++ [s]) v' (ps ++ [q]) := by
  refine ⟨hb, hown _ h.ob, h.bb, ?_, hvo, by simp [h.len], ?_, ?_⟩
  · rw [cells2_append _ _ _ _ h.len, List.length_append]; exact hrow
  · intro i p r hp hr
    by_cases hi : i < R.length
    · rw [List.getElem?_append_left (by rw [h.len]; exact hi)] at hp
      rw [List.getElem?_append_left hi] at hr
      obtain ⟨g1, g2⟩ := h.reg i p r hp hr
      have n1 : p.1 ≠ b := by
        intro e
        obtain ⟨c, hc⟩ := row_block g2 rfl
        exact two_blocks hc h.blk (by decide) e
      have n2 : v.ownBlock ≠ some p.1 := by
        intro e
        obtain ⟨c, hc⟩ := row_block g2 rfl
        rcases h.row.2 with ⟨rfl, _⟩ | ⟨g', cap, cur, rfl, _, hh, _⟩
        · simp [Value.ownBlock] at e
        · obtain rfl : g' = p.1 := by simpa [Value.ownBlock] using e
          exact two_blocks hc hh (by decide) rfl
      exact ⟨hown _ g1, row_keep g2 (fun z hz => by cases hz; exact hk p.1 (own_lt g2 p.1 rfl) n1 n2)⟩
    · have hlt := (List.getElem?_eq_some_iff.1 hr).1
      rw [List.length_append, List.length_singleton] at hlt
      obtain rfl : i = R.length := by omega
      rw [List.getElem?_append_right (by rw [h.len]; exact Nat.le_refl _), h.len, Nat.sub_self] at hp
      rw [List.getElem?_append_right (Nat.le_refl _), Nat.sub_self] at hr
      cases hp; cases hr
      exact ⟨hq, hqr⟩
  · rw [List.map_append, List.nodup_append]
    refine ⟨h.nd, by simp, ?_⟩
    intro x hx y hy e
    obtain ⟨p, hp, rfl⟩ := List.mem_map.1 hx
    obtain ⟨i, hi⟩ := List.mem_iff_getElem?.1 hp
    have hil := (List.getElem?_eq_some_iff.1 hi).1
    rw [h.len] at hil
    have := own_lt (h.reg i p _ hi (List.getElem?_eq_getElem hil)).2 p.1 rfl
    simp at hy
    omega
theorem cell2_one {r : Reg} {q : Nat × Nat} : ∀ u ∈ cell2 r q, u.oneCell' = true := by
  intro u hu
  simp only [cell2, List.mem_cons, List.not_mem_nil, or_false] at hu
  rcases hu with rfl | rfl <;> rfl
theorem addOk_false {R : List Reg} {base : Int} {n : Nat} {k : Nat} {r : Reg} (hr : R[k]? = some r) (hp : 0 < r.data.length) (h : insB r base = true ∨ (base ≤ r.base ∧ r.base < base + n)) : addOk R base n = false := by
  unfold addOk
  refine decide_eq_false (fun hh => ?_)
  have := hh.2.2 r (List.mem_of_getElem? hr)
  have h0 := hh.1
  unfold insB at h
  rw [decide_eq_true_eq] at h
  omega
theorem addOk_true {R : List Reg} {base : Int} {n : Nat} (h0 : 0 < n) (h1 : base + n ≤ 18446744073709551616) (hp : ∀ r ∈ R, 0 < r.data.length) (h : ∀ (k : Nat) (r : Reg), k < R.length → R[k]? = some r → insB r base = false ∧ ¬ (base ≤ r.base ∧ r.base < base + n)) : addOk R base n = true := by
  unfold addOk
  refine decide_eq_true ⟨h0, h1, fun r hr => ?_⟩
  obtain ⟨k, hk⟩ := List.mem_iff_getElem?.1 hr
  obtain ⟨h2, h3⟩ := h k r (List.getElem?_eq_some_iff.1 hk).1 hk
  have := hp r hr
  unfold insB at h2
  rw [decide_eq_false_iff_not] at h2
  omega
def RAddPost (X : World) (B : Nat) (own : Nat → Prop) (b : Nat) (R : List Reg) (base : Int) (bs : List Int) (e : Ending) (X' : World) : Prop :=
  if addOk R base bs.length = true then e = .returned (.bool true) ∧ RefAt X' B (orNew own X) b (R ++ [⟨base, bs⟩]) ∧ Out own X X'
  else e = .returned (.bool false) ∧ Below X.heap.size X X'
set_option maxHeartbeats 4000000 in
set_option maxRecDepth 100000 in
theorem ref_Add (X : World) (B : Nat) (own : Nat → Prop) (b : Nat) (R : List Reg) (base : Int) (A0 : Option Addr) (c0 : Nat) (bs : List Int) (h : RefAt X B own b R) (hW : ∀ r ∈ R, Ok r) (hl : R.length ≤ 999999) (hBX : B ≤ X.heap.size) (ha0 : 0 ≤ base) (ha1 : base < 18446744073709551616) (hr0 : Kd.C (Kd.int .u8) X A0 bs.length bs) (hc0 : bs.length ≤ c0) (hbl : bs.length ≤ 4294967296) :
    Calls Try.prog 57 #[.pointer (some ⟨b, 0, none⟩), .int .u64 base, .slice A0 bs.length c0] X (RAddPost X B own b R base bs) := by
  obtain ⟨v, ps, hM⟩ := h
  have HM := Aside0.mk hM
  have HW := Aside0.mk hW
  have hu : IntKind.u64.wrap ((bs.length : Int) - 1) = (bs.length : Int) - 1 ∨ bs.length = 0 := by rw [u64_mod]; rcases Nat.eq_zero_or_pos bs.length with h | h; exact .inr h; exact .inl (Int.emod_eq_of_lt (by omega) (by omega))
  by_cases h0 : bs.length = 0
  · have HF : Aside0 (RAddPost X B own b R base bs (.returned (.bool false)) X) := ⟨by
      have hF : addOk R base bs.length = false := by unfold addOk; simp [h0]
      unfold RAddPost; rw [hF]; exact ⟨rfl, Below.refl _ _⟩⟩
    rw [h0]
    clear hu ha0 ha1 hbl hc0 h0 hM hW hr0
    go_enter Try.func57, Try.ntmps57
    go_wp2_with fail
    go_ret
    exact HF.out
  replace hu := hu.resolve_right h0
  have hl0 : ((bs.length : Int) == 0) = false := beq_eq_false_iff_ne.mpr (by omega)
  obtain ⟨s, hs⟩ : ∃ s, IntKind.u64.wrap (base + ((bs.length : Int) - 1)) = s := ⟨_, rfl⟩
  rw [u64_mod] at hs
  by_cases h2 : base + bs.length ≤ 18446744073709551616
  case neg =>
    have HF : Aside0 (RAddPost X B own b R base bs (.returned (.bool false)) X) := ⟨by
      have hF : addOk R base bs.length = false := by unfold addOk; simp; intro _ h; exact absurd h (by omega)
      unfold RAddPost; rw [hF]; exact ⟨rfl, Below.refl _ _⟩⟩
    have hlt : decide (s < base) = true := decide_eq_true (by omega)
    have hpos : 0 < bs.length := by omega
    rw [← u64_mod] at hs
    clear h2 ha0 ha1 hc0 h0 hM hW hr0
    go_enter Try.func57, Try.ntmps57
    go_wp2_with fail
    go_ret
    exact HF.out
  have hlt : decide (s < base) = false := decide_eq_false (by omega)
  rw [← u64_mod] at hs
  obtain ⟨A, c, rfl⟩ := own_slice hM.row
  have HL0 : Aside0 (0 < bs.length) := ⟨by omega⟩
  have HB2 := Aside0.mk h2
  have HBL := Aside0.mk hbl
  have hpos : 0 < bs.length := HL0.out
  have HA0 := Aside0.mk ha0
  have HR0 := Aside0.mk hr0
  have HC0 := Aside0.mk hc0
  clear ha0 ha1 hc0 h0 h2 hM hW hr0
  go_enter Try.func57, Try.ntmps57
  go_wp2_with (first | ((with_reducible refine gate_dst (N := 23) rfl ?_); refine Kd.R_lit (Kd.int .u8) _ 5 ?hg (N := 23) ?hd (xs := ([] : List Int)) (inner := []) (ok := fun _ => True) (okp := fun _ => True) ?hr ?hp (fun _ hk => hk) trivial (Below.refl _ _) (Nat.le_refl _) (by simp) ?_; (case hd => rfl); (case hg => rfl); (case hr => first | (go_simp; done) | (go_simp; rfl)); (case hp => exact (Reps.none _ _)); intro v1 w1 ho1 hb1 hg1 hnew1; clear hg1 hnew1; have HO1 := Aside0.mk ho1; have HB1 := Aside0.mk hb1; clear ho1 hb1) | ((with_reducible refine gate_builtin (b := .append) (xs := #[.tmp 23, .tmp 24]) rfl ?_); at_builtin; refine Kd.R_append_rows (Kd.int .u8) (w0 := X) X.heap.size rfl (.tmp 23) (.tmp 24) 46 5 (.int .u8 0) 1 rfl Try.underlying46 infoU8 rfl (by decide) (by omega) v1 [] bs _ _ _ (fun _ => True) (fun _ => False) rfl rfl ?aO ?aR (fun _ _ h => h) (fun _ h => h.elim) ?aF ?aB ?aS ?aL ?_; (case aR => exact Kd.C_below HR0.out HB1.out); (case aB => exact HB1.out); (case aF => exact (fun _ _ => trivial)); (case aO => exact HO1.out); (case aS => exact HB1.out.size); (case aL => have := HBL.out; simp only [List.length_nil]; omega); intro v2 w2 ho2 hb2 hg2 hat2; clear hg2 hat2; rw [List.nil_append] at ho2; obtain ⟨g1, cap1, rfl, hg1, hg1l, cells, hcells⟩ := Kd.R_form ho2 HL0.out; have HO2 := Aside0.mk ho2; have HBX2 := Aside0.mk hb2; have HG1 := Aside0.mk hg1; clear ho2 hb2 hcells hg1 hg1l))
  have HROW1 : Aside0 (w2.ownsRow X.heap.size 5 1 (.slice (some ⟨g1, 0, none⟩) bs.length cap1) bs.length (nums .u8 bs)) := ⟨by simpa [encs, nums] using Kd.own_of_R HO2.out⟩
  obtain ⟨W1, hW1⟩ : ∃ W1, w2.alloc (.cells #[.int .u64 base, .slice (some ⟨g1, 0, none⟩) bs.length cap1] 126) = W1 := ⟨_, rfl⟩
  obtain ⟨mb, hmb⟩ : ∃ mb, w2.heap.size = mb := ⟨_, rfl⟩
  have HMB : Aside0 (W1.heap[mb]? = some (.cells #[.int .u64 base, .slice (some ⟨g1, 0, none⟩) bs.length cap1] 126 (0, 0))) := ⟨by rw [← hW1, ← hmb]; exact heap_alloc_new w2 _⟩
  have HWW : Aside0 (Below w2.heap.size w2 W1) := ⟨by rw [← hW1]; exact Below.alloc (Below.refl _ _) (Nat.le_refl _) _⟩
  have HXW : Aside0 (Below X.heap.size X W1) := ⟨HBX2.out.trans (HWW.out.mono HBX2.out.size)⟩
  have HRW1 : Aside0 (W1.ownsRow X.heap.size 5 1 (.slice (some ⟨g1, 0, none⟩) bs.length cap1) bs.length (nums .u8 bs)) := ⟨pw_own_below HROW1.out HWW.out⟩
  have HCAP := Aside0.mk (cap_of_row HROW1.out)
  have HMBX : Aside0 (X.heap.size ≤ mb) := ⟨by rw [← hmb]; exact HBX2.out.size⟩
  rw [hW1, hmb]
  clear hW1 hmb HO1 HO2 HB1 HR0
  go_loopw [8] (fun v8 wr => ∃ k : Nat, k ≤ R.length ∧ v8 = .int .i64 k ∧ Aside0 (Below W1.heap.size W1 wr) ∧ Aside0 (∀ (j : Nat) (q : Reg), j < k → R[j]? = some q → insB q base = false ∧ ¬ (base ≤ q.base ∧ q.base < base + bs.length))) (fun v8 _ => R.length - (intOf v8).toNat)
  case atStart => exact ⟨0, Nat.zero_le _, rfl, ⟨Below.refl _ _⟩, ⟨fun j q hj => by omega⟩⟩
  case round =>
    obtain ⟨k, hk, rfl, HB, HJ⟩ := hrel
    have HXr : Aside0 (Below X.heap.size X wr) := ⟨below_then HXW.out HXW.out.size HB.out⟩
    have HMr := Aside0.mk (HM.out.below HXr.out)
    have hm0 := (blk1 HMr.out.blk).1
    have hmb0 := pw_cell_below HB.out (blk2 HMB.out).1
    have hmb1 := pw_cell_below HB.out (blk2 HMB.out).2.1
    by_cases hlt : k < R.length
    · obtain ⟨p, r, g, cap, hp, hr, hv, hc0, hc1, hcap, hcm, hop, hro⟩ := HMr.out.get hlt
      cases hv
      have HOK := Aside0.mk (HW.out r (List.mem_of_getElem? hr))
      have HR := Aside0.mk hr
      have HBD : Aside0 (Below W1.heap.size W1 wr.drew) := ⟨below_drew HB.out⟩
      have hmd : wr.drew.cell? ⟨b, 0, none⟩ = some (.slice (some ⟨g, 0, none⟩) R.length c) := hm0
      have hcd0 : wr.drew.cell? ⟨g, k * 2, none⟩ = some (.int .u64 r.base) := hc0
      have hcd1 : wr.drew.cell? ⟨g, k * 2 + 1, none⟩ = some (.slice (some ⟨p.1, 0, none⟩) r.data.length p.2) := hc1
      have hmd0 : wr.drew.cell? ⟨mb, 0, none⟩ = some (.int .u64 base) := hmb0
      have hmd1 : wr.drew.cell? ⟨mb, 1, none⟩ = some (.slice (some ⟨g1, 0, none⟩) bs.length cap1) := hmb1
      have hcap2 := cap_of_row hro
      have hro1 := HM.out.reg k p r hp hr
      have hbb : base < 18446744073709551616 := by have := HB2.out; omega
      have HINS : Aside0 (∀ w, (w.cell? ⟨b, 0, none⟩ = some (.slice (some ⟨g, 0, none⟩) R.length c) ∧ w.cell? ⟨g, k * 2, none⟩ = some (.int .u64 r.base) ∧ w.cell? ⟨g, k * 2 + 1, none⟩ = some (.slice (some ⟨p.1, 0, none⟩) r.data.length p.2) ∧ w.cell? ⟨mb, 0, none⟩ = some (.int .u64 base) ∧ w.cell? ⟨mb, 1, none⟩ = some (.slice (some ⟨g1, 0, none⟩) bs.length cap1) ∧ Below W1.heap.size W1 w) → ∀ (s : Reg) (x : Int) (A : Option Addr) (cc : Nat), 0 ≤ s.base → 0 ≤ x → x < 18446744073709551616 → s.data.length ≤ 4294967296 → s.data.length ≤ cc → Kd.C (Kd.int .u8) w A s.data.length s.data →
          Calls Try.prog 76 #[.agg #[.int .u64 s.base, .slice A s.data.length cc], .int .u64 x] w fun e w' => e = .returned (.bool (insB s x)) ∧ (w'.cell? ⟨b, 0, none⟩ = some (.slice (some ⟨g, 0, none⟩) R.length c) ∧ w'.cell? ⟨g, k * 2, none⟩ = some (.int .u64 r.base) ∧ w'.cell? ⟨g, k * 2 + 1, none⟩ = some (.slice (some ⟨p.1, 0, none⟩) r.data.length p.2) ∧ w'.cell? ⟨mb, 0, none⟩ = some (.int .u64 base) ∧ w'.cell? ⟨mb, 1, none⟩ = some (.slice (some ⟨g1, 0, none⟩) bs.length cap1) ∧ Below W1.heap.size W1 w')) := ⟨fun w ⟨s1, s2, s3, s4, s5, hb⟩ s x A cc q0 q1 q2 q3 q4 hC => by
        refine (inside_c s x A cc w q0 q1 q2 q3 hC q4).mono ?_
        rintro e w' ⟨he, hb'⟩
        exact ⟨he, pw_cell_below hb' s1, pw_cell_below hb' s2, pw_cell_below hb' s3, pw_cell_below hb' s4, pw_cell_below hb' s5, below_then hb hb.size hb'⟩⟩
      have HINS1 : Aside0 (∀ w, (w.cell? ⟨b, 0, none⟩ = some (.slice (some ⟨g, 0, none⟩) R.length c) ∧ w.cell? ⟨g, k * 2, none⟩ = some (.int .u64 r.base) ∧ w.cell? ⟨g, k * 2 + 1, none⟩ = some (.slice (some ⟨p.1, 0, none⟩) r.data.length p.2) ∧ w.cell? ⟨mb, 0, none⟩ = some (.int .u64 base) ∧ w.cell? ⟨mb, 1, none⟩ = some (.slice (some ⟨g1, 0, none⟩) bs.length cap1) ∧ Below W1.heap.size W1 w) → Calls Try.prog 76 #[.agg #[.int .u64 r.base, .slice (some ⟨p.1, 0, none⟩) r.data.length p.2], .int .u64 base] w fun e w' => e = .returned (.bool (insB r base)) ∧ (w'.cell? ⟨b, 0, none⟩ = some (.slice (some ⟨g, 0, none⟩) R.length c) ∧ w'.cell? ⟨g, k * 2, none⟩ = some (.int .u64 r.base) ∧ w'.cell? ⟨g, k * 2 + 1, none⟩ = some (.slice (some ⟨p.1, 0, none⟩) r.data.length p.2) ∧ w'.cell? ⟨mb, 0, none⟩ = some (.int .u64 base) ∧ w'.cell? ⟨mb, 1, none⟩ = some (.slice (some ⟨g1, 0, none⟩) bs.length cap1) ∧ Below W1.heap.size W1 w')) := ⟨fun w hS => by
        obtain ⟨s1, s2, s3, s4, s5, hb⟩ := hS
        obtain ⟨A2, c2, he2, _, _, hC2⟩ := row_C (row_keep hro1.2 (X' := w) (fun q hq => by cases hq; exact (below_then HXW.out HXW.out.size hb).block p.1 (own_lt hro1.2 p.1 rfl)))
        obtain ⟨rfl, rfl⟩ : A2 = some ⟨p.1, 0, none⟩ ∧ c2 = p.2 := by
          have := he2
          simp only [Value.slice.injEq] at this
          exact ⟨this.1.symm, this.2.2.symm⟩
        exact HINS.out w ⟨s1, s2, s3, s4, s5, hb⟩ r base _ _ HOK.out.lo HA0.out hbb HOK.out.short hcap2.1 hC2⟩
      have HINS2 : Aside0 (∀ w, (w.cell? ⟨b, 0, none⟩ = some (.slice (some ⟨g, 0, none⟩) R.length c) ∧ w.cell? ⟨g, k * 2, none⟩ = some (.int .u64 r.base) ∧ w.cell? ⟨g, k * 2 + 1, none⟩ = some (.slice (some ⟨p.1, 0, none⟩) r.data.length p.2) ∧ w.cell? ⟨mb, 0, none⟩ = some (.int .u64 base) ∧ w.cell? ⟨mb, 1, none⟩ = some (.slice (some ⟨g1, 0, none⟩) bs.length cap1) ∧ Below W1.heap.size W1 w) → Calls Try.prog 76 #[.agg #[.int .u64 base, .slice (some ⟨g1, 0, none⟩) bs.length cap1], .int .u64 r.base] w fun e w' => e = .returned (.bool (insB ⟨base, bs⟩ r.base)) ∧ (w'.cell? ⟨b, 0, none⟩ = some (.slice (some ⟨g, 0, none⟩) R.length c) ∧ w'.cell? ⟨g, k * 2, none⟩ = some (.int .u64 r.base) ∧ w'.cell? ⟨g, k * 2 + 1, none⟩ = some (.slice (some ⟨p.1, 0, none⟩) r.data.length p.2) ∧ w'.cell? ⟨mb, 0, none⟩ = some (.int .u64 base) ∧ w'.cell? ⟨mb, 1, none⟩ = some (.slice (some ⟨g1, 0, none⟩) bs.length cap1) ∧ Below W1.heap.size W1 w')) := ⟨fun w hS => by
        obtain ⟨s1, s2, s3, s4, s5, hb⟩ := hS
        obtain ⟨A2, c2, he2, _, _, hC2⟩ := row_C (row_keep HRW1.out (X' := w) (fun q hq => by cases hq; exact hb.block g1 (own_lt HRW1.out g1 rfl)))
        obtain ⟨rfl, rfl⟩ : A2 = some ⟨g1, 0, none⟩ ∧ c2 = cap1 := by
          have := he2
          simp only [Value.slice.injEq] at this
          exact ⟨this.1.symm, this.2.2.symm⟩
        have h1 := HOK.out.hi
        have h2 := HOK.out.pos
        exact HINS.out w ⟨s1, s2, s3, s4, s5, hb⟩ ⟨base, bs⟩ r.base _ _ HA0.out HOK.out.lo (by omega) hbl HCAP.out.1 hC2⟩
      clear HINS hr hp hro hro1 hop hcap hcm hcap2 hbb
      cases hins : insB r base with
      | true =>
        have HNO := Aside0.mk (addOk_false (base := base) (n := bs.length) HR.out HOK.out.pos (.inl hins))
        rw [hins] at HINS1
        clear hins
        go_wp2_with fail
        refine wp_region_held_drew (S := (fun w' => w'.cell? ⟨b, 0, none⟩ = some (.slice (some ⟨g, 0, none⟩) R.length c) ∧ w'.cell? ⟨g, k * 2, none⟩ = some (.int .u64 r.base) ∧ w'.cell? ⟨g, k * 2 + 1, none⟩ = some (.slice (some ⟨p.1, 0, none⟩) r.data.length p.2) ∧ w'.cell? ⟨mb, 0, none⟩ = some (.int .u64 base) ∧ w'.cell? ⟨mb, 1, none⟩ = some (.slice (some ⟨g1, 0, none⟩) bs.length cap1) ∧ Below W1.heap.size W1 w')) (by kernel_rfl) ⟨hmd, hcd0, hcd1, hmd0, hmd1, HBD.out⟩ (fun hHeld => ?_)
        refine wpAnyH_take (i := 0) (oi := { dst := some 36, op := Op.move (Operand.tmp 0), type := 34, pos := "ref.go:33", after := #[], guard := none }) (v := ?va0) rfl (by kernel_rfl) (by kernel_rfl) (by kernel_rfl) (fun _ _ _ h => h) (Or.inl ⟨by rfl, ?hya0⟩) (by assumption) ?resta0
        case hya0 => (intro w hSw; (try dsimp only at hSw); first | (go_simp; done) | (go_simp; with_reducible rfl))
        try simp only [Act.put, List.setIfInBounds_toArray, List.set_cons_zero, List.set_cons_succ]
        refine wpAnyH_take (i := 1) (oi := { dst := some 37, op := Op.nilCheck (Operand.tmp 36), type := 0, pos := "ref.go:33", after := #[{ on := 0, ground := Ground.data }], guard := none }) (v := ?va1) rfl (by kernel_rfl) (by kernel_rfl) (by kernel_rfl) (fun _ _ _ h => h) (Or.inl ⟨by rfl, ?hya1⟩) (by assumption) ?resta1
        case hya1 => (intro w hSw; (try dsimp only at hSw); first | (go_simp; done) | (go_simp; with_reducible rfl))
        try simp only [Act.put, List.setIfInBounds_toArray, List.set_cons_zero, List.set_cons_succ]
        refine wpAnyH_take (i := 2) (oi := { dst := some 38, op := Op.fieldAddr 37 (Operand.tmp 37) 0, type := 0, pos := "ref.go:33", after := #[{ on := 1, ground := Ground.data }], guard := none }) (v := ?va2) rfl (by kernel_rfl) (by kernel_rfl) (by kernel_rfl) (fun _ _ _ h => h) (Or.inl ⟨by rfl, ?hya2⟩) (by assumption) ?resta2
        case hya2 => (intro w hSw; (try dsimp only at hSw); first | (go_simp; done) | (go_simp; with_reducible rfl))
        try simp only [Act.put, List.setIfInBounds_toArray, List.set_cons_zero, List.set_cons_succ]
        refine wpAnyH_take (i := 3) (oi := { dst := some 39, op := Op.load 35 (Operand.tmp 38), type := 35, pos := "ref.go:33", after := #[{ on := 2, ground := Ground.data }], guard := none }) (v := ?va3) rfl (by kernel_rfl) (by kernel_rfl) (by kernel_rfl) (fun _ _ _ h => h) (Or.inl ⟨by rfl, ?hya3⟩) (by assumption) ?resta3
        case hya3 => (intro w hSw; (try dsimp only at hSw); first | (go_simp; done) | (go_simp; with_reducible rfl))
        try simp only [Act.put, List.setIfInBounds_toArray, List.set_cons_zero, List.set_cons_succ]
        refine wpAnyH_take (i := 4) (oi := { dst := some 40, op := Op.move (Operand.tmp 8), type := 3, pos := "ref.go:33", after := #[], guard := none }) (v := ?va4) rfl (by kernel_rfl) (by kernel_rfl) (by kernel_rfl) (fun _ _ _ h => h) (Or.inl ⟨by rfl, ?hya4⟩) (by assumption) ?resta4
        case hya4 => (intro w hSw; (try dsimp only at hSw); first | (go_simp; done) | (go_simp; with_reducible rfl))
        try simp only [Act.put, List.setIfInBounds_toArray, List.set_cons_zero, List.set_cons_succ]
        refine wpAnyH_take (i := 5) (oi := { dst := some 41, op := Op.indexAddr 35 (Operand.tmp 39) (Operand.tmp 40), type := 0, pos := "ref.go:33", after := #[{ on := 3, ground := Ground.data }, { on := 4, ground := Ground.data }], guard := none }) (v := ?va5) rfl (by kernel_rfl) (by kernel_rfl) (by kernel_rfl) (fun _ _ _ h => h) (Or.inl ⟨by rfl, ?hya5⟩) (by assumption) ?resta5
        case hya5 => (intro w hSw; (try dsimp only at hSw); first | (go_simp; done) | (go_simp; with_reducible rfl))
        try simp only [Act.put, List.setIfInBounds_toArray, List.set_cons_zero, List.set_cons_succ]
        refine wpAnyH_take (i := 6) (oi := { dst := some 42, op := Op.load 126 (Operand.tmp 41), type := 126, pos := "ref.go:33", after := #[{ on := 5, ground := Ground.data }], guard := none }) (v := ?va6) rfl (by kernel_rfl) (by kernel_rfl) (by kernel_rfl) (fun _ _ _ h => h) (Or.inl ⟨by rfl, ?hya6⟩) (by assumption) ?resta6
        case hya6 => (intro w hSw; (try dsimp only at hSw); first | (go_simp; done) | (go_simp; with_reducible rfl))
        try simp only [Act.put, List.setIfInBounds_toArray, List.set_cons_zero, List.set_cons_succ]
        refine wpAnyH_take (i := 7) (oi := { dst := some 43, op := Op.move (Operand.tmp 1), type := 23, pos := "ref.go:33", after := #[], guard := none }) (v := ?va7) rfl (by kernel_rfl) (by kernel_rfl) (by kernel_rfl) (fun _ _ _ h => h) (Or.inl ⟨by rfl, ?hya7⟩) (by assumption) ?resta7
        case hya7 => (intro w hSw; (try dsimp only at hSw); first | (go_simp; done) | (go_simp; with_reducible rfl))
        try simp only [Act.put, List.setIfInBounds_toArray, List.set_cons_zero, List.set_cons_succ]
        refine wpAnyH_ready (rs := [8]) (by kernel_rfl) (by simp) (AllReadyH.cons (o := { dst := some 44, op := Op.call { callee := Callee.value (Operand.func 76), args := #[Operand.tmp 42, Operand.tmp 43], argTypes := #[126, 23] }, type := 4, pos := "ref.go:33", after := #[{ on := 6, ground := Ground.data }, { on := 7, ground := Ground.data }], guard := none }) rfl (fun K hK => ?stepa8) AllReadyH.nil)
        go_simp
        go_at_call 76
        refine (HINS1.out _ hHeld).mono ?_
        rintro e w3 ⟨rfl, hS3⟩
        try dsimp only
        refine hK.out _ _ hS3 (fun hHeld2 => ?_)
        clear hK K hHeld
        try simp only [Act.put, List.setIfInBounds_toArray, List.set_cons_zero, List.set_cons_succ]
        refine wpAnyH_take (i := 9) (oi := { dst := some 45, op := Op.move (Operand.tmp 44), type := 4, pos := "ref.go:33", after := #[{ on := 8, ground := Ground.data }, { on := 8, ground := Ground.chain }], guard := none }) (v := ?vb9) rfl (by kernel_rfl) (by kernel_rfl) (by kernel_rfl) (fun _ _ _ h => h) (Or.inl ⟨by rfl, ?hyb9⟩) (by assumption) ?restb9
        case hyb9 => (intro w hSw; (try dsimp only at hSw); first | (go_simp; done) | (go_simp; with_reducible rfl))
        try simp only [Act.put, List.setIfInBounds_toArray, List.set_cons_zero, List.set_cons_succ]
        refine wpAnyH_take (i := 10) (oi := { dst := some 46, op := Op.load 126 (Operand.tmp 7), type := 126, pos := "ref.go:33", after := #[{ on := 9, ground := Ground.guard }], guard := some (9, false) }) (v := undef) rfl (by kernel_rfl) (by kernel_rfl) (by kernel_rfl) (fun _ _ _ h => h) (Or.inr ⟨by rfl, rfl⟩) (by assumption) ?restb10
        try simp only [Act.put, List.setIfInBounds_toArray, List.set_cons_zero, List.set_cons_succ]
        refine wpAnyH_take (i := 11) (oi := { dst := some 47, op := Op.move (Operand.tmp 0), type := 34, pos := "ref.go:33", after := #[{ on := 9, ground := Ground.guard }], guard := some (9, false) }) (v := undef) rfl (by kernel_rfl) (by kernel_rfl) (by kernel_rfl) (fun _ _ _ h => h) (Or.inr ⟨by rfl, rfl⟩) (by assumption) ?restb11
        try simp only [Act.put, List.setIfInBounds_toArray, List.set_cons_zero, List.set_cons_succ]
        refine wpAnyH_take (i := 12) (oi := { dst := some 48, op := Op.nilCheck (Operand.tmp 47), type := 0, pos := "ref.go:33", after := #[{ on := 11, ground := Ground.data }, { on := 9, ground := Ground.guard }], guard := some (9, false) }) (v := undef) rfl (by kernel_rfl) (by kernel_rfl) (by kernel_rfl) (fun _ _ _ h => h) (Or.inr ⟨by rfl, rfl⟩) (by assumption) ?restb12
        try simp only [Act.put, List.setIfInBounds_toArray, List.set_cons_zero, List.set_cons_succ]
        refine wpAnyH_take (i := 13) (oi := { dst := some 49, op := Op.fieldAddr 37 (Operand.tmp 48) 0, type := 0, pos := "ref.go:33", after := #[{ on := 12, ground := Ground.data }, { on := 9, ground := Ground.guard }], guard := some (9, false) }) (v := undef) rfl (by kernel_rfl) (by kernel_rfl) (by kernel_rfl) (fun _ _ _ h => h) (Or.inr ⟨by rfl, rfl⟩) (by assumption) ?restb13
        try simp only [Act.put, List.setIfInBounds_toArray, List.set_cons_zero, List.set_cons_succ]
        refine wpAnyH_take (i := 14) (oi := { dst := some 50, op := Op.load 35 (Operand.tmp 49), type := 35, pos := "ref.go:33", after := #[{ on := 13, ground := Ground.data }, { on := 9, ground := Ground.guard }], guard := some (9, false) }) (v := undef) rfl (by kernel_rfl) (by kernel_rfl) (by kernel_rfl) (fun _ _ _ h => h) (Or.inr ⟨by rfl, rfl⟩) (by assumption) ?restb14
        try simp only [Act.put, List.setIfInBounds_toArray, List.set_cons_zero, List.set_cons_succ]
        refine wpAnyH_take (i := 15) (oi := { dst := some 51, op := Op.move (Operand.tmp 8), type := 3, pos := "ref.go:33", after := #[{ on := 9, ground := Ground.guard }], guard := some (9, false) }) (v := undef) rfl (by kernel_rfl) (by kernel_rfl) (by kernel_rfl) (fun _ _ _ h => h) (Or.inr ⟨by rfl, rfl⟩) (by assumption) ?restb15
        try simp only [Act.put, List.setIfInBounds_toArray, List.set_cons_zero, List.set_cons_succ]
        refine wpAnyH_take (i := 16) (oi := { dst := some 52, op := Op.indexAddr 35 (Operand.tmp 50) (Operand.tmp 51), type := 0, pos := "ref.go:33", after := #[{ on := 14, ground := Ground.data }, { on := 15, ground := Ground.data }, { on := 9, ground := Ground.guard }], guard := some (9, false) }) (v := undef) rfl (by kernel_rfl) (by kernel_rfl) (by kernel_rfl) (fun _ _ _ h => h) (Or.inr ⟨by rfl, rfl⟩) (by assumption) ?restb16
        try simp only [Act.put, List.setIfInBounds_toArray, List.set_cons_zero, List.set_cons_succ]
        refine wpAnyH_take (i := 17) (oi := { dst := some 53, op := Op.fieldAddr 126 (Operand.tmp 52) 0, type := 0, pos := "ref.go:33", after := #[{ on := 16, ground := Ground.data }, { on := 9, ground := Ground.guard }], guard := some (9, false) }) (v := undef) rfl (by kernel_rfl) (by kernel_rfl) (by kernel_rfl) (fun _ _ _ h => h) (Or.inr ⟨by rfl, rfl⟩) (by assumption) ?restb17
        try simp only [Act.put, List.setIfInBounds_toArray, List.set_cons_zero, List.set_cons_succ]
        refine wpAnyH_take (i := 18) (oi := { dst := some 54, op := Op.load 23 (Operand.tmp 53), type := 23, pos := "ref.go:33", after := #[{ on := 17, ground := Ground.data }, { on := 9, ground := Ground.guard }], guard := some (9, false) }) (v := undef) rfl (by kernel_rfl) (by kernel_rfl) (by kernel_rfl) (fun _ _ _ h => h) (Or.inr ⟨by rfl, rfl⟩) (by assumption) ?restb18
        try simp only [Act.put, List.setIfInBounds_toArray, List.set_cons_zero, List.set_cons_succ]
        refine wpAnyH_take (i := 19) (oi := { dst := some 55, op := Op.call { callee := Callee.value (Operand.func 76), args := #[Operand.tmp 46, Operand.tmp 54], argTypes := #[126, 23] }, type := 4, pos := "ref.go:33", after := #[{ on := 10, ground := Ground.data }, { on := 18, ground := Ground.data }, { on := 9, ground := Ground.chain }, { on := 9, ground := Ground.guard }], guard := some (9, false) }) (v := undef) rfl (by kernel_rfl) (by kernel_rfl) (by kernel_rfl) (fun _ _ _ h => h) (Or.inr ⟨by rfl, rfl⟩) (by assumption) ?restb19
        try simp only [Act.put, List.setIfInBounds_toArray, List.set_cons_zero, List.set_cons_succ]
        refine wpAnyH_take (i := 20) (oi := { dst := some 56, op := Op.pick (Operand.tmp 45) (Operand.const (Value.bool true)) (Operand.tmp 55), type := 4, pos := "ref.go:33", after := #[{ on := 9, ground := Ground.data }, { on := 19, ground := Ground.data }], guard := none }) (v := ?vb20) rfl (by kernel_rfl) (by kernel_rfl) (by kernel_rfl) (fun _ _ _ h => h) (Or.inl ⟨by rfl, ?hyb20⟩) (by assumption) ?restb20
        case hyb20 => (intro w hSw; (try dsimp only at hSw); first | (go_simp; done) | (go_simp; with_reducible rfl))
        try simp only [Act.put, List.setIfInBounds_toArray, List.set_cons_zero, List.set_cons_succ]
        refine wpAnyH_done (by kernel_rfl) ?_ _
        go_wp2_with fail
        have HQ : Aside0 (RAddPost X B own b R base bs (.returned (.bool false)) w3) := ⟨by
          unfold RAddPost
          rw [HNO.out]
          exact ⟨rfl, below_then HXW.out HXW.out.size hS3.2.2.2.2.2⟩⟩
        go_ret
        exact HQ.out
      | false =>
        rw [hins] at HINS1
        have HI1 := Aside0.mk hins
        clear hins
        cases hins2 : insB ⟨base, bs⟩ r.base with
        | true =>
          have HNO := Aside0.mk (addOk_false (base := base) (n := bs.length) HR.out HOK.out.pos (.inr (by unfold insB at hins2; rw [decide_eq_true_eq] at hins2; exact hins2)))
          rw [hins2] at HINS2
          clear hins2
          go_wp2_with fail
          refine wp_region_held_drew (S := (fun w' => w'.cell? ⟨b, 0, none⟩ = some (.slice (some ⟨g, 0, none⟩) R.length c) ∧ w'.cell? ⟨g, k * 2, none⟩ = some (.int .u64 r.base) ∧ w'.cell? ⟨g, k * 2 + 1, none⟩ = some (.slice (some ⟨p.1, 0, none⟩) r.data.length p.2) ∧ w'.cell? ⟨mb, 0, none⟩ = some (.int .u64 base) ∧ w'.cell? ⟨mb, 1, none⟩ = some (.slice (some ⟨g1, 0, none⟩) bs.length cap1) ∧ Below W1.heap.size W1 w')) (by kernel_rfl) ⟨hmd, hcd0, hcd1, hmd0, hmd1, HBD.out⟩ (fun hHeld => ?_)
          refine wpAnyH_take (i := 0) (oi := { dst := some 36, op := Op.move (Operand.tmp 0), type := 34, pos := "ref.go:33", after := #[], guard := none }) (v := ?vta0) rfl (by kernel_rfl) (by kernel_rfl) (by kernel_rfl) (fun _ _ _ h => h) (Or.inl ⟨by rfl, ?hyta0⟩) (by assumption) ?restta0
          case hyta0 => (intro w hSw; (try dsimp only at hSw); first | (go_simp; done) | (go_simp; with_reducible rfl))
          try simp only [Act.put, List.setIfInBounds_toArray, List.set_cons_zero, List.set_cons_succ]
          refine wpAnyH_take (i := 1) (oi := { dst := some 37, op := Op.nilCheck (Operand.tmp 36), type := 0, pos := "ref.go:33", after := #[{ on := 0, ground := Ground.data }], guard := none }) (v := ?vta1) rfl (by kernel_rfl) (by kernel_rfl) (by kernel_rfl) (fun _ _ _ h => h) (Or.inl ⟨by rfl, ?hyta1⟩) (by assumption) ?restta1
          case hyta1 => (intro w hSw; (try dsimp only at hSw); first | (go_simp; done) | (go_simp; with_reducible rfl))
          try simp only [Act.put, List.setIfInBounds_toArray, List.set_cons_zero, List.set_cons_succ]
          refine wpAnyH_take (i := 2) (oi := { dst := some 38, op := Op.fieldAddr 37 (Operand.tmp 37) 0, type := 0, pos := "ref.go:33", after := #[{ on := 1, ground := Ground.data }], guard := none }) (v := ?vta2) rfl (by kernel_rfl) (by kernel_rfl) (by kernel_rfl) (fun _ _ _ h => h) (Or.inl ⟨by rfl, ?hyta2⟩) (by assumption) ?restta2
          case hyta2 => (intro w hSw; (try dsimp only at hSw); first | (go_simp; done) | (go_simp; with_reducible rfl))
          try simp only [Act.put, List.setIfInBounds_toArray, List.set_cons_zero, List.set_cons_succ]
          refine wpAnyH_take (i := 3) (oi := { dst := some 39, op := Op.load 35 (Operand.tmp 38), type := 35, pos := "ref.go:33", after := #[{ on := 2, ground := Ground.data }], guard := none }) (v := ?vta3) rfl (by kernel_rfl) (by kernel_rfl) (by kernel_rfl) (fun _ _ _ h => h) (Or.inl ⟨by rfl, ?hyta3⟩) (by assumption) ?restta3
          case hyta3 => (intro w hSw; (try dsimp only at hSw); first | (go_simp; done) | (go_simp; with_reducible rfl))
          try simp only [Act.put, List.setIfInBounds_toArray, List.set_cons_zero, List.set_cons_succ]
          refine wpAnyH_take (i := 4) (oi := { dst := some 40, op := Op.move (Operand.tmp 8), type := 3, pos := "ref.go:33", after := #[], guard := none }) (v := ?vta4) rfl (by kernel_rfl) (by kernel_rfl) (by kernel_rfl) (fun _ _ _ h => h) (Or.inl ⟨by rfl, ?hyta4⟩) (by assumption) ?restta4
          case hyta4 => (intro w hSw; (try dsimp only at hSw); first | (go_simp; done) | (go_simp; with_reducible rfl))
          try simp only [Act.put, List.setIfInBounds_toArray, List.set_cons_zero, List.set_cons_succ]
          refine wpAnyH_take (i := 5) (oi := { dst := some 41, op := Op.indexAddr 35 (Operand.tmp 39) (Operand.tmp 40), type := 0, pos := "ref.go:33", after := #[{ on := 3, ground := Ground.data }, { on := 4, ground := Ground.data }], guard := none }) (v := ?vta5) rfl (by kernel_rfl) (by kernel_rfl) (by kernel_rfl) (fun _ _ _ h => h) (Or.inl ⟨by rfl, ?hyta5⟩) (by assumption) ?restta5
          case hyta5 => (intro w hSw; (try dsimp only at hSw); first | (go_simp; done) | (go_simp; with_reducible rfl))
          try simp only [Act.put, List.setIfInBounds_toArray, List.set_cons_zero, List.set_cons_succ]
          refine wpAnyH_take (i := 6) (oi := { dst := some 42, op := Op.load 126 (Operand.tmp 41), type := 126, pos := "ref.go:33", after := #[{ on := 5, ground := Ground.data }], guard := none }) (v := ?vta6) rfl (by kernel_rfl) (by kernel_rfl) (by kernel_rfl) (fun _ _ _ h => h) (Or.inl ⟨by rfl, ?hyta6⟩) (by assumption) ?restta6
          case hyta6 => (intro w hSw; (try dsimp only at hSw); first | (go_simp; done) | (go_simp; with_reducible rfl))
          try simp only [Act.put, List.setIfInBounds_toArray, List.set_cons_zero, List.set_cons_succ]
          refine wpAnyH_take (i := 7) (oi := { dst := some 43, op := Op.move (Operand.tmp 1), type := 23, pos := "ref.go:33", after := #[], guard := none }) (v := ?vta7) rfl (by kernel_rfl) (by kernel_rfl) (by kernel_rfl) (fun _ _ _ h => h) (Or.inl ⟨by rfl, ?hyta7⟩) (by assumption) ?restta7
          case hyta7 => (intro w hSw; (try dsimp only at hSw); first | (go_simp; done) | (go_simp; with_reducible rfl))
          try simp only [Act.put, List.setIfInBounds_toArray, List.set_cons_zero, List.set_cons_succ]
          refine wpAnyH_ready (rs := [8]) (by kernel_rfl) (by simp) (AllReadyH.cons (o := { dst := some 44, op := Op.call { callee := Callee.value (Operand.func 76), args := #[Operand.tmp 42, Operand.tmp 43], argTypes := #[126, 23] }, type := 4, pos := "ref.go:33", after := #[{ on := 6, ground := Ground.data }, { on := 7, ground := Ground.data }], guard := none }) rfl (fun K hK => ?stepta8) AllReadyH.nil)
          go_simp
          go_at_call 76
          refine (HINS1.out _ hHeld).mono ?_
          rintro e w3 ⟨rfl, hS3⟩
          try dsimp only
          refine hK.out _ _ hS3 (fun hHeld2 => ?_)
          clear hK K hHeld
          try simp only [Act.put, List.setIfInBounds_toArray, List.set_cons_zero, List.set_cons_succ]
          refine wpAnyH_take (i := 9) (oi := { dst := some 45, op := Op.move (Operand.tmp 44), type := 4, pos := "ref.go:33", after := #[{ on := 8, ground := Ground.data }, { on := 8, ground := Ground.chain }], guard := none }) (v := ?vtb9) rfl (by kernel_rfl) (by kernel_rfl) (by kernel_rfl) (fun _ _ _ h => h) (Or.inl ⟨by rfl, ?hytb9⟩) (by assumption) ?resttb9
          case hytb9 => (intro w hSw; (try dsimp only at hSw); first | (go_simp; done) | (go_simp; with_reducible rfl))
          try simp only [Act.put, List.setIfInBounds_toArray, List.set_cons_zero, List.set_cons_succ]
          refine wpAnyH_take (i := 10) (oi := { dst := some 46, op := Op.load 126 (Operand.tmp 7), type := 126, pos := "ref.go:33", after := #[{ on := 9, ground := Ground.guard }], guard := some (9, false) }) (v := ?vtb10) rfl (by kernel_rfl) (by kernel_rfl) (by kernel_rfl) (fun _ _ _ h => h) (Or.inl ⟨by rfl, ?hytb10⟩) (by assumption) ?resttb10
          case hytb10 => (intro w hSw; (try dsimp only at hSw); first | (go_simp; done) | (go_simp; with_reducible rfl))
          try simp only [Act.put, List.setIfInBounds_toArray, List.set_cons_zero, List.set_cons_succ]
          refine wpAnyH_take (i := 11) (oi := { dst := some 47, op := Op.move (Operand.tmp 0), type := 34, pos := "ref.go:33", after := #[{ on := 9, ground := Ground.guard }], guard := some (9, false) }) (v := ?vtb11) rfl (by kernel_rfl) (by kernel_rfl) (by kernel_rfl) (fun _ _ _ h => h) (Or.inl ⟨by rfl, ?hytb11⟩) (by assumption) ?resttb11
          case hytb11 => (intro w hSw; (try dsimp only at hSw); first | (go_simp; done) | (go_simp; with_reducible rfl))
          try simp only [Act.put, List.setIfInBounds_toArray, List.set_cons_zero, List.set_cons_succ]
          refine wpAnyH_take (i := 12) (oi := { dst := some 48, op := Op.nilCheck (Operand.tmp 47), type := 0, pos := "ref.go:33", after := #[{ on := 11, ground := Ground.data }, { on := 9, ground := Ground.guard }], guard := some (9, false) }) (v := ?vtb12) rfl (by kernel_rfl) (by kernel_rfl) (by kernel_rfl) (fun _ _ _ h => h) (Or.inl ⟨by rfl, ?hytb12⟩) (by assumption) ?resttb12
          case hytb12 => (intro w hSw; (try dsimp only at hSw); first | (go_simp; done) | (go_simp; with_reducible rfl))
          try simp only [Act.put, List.setIfInBounds_toArray, List.set_cons_zero, List.set_cons_succ]
          refine wpAnyH_take (i := 13) (oi := { dst := some 49, op := Op.fieldAddr 37 (Operand.tmp 48) 0, type := 0, pos := "ref.go:33", after := #[{ on := 12, ground := Ground.data }, { on := 9, ground := Ground.guard }], guard := some (9, false) }) (v := ?vtb13) rfl (by kernel_rfl) (by kernel_rfl) (by kernel_rfl) (fun _ _ _ h => h) (Or.inl ⟨by rfl, ?hytb13⟩) (by assumption) ?resttb13
          case hytb13 => (intro w hSw; (try dsimp only at hSw); first | (go_simp; done) | (go_simp; with_reducible rfl))
          try simp only [Act.put, List.setIfInBounds_toArray, List.set_cons_zero, List.set_cons_succ]
          refine wpAnyH_take (i := 14) (oi := { dst := some 50, op := Op.load 35 (Operand.tmp 49), type := 35, pos := "ref.go:33", after := #[{ on := 13, ground := Ground.data }, { on := 9, ground := Ground.guard }], guard := some (9, false) }) (v := ?vtb14) rfl (by kernel_rfl) (by kernel_rfl) (by kernel_rfl) (fun _ _ _ h => h) (Or.inl ⟨by rfl, ?hytb14⟩) (by assumption) ?resttb14
          case hytb14 => (intro w hSw; (try dsimp only at hSw); first | (go_simp; done) | (go_simp; with_reducible rfl))
          try simp only [Act.put, List.setIfInBounds_toArray, List.set_cons_zero, List.set_cons_succ]
          refine wpAnyH_take (i := 15) (oi := { dst := some 51, op := Op.move (Operand.tmp 8), type := 3, pos := "ref.go:33", after := #[{ on := 9, ground := Ground.guard }], guard := some (9, false) }) (v := ?vtb15) rfl (by kernel_rfl) (by kernel_rfl) (by kernel_rfl) (fun _ _ _ h => h) (Or.inl ⟨by rfl, ?hytb15⟩) (by assumption) ?resttb15
          case hytb15 => (intro w hSw; (try dsimp only at hSw); first | (go_simp; done) | (go_simp; with_reducible rfl))
          try simp only [Act.put, List.setIfInBounds_toArray, List.set_cons_zero, List.set_cons_succ]
          refine wpAnyH_take (i := 16) (oi := { dst := some 52, op := Op.indexAddr 35 (Operand.tmp 50) (Operand.tmp 51), type := 0, pos := "ref.go:33", after := #[{ on := 14, ground := Ground.data }, { on := 15, ground := Ground.data }, { on := 9, ground := Ground.guard }], guard := some (9, false) }) (v := ?vtb16) rfl (by kernel_rfl) (by kernel_rfl) (by kernel_rfl) (fun _ _ _ h => h) (Or.inl ⟨by rfl, ?hytb16⟩) (by assumption) ?resttb16
          case hytb16 => (intro w hSw; (try dsimp only at hSw); first | (go_simp; done) | (go_simp; with_reducible rfl))
          try simp only [Act.put, List.setIfInBounds_toArray, List.set_cons_zero, List.set_cons_succ]
          refine wpAnyH_take (i := 17) (oi := { dst := some 53, op := Op.fieldAddr 126 (Operand.tmp 52) 0, type := 0, pos := "ref.go:33", after := #[{ on := 16, ground := Ground.data }, { on := 9, ground := Ground.guard }], guard := some (9, false) }) (v := ?vtb17) rfl (by kernel_rfl) (by kernel_rfl) (by kernel_rfl) (fun _ _ _ h => h) (Or.inl ⟨by rfl, ?hytb17⟩) (by assumption) ?resttb17
          case hytb17 => (intro w hSw; (try dsimp only at hSw); first | (go_simp; done) | (go_simp; with_reducible rfl))
          try simp only [Act.put, List.setIfInBounds_toArray, List.set_cons_zero, List.set_cons_succ]
          refine wpAnyH_take (i := 18) (oi := { dst := some 54, op := Op.load 23 (Operand.tmp 53), type := 23, pos := "ref.go:33", after := #[{ on := 17, ground := Ground.data }, { on := 9, ground := Ground.guard }], guard := some (9, false) }) (v := ?vtb18) rfl (by kernel_rfl) (by kernel_rfl) (by kernel_rfl) (fun _ _ _ h => h) (Or.inl ⟨by rfl, ?hytb18⟩) (by assumption) ?resttb18
          case hytb18 => (intro w hSw; (try dsimp only at hSw); first | (go_simp; done) | (go_simp; with_reducible rfl))
          try simp only [Act.put, List.setIfInBounds_toArray, List.set_cons_zero, List.set_cons_succ]
          refine wpAnyH_ready (rs := [19]) (by kernel_rfl) (by simp) (AllReadyH.cons (o := { dst := some 55, op := Op.call { callee := Callee.value (Operand.func 76), args := #[Operand.tmp 46, Operand.tmp 54], argTypes := #[126, 23] }, type := 4, pos := "ref.go:33", after := #[{ on := 10, ground := Ground.data }, { on := 18, ground := Ground.data }, { on := 9, ground := Ground.chain }, { on := 9, ground := Ground.guard }], guard := some (9, false) }) rfl (fun K hK => ?steptb19) AllReadyH.nil)
          go_simp
          go_at_call 76
          refine (HINS2.out _ hHeld2).mono ?_
          rintro e w4 ⟨rfl, hS4⟩
          try dsimp only
          refine hK.out _ _ hS4 (fun hHeld3 => ?_)
          clear hK K hHeld2
          try simp only [Act.put, List.setIfInBounds_toArray, List.set_cons_zero, List.set_cons_succ]
          refine wpAnyH_take (i := 20) (oi := { dst := some 56, op := Op.pick (Operand.tmp 45) (Operand.const (Value.bool true)) (Operand.tmp 55), type := 4, pos := "ref.go:33", after := #[{ on := 9, ground := Ground.data }, { on := 19, ground := Ground.data }], guard := none }) (v := ?vtc20) rfl (by kernel_rfl) (by kernel_rfl) (by kernel_rfl) (fun _ _ _ h => h) (Or.inl ⟨by rfl, ?hytc20⟩) (by assumption) ?resttc20
          case hytc20 => (intro w hSw; (try dsimp only at hSw); first | (go_simp; done) | (go_simp; with_reducible rfl))
          try simp only [Act.put, List.setIfInBounds_toArray, List.set_cons_zero, List.set_cons_succ]
          refine wpAnyH_done (by kernel_rfl) ?_ _
          go_wp2_with fail
          have HQ : Aside0 (RAddPost X B own b R base bs (.returned (.bool false)) w4) := ⟨by
            unfold RAddPost
            rw [HNO.out]
            exact ⟨rfl, below_then HXW.out HXW.out.size hS4.2.2.2.2.2⟩⟩
          go_ret
          exact HQ.out
        | false =>
          have HNXT : Aside0 (∀ (j : Nat) (q : Reg), j < k + 1 → R[j]? = some q → insB q base = false ∧ ¬ (base ≤ q.base ∧ q.base < base + bs.length)) := ⟨fun j q hj hq => by
            rcases Nat.lt_or_eq_of_le (Nat.le_of_lt_succ hj) with h | h
            · exact HJ.out j q h hq
            · subst h
              rw [HR.out] at hq
              cases hq
              refine ⟨HI1.out, ?_⟩
              unfold insB at hins2
              rw [decide_eq_false_iff_not] at hins2
              exact hins2⟩
          rw [hins2] at HINS2
          clear hins2
          go_wp2_with fail
          refine wp_region_held_drew (S := (fun w' => w'.cell? ⟨b, 0, none⟩ = some (.slice (some ⟨g, 0, none⟩) R.length c) ∧ w'.cell? ⟨g, k * 2, none⟩ = some (.int .u64 r.base) ∧ w'.cell? ⟨g, k * 2 + 1, none⟩ = some (.slice (some ⟨p.1, 0, none⟩) r.data.length p.2) ∧ w'.cell? ⟨mb, 0, none⟩ = some (.int .u64 base) ∧ w'.cell? ⟨mb, 1, none⟩ = some (.slice (some ⟨g1, 0, none⟩) bs.length cap1) ∧ Below W1.heap.size W1 w')) (by kernel_rfl) ⟨hmd, hcd0, hcd1, hmd0, hmd1, HBD.out⟩ (fun hHeld => ?_)
          refine wpAnyH_take (i := 0) (oi := { dst := some 36, op := Op.move (Operand.tmp 0), type := 34, pos := "ref.go:33", after := #[], guard := none }) (v := ?vua0) rfl (by kernel_rfl) (by kernel_rfl) (by kernel_rfl) (fun _ _ _ h => h) (Or.inl ⟨by rfl, ?hyua0⟩) (by assumption) ?restua0
          case hyua0 => (intro w hSw; (try dsimp only at hSw); first | (go_simp; done) | (go_simp; with_reducible rfl))
          try simp only [Act.put, List.setIfInBounds_toArray, List.set_cons_zero, List.set_cons_succ]
          refine wpAnyH_take (i := 1) (oi := { dst := some 37, op := Op.nilCheck (Operand.tmp 36), type := 0, pos := "ref.go:33", after := #[{ on := 0, ground := Ground.data }], guard := none }) (v := ?vua1) rfl (by kernel_rfl) (by kernel_rfl) (by kernel_rfl) (fun _ _ _ h => h) (Or.inl ⟨by rfl, ?hyua1⟩) (by assumption) ?restua1
          case hyua1 => (intro w hSw; (try dsimp only at hSw); first | (go_simp; done) | (go_simp; with_reducible rfl))
          try simp only [Act.put, List.setIfInBounds_toArray, List.set_cons_zero, List.set_cons_succ]
          refine wpAnyH_take (i := 2) (oi := { dst := some 38, op := Op.fieldAddr 37 (Operand.tmp 37) 0, type := 0, pos := "ref.go:33", after := #[{ on := 1, ground := Ground.data }], guard := none }) (v := ?vua2) rfl (by kernel_rfl) (by kernel_rfl) (by kernel_rfl) (fun _ _ _ h => h) (Or.inl ⟨by rfl, ?hyua2⟩) (by assumption) ?restua2
          case hyua2 => (intro w hSw; (try dsimp only at hSw); first | (go_simp; done) | (go_simp; with_reducible rfl))
          try simp only [Act.put, List.setIfInBounds_toArray, List.set_cons_zero, List.set_cons_succ]
          refine wpAnyH_take (i := 3) (oi := { dst := some 39, op := Op.load 35 (Operand.tmp 38), type := 35, pos := "ref.go:33", after := #[{ on := 2, ground := Ground.data }], guard := none }) (v := ?vua3) rfl (by kernel_rfl) (by kernel_rfl) (by kernel_rfl) (fun _ _ _ h => h) (Or.inl ⟨by rfl, ?hyua3⟩) (by assumption) ?restua3
          case hyua3 => (intro w hSw; (try dsimp only at hSw); first | (go_simp; done) | (go_simp; with_reducible rfl))
          try simp only [Act.put, List.setIfInBounds_toArray, List.set_cons_zero, List.set_cons_succ]
          refine wpAnyH_take (i := 4) (oi := { dst := some 40, op := Op.move (Operand.tmp 8), type := 3, pos := "ref.go:33", after := #[], guard := none }) (v := ?vua4) rfl (by kernel_rfl) (by kernel_rfl) (by kernel_rfl) (fun _ _ _ h => h) (Or.inl ⟨by rfl, ?hyua4⟩) (by assumption) ?restua4
          case hyua4 => (intro w hSw; (try dsimp only at hSw); first | (go_simp; done) | (go_simp; with_reducible rfl))
          try simp only [Act.put, List.setIfInBounds_toArray, List.set_cons_zero, List.set_cons_succ]
          refine wpAnyH_take (i := 5) (oi := { dst := some 41, op := Op.indexAddr 35 (Operand.tmp 39) (Operand.tmp 40), type := 0, pos := "ref.go:33", after := #[{ on := 3, ground := Ground.data }, { on := 4, ground := Ground.data }], guard := none }) (v := ?vua5) rfl (by kernel_rfl) (by kernel_rfl) (by kernel_rfl) (fun _ _ _ h => h) (Or.inl ⟨by rfl, ?hyua5⟩) (by assumption) ?restua5
          case hyua5 => (intro w hSw; (try dsimp only at hSw); first | (go_simp; done) | (go_simp; with_reducible rfl))
          try simp only [Act.put, List.setIfInBounds_toArray, List.set_cons_zero, List.set_cons_succ]
          refine wpAnyH_take (i := 6) (oi := { dst := some 42, op := Op.load 126 (Operand.tmp 41), type := 126, pos := "ref.go:33", after := #[{ on := 5, ground := Ground.data }], guard := none }) (v := ?vua6) rfl (by kernel_rfl) (by kernel_rfl) (by kernel_rfl) (fun _ _ _ h => h) (Or.inl ⟨by rfl, ?hyua6⟩) (by assumption) ?restua6
          case hyua6 => (intro w hSw; (try dsimp only at hSw); first | (go_simp; done) | (go_simp; with_reducible rfl))
          try simp only [Act.put, List.setIfInBounds_toArray, List.set_cons_zero, List.set_cons_succ]
          refine wpAnyH_take (i := 7) (oi := { dst := some 43, op := Op.move (Operand.tmp 1), type := 23, pos := "ref.go:33", after := #[], guard := none }) (v := ?vua7) rfl (by kernel_rfl) (by kernel_rfl) (by kernel_rfl) (fun _ _ _ h => h) (Or.inl ⟨by rfl, ?hyua7⟩) (by assumption) ?restua7
          case hyua7 => (intro w hSw; (try dsimp only at hSw); first | (go_simp; done) | (go_simp; with_reducible rfl))
          try simp only [Act.put, List.setIfInBounds_toArray, List.set_cons_zero, List.set_cons_succ]
          refine wpAnyH_ready (rs := [8]) (by kernel_rfl) (by simp) (AllReadyH.cons (o := { dst := some 44, op := Op.call { callee := Callee.value (Operand.func 76), args := #[Operand.tmp 42, Operand.tmp 43], argTypes := #[126, 23] }, type := 4, pos := "ref.go:33", after := #[{ on := 6, ground := Ground.data }, { on := 7, ground := Ground.data }], guard := none }) rfl (fun K hK => ?stepua8) AllReadyH.nil)
          go_simp
          go_at_call 76
          refine (HINS1.out _ hHeld).mono ?_
          rintro e w3 ⟨rfl, hS3⟩
          try dsimp only
          refine hK.out _ _ hS3 (fun hHeld2 => ?_)
          clear hK K hHeld
          try simp only [Act.put, List.setIfInBounds_toArray, List.set_cons_zero, List.set_cons_succ]
          refine wpAnyH_take (i := 9) (oi := { dst := some 45, op := Op.move (Operand.tmp 44), type := 4, pos := "ref.go:33", after := #[{ on := 8, ground := Ground.data }, { on := 8, ground := Ground.chain }], guard := none }) (v := ?vub9) rfl (by kernel_rfl) (by kernel_rfl) (by kernel_rfl) (fun _ _ _ h => h) (Or.inl ⟨by rfl, ?hyub9⟩) (by assumption) ?restub9
          case hyub9 => (intro w hSw; (try dsimp only at hSw); first | (go_simp; done) | (go_simp; with_reducible rfl))
          try simp only [Act.put, List.setIfInBounds_toArray, List.set_cons_zero, List.set_cons_succ]
          refine wpAnyH_take (i := 10) (oi := { dst := some 46, op := Op.load 126 (Operand.tmp 7), type := 126, pos := "ref.go:33", after := #[{ on := 9, ground := Ground.guard }], guard := some (9, false) }) (v := ?vub10) rfl (by kernel_rfl) (by kernel_rfl) (by kernel_rfl) (fun _ _ _ h => h) (Or.inl ⟨by rfl, ?hyub10⟩) (by assumption) ?restub10
          case hyub10 => (intro w hSw; (try dsimp only at hSw); first | (go_simp; done) | (go_simp; with_reducible rfl))
          try simp only [Act.put, List.setIfInBounds_toArray, List.set_cons_zero, List.set_cons_succ]
          refine wpAnyH_take (i := 11) (oi := { dst := some 47, op := Op.move (Operand.tmp 0), type := 34, pos := "ref.go:33", after := #[{ on := 9, ground := Ground.guard }], guard := some (9, false) }) (v := ?vub11) rfl (by kernel_rfl) (by kernel_rfl) (by kernel_rfl) (fun _ _ _ h => h) (Or.inl ⟨by rfl, ?hyub11⟩) (by assumption) ?restub11
          case hyub11 => (intro w hSw; (try dsimp only at hSw); first | (go_simp; done) | (go_simp; with_reducible rfl))
          try simp only [Act.put, List.setIfInBounds_toArray, List.set_cons_zero, List.set_cons_succ]
          refine wpAnyH_take (i := 12) (oi := { dst := some 48, op := Op.nilCheck (Operand.tmp 47), type := 0, pos := "ref.go:33", after := #[{ on := 11, ground := Ground.data }, { on := 9, ground := Ground.guard }], guard := some (9, false) }) (v := ?vub12) rfl (by kernel_rfl) (by kernel_rfl) (by kernel_rfl) (fun _ _ _ h => h) (Or.inl ⟨by rfl, ?hyub12⟩) (by assumption) ?restub12
          case hyub12 => (intro w hSw; (try dsimp only at hSw); first | (go_simp; done) | (go_simp; with_reducible rfl))
          try simp only [Act.put, List.setIfInBounds_toArray, List.set_cons_zero, List.set_cons_succ]
          refine wpAnyH_take (i := 13) (oi := { dst := some 49, op := Op.fieldAddr 37 (Operand.tmp 48) 0, type := 0, pos := "ref.go:33", after := #[{ on := 12, ground := Ground.data }, { on := 9, ground := Ground.guard }], guard := some (9, false) }) (v := ?vub13) rfl (by kernel_rfl) (by kernel_rfl) (by kernel_rfl) (fun _ _ _ h => h) (Or.inl ⟨by rfl, ?hyub13⟩) (by assumption) ?restub13
          case hyub13 => (intro w hSw; (try dsimp only at hSw); first | (go_simp; done) | (go_simp; with_reducible rfl))
          try simp only [Act.put, List.setIfInBounds_toArray, List.set_cons_zero, List.set_cons_succ]
          refine wpAnyH_take (i := 14) (oi := { dst := some 50, op := Op.load 35 (Operand.tmp 49), type := 35, pos := "ref.go:33", after := #[{ on := 13, ground := Ground.data }, { on := 9, ground := Ground.guard }], guard := some (9, false) }) (v := ?vub14) rfl (by kernel_rfl) (by kernel_rfl) (by kernel_rfl) (fun _ _ _ h => h) (Or.inl ⟨by rfl, ?hyub14⟩) (by assumption) ?restub14
          case hyub14 => (intro w hSw; (try dsimp only at hSw); first | (go_simp; done) | (go_simp; with_reducible rfl))
          try simp only [Act.put, List.setIfInBounds_toArray, List.set_cons_zero, List.set_cons_succ]
          refine wpAnyH_take (i := 15) (oi := { dst := some 51, op := Op.move (Operand.tmp 8), type := 3, pos := "ref.go:33", after := #[{ on := 9, ground := Ground.guard }], guard := some (9, false) }) (v := ?vub15) rfl (by kernel_rfl) (by kernel_rfl) (by kernel_rfl) (fun _ _ _ h => h) (Or.inl ⟨by rfl, ?hyub15⟩) (by assumption) ?restub15
          case hyub15 => (intro w hSw; (try dsimp only at hSw); first | (go_simp; done) | (go_simp; with_reducible rfl))
          try simp only [Act.put, List.setIfInBounds_toArray, List.set_cons_zero, List.set_cons_succ]
          refine wpAnyH_take (i := 16) (oi := { dst := some 52, op := Op.indexAddr 35 (Operand.tmp 50) (Operand.tmp 51), type := 0, pos := "ref.go:33", after := #[{ on := 14, ground := Ground.data }, { on := 15, ground := Ground.data }, { on := 9, ground := Ground.guard }], guard := some (9, false) }) (v := ?vub16) rfl (by kernel_rfl) (by kernel_rfl) (by kernel_rfl) (fun _ _ _ h => h) (Or.inl ⟨by rfl, ?hyub16⟩) (by assumption) ?restub16
          case hyub16 => (intro w hSw; (try dsimp only at hSw); first | (go_simp; done) | (go_simp; with_reducible rfl))
          try simp only [Act.put, List.setIfInBounds_toArray, List.set_cons_zero, List.set_cons_succ]
          refine wpAnyH_take (i := 17) (oi := { dst := some 53, op := Op.fieldAddr 126 (Operand.tmp 52) 0, type := 0, pos := "ref.go:33", after := #[{ on := 16, ground := Ground.data }, { on := 9, ground := Ground.guard }], guard := some (9, false) }) (v := ?vub17) rfl (by kernel_rfl) (by kernel_rfl) (by kernel_rfl) (fun _ _ _ h => h) (Or.inl ⟨by rfl, ?hyub17⟩) (by assumption) ?restub17
          case hyub17 => (intro w hSw; (try dsimp only at hSw); first | (go_simp; done) | (go_simp; with_reducible rfl))
          try simp only [Act.put, List.setIfInBounds_toArray, List.set_cons_zero, List.set_cons_succ]
          refine wpAnyH_take (i := 18) (oi := { dst := some 54, op := Op.load 23 (Operand.tmp 53), type := 23, pos := "ref.go:33", after := #[{ on := 17, ground := Ground.data }, { on := 9, ground := Ground.guard }], guard := some (9, false) }) (v := ?vub18) rfl (by kernel_rfl) (by kernel_rfl) (by kernel_rfl) (fun _ _ _ h => h) (Or.inl ⟨by rfl, ?hyub18⟩) (by assumption) ?restub18
          case hyub18 => (intro w hSw; (try dsimp only at hSw); first | (go_simp; done) | (go_simp; with_reducible rfl))
          try simp only [Act.put, List.setIfInBounds_toArray, List.set_cons_zero, List.set_cons_succ]
          refine wpAnyH_ready (rs := [19]) (by kernel_rfl) (by simp) (AllReadyH.cons (o := { dst := some 55, op := Op.call { callee := Callee.value (Operand.func 76), args := #[Operand.tmp 46, Operand.tmp 54], argTypes := #[126, 23] }, type := 4, pos := "ref.go:33", after := #[{ on := 10, ground := Ground.data }, { on := 18, ground := Ground.data }, { on := 9, ground := Ground.chain }, { on := 9, ground := Ground.guard }], guard := some (9, false) }) rfl (fun K hK => ?stepub19) AllReadyH.nil)
          go_simp
          go_at_call 76
          refine (HINS2.out _ hHeld2).mono ?_
          rintro e w4 ⟨rfl, hS4⟩
          try dsimp only
          refine hK.out _ _ hS4 (fun hHeld3 => ?_)
          clear hK K hHeld2
          try simp only [Act.put, List.setIfInBounds_toArray, List.set_cons_zero, List.set_cons_succ]
          refine wpAnyH_take (i := 20) (oi := { dst := some 56, op := Op.pick (Operand.tmp 45) (Operand.const (Value.bool true)) (Operand.tmp 55), type := 4, pos := "ref.go:33", after := #[{ on := 9, ground := Ground.data }, { on := 19, ground := Ground.data }], guard := none }) (v := ?vuc20) rfl (by kernel_rfl) (by kernel_rfl) (by kernel_rfl) (fun _ _ _ h => h) (Or.inl ⟨by rfl, ?hyuc20⟩) (by assumption) ?restuc20
          case hyuc20 => (intro w hSw; (try dsimp only at hSw); first | (go_simp; done) | (go_simp; with_reducible rfl))
          try simp only [Act.put, List.setIfInBounds_toArray, List.set_cons_zero, List.set_cons_succ]
          refine wpAnyH_done (by kernel_rfl) ?_ _
          have HB4 := Aside0.mk hS4.2.2.2.2.2
          go_wp2_with fail
          exact ⟨⟨k + 1, by omega, by congr 1, HB4, HNXT⟩, by simp [intOf]; omega⟩
    · obtain rfl : k = R.length := by omega
      have HOKT : Aside0 (addOk R base bs.length = true) := ⟨addOk_true HL0.out HB2.out (fun r hr => (HW.out r hr).pos) (fun k r hk hr => HJ.out k r hk hr)⟩
      obtain ⟨i0, hi, hz0, hz1, hz2⟩ := info_parts infoReg
      have hmd : wr.drew.cell? ⟨b, 0, none⟩ = some (.slice A R.length c) := hm0
      have hmd0 : wr.drew.cell? ⟨mb, 0, none⟩ = some (.int .u64 base) := hmb0
      have hmd1 : wr.drew.cell? ⟨mb, 1, none⟩ = some (.slice (some ⟨g1, 0, none⟩) bs.length cap1) := hmb1
      have hfro : wr.drew.frozen? ⟨b, 0, none⟩ = false := (blk1 HMr.out.blk).2
      have HROWD : Aside0 (wr.drew.ownsRow B 126 2 (.slice A R.length c) R.length (cells2 R ps)) := ⟨HMr.out.row⟩
      have hBX2 : B ≤ wr.heap.size := Nat.le_trans hBX HXr.out.size
      have hnb : (Value.slice A R.length c).ownBlock ≠ some b := fun e => by
        rcases HMr.out.row.2 with ⟨h', _⟩ | ⟨g', cap', cur', h', _, hh', _⟩
        · rw [h'] at e; simp [Value.ownBlock] at e
        · rw [h'] at e
          obtain rfl : g' = b := by simpa [Value.ownBlock] using e
          exact two_blocks hh' HMr.out.blk (by decide) rfl
      have HNB := Aside0.mk hnb
      have hbl' : b < wr.heap.size := (Array.getElem?_eq_some_iff.1 HMr.out.blk).1
      have HK5 : Aside0 (∀ (o : Obj) (w5 : World), (wr.drew.alloc o).grownBy w5 (Value.slice A R.length c).ownBlock → w5.heap[b]? = some (.cells #[.slice A R.length c] 37 (0, 0))) := ⟨fun o w5 hg => by
        rw [hg.block b (Nat.lt_of_lt_of_le hbl' (below_alloc (Below.refl _ _) o).size) (fun e => HNB.out e.symm)]
        exact ((below_alloc (Below.refl wr.drew.heap.size _) o).block b hbl').trans HMr.out.blk⟩
      have HFIN : Aside0 (∀ (o : Obj) (w5 : World) (g2 cap2 : Nat), w5.ownsRow B 126 2 (.slice (some ⟨g2, 0, none⟩) (R.length + 1) cap2) (R.length + 1) (cells2 R ps ++ cell2 ⟨base, bs⟩ (g1, cap1)) → w5.heap[b]? = some (.cells #[.slice A R.length c] 37 (0, 0)) →
          (wr.drew.alloc o).grownBy w5 (Value.slice A R.length c).ownBlock → ((Value.slice A R.length c).ownBlock = some g2 ∨ g2 = (wr.drew.alloc o).heap.size) →
          Aside0 (RAddPost X B own b R base bs (.returned (.bool true)) (w5.setCell ⟨b, 0, none⟩ (.slice (some ⟨g2, 0, none⟩) (R.length + 1) cap2)))) := ⟨fun o w5 g2 cap2 hown hb5 hgr hat => by
        refine ⟨?_⟩
        unfold RAddPost
        rw [if_pos HOKT.out]
        have hblk2 : ∀ {g : Nat}, (Value.slice A R.length c).ownBlock = some g → ∃ cur, wr.heap[g]? = some (.cells cur 126 (0, 0)) := fun {g} e => by
          rcases HMr.out.row.2 with ⟨h', _⟩ | ⟨g', cap', cur', h', _, hh', _⟩
          · rw [h'] at e; simp [Value.ownBlock] at e
          · rw [h'] at e
            obtain rfl : g' = g := by simpa [Value.ownBlock] using e
            exact ⟨cur', hh'⟩
        have hset : ∀ k, k ≠ b → (w5.setCell ⟨b, 0, none⟩ (.slice (some ⟨g2, 0, none⟩) (R.length + 1) cap2)).heap[k]? = w5.heap[k]? := fun k hk => Below.heap_setCell w5 ⟨b, 0, none⟩ _ k hk
        have h5 : ∀ k, k < wr.heap.size → (Value.slice A R.length c).ownBlock ≠ some k → w5.heap[k]? = wr.heap[k]? := fun k hk hn => by
          rw [hgr.block k (Nat.lt_of_lt_of_le hk (below_alloc (Below.refl wr.drew.heap.size _) o).size) (fun e => hn e.symm)]
          exact (below_alloc (Below.refl wr.drew.heap.size _) o).block k hk
        have hg2b : g2 ≠ b := by
          rcases hown.2 with ⟨h', _⟩ | ⟨g', cap', cur', h', _, hh', _⟩
          · cases h'
          · cases h'
            exact two_blocks hh' hb5 (by decide)
        have hg1 : g1 < wr.heap.size := Nat.lt_of_lt_of_le (own_lt HRW1.out g1 rfl) HB.out.size
        obtain ⟨cg, hcg⟩ := row_block HRW1.out rfl
        have hcg2 : wr.heap[g1]? = some (.cells cg 5 (0, 0)) := (HB.out.block g1 (own_lt HRW1.out g1 rfl)).trans hcg
        have hg1b : g1 ≠ b := two_blocks hcg2 HMr.out.blk (by decide)
        have hg1v : (Value.slice A R.length c).ownBlock ≠ some g1 := fun e => by
          obtain ⟨c2, hc2⟩ := hblk2 e
          exact two_blocks hcg2 hc2 (by decide) rfl
        refine ⟨rfl, ⟨_, _, HM.out.push ⟨base, bs⟩ (g1, cap1) (fun k hk => .inl hk) (fun k hk hkb hkv => ?_) (blk_put hb5 0 _ rfl) ?_ ?_ (.inr HG1.out) ?_ HG1.out⟩, ?_⟩
        · rw [hset k hkb, h5 k (Nat.lt_of_lt_of_le hk HXr.out.size) hkv]
          exact HXr.out.block k hk
        · exact row_keep hown (fun k hk => by cases hk; exact hset g2 hg2b)
        · intro k hk
          obtain rfl : g2 = k := by simpa [Value.ownBlock] using hk
          rcases hat with h | h
          · exact .inl (HM.out.orow _ h)
          · right
            have := (below_alloc (Below.refl wr.drew.heap.size _) o).size
            have := HXr.out.size
            show X.heap.size ≤ g2
            rw [h]
            exact Nat.le_trans HXr.out.size (below_alloc (Below.refl wr.drew.heap.size wr.drew) o).size
        · refine own_weaken (row_keep HRW1.out (fun k hk => by cases hk; rw [hset g1 hg1b, h5 g1 hg1 hg1v]; exact HB.out.block g1 (own_lt HRW1.out g1 rfl))) hBX
        · refine (((below_out HXr.out own).trans (below_out (below_alloc (below_drew (Below.refl _ _)) o) own) (fun _ _ h => h)).trans (grown_out hgr) (fun k _ hk => HM.out.orow k hk)).trans (set_out w5 b 0 _) (fun k _ hk => by rw [hk]; exact HM.out.ob)⟩
      have hmd9 : (wr.alloc (.cells #[.int .u64 base, .slice (some ⟨g1, 0, none⟩) bs.length cap1] 126)).drew.cell? ⟨b, 0, none⟩ = some (.slice A R.length c) := pw_cell_below (below_alloc (Below.refl wr.drew.heap.size wr.drew) _) hmd
      clear hnb hbl'
      go_wp2_with fail
      go_region_law ((refine step_append_lies _ (by rfl) _ _ 35 (by rfl) B 126 i0 _ 2 32 Try.underlying35 hi hz0 hz1 hz2 (by rfl) (by decide) (.slice A R.length c) R.length (cells2 R ps) (by rfl) (HROWD.out.alloc _) ⟨wr.heap.size, 0, none⟩ 1 1 (cell2 ⟨base, bs⟩ (g1, cap1)) (by rfl) (by rfl) (World.news_of_block (heap_alloc_new wr.drew _)) cell2_one (by decide) (by unfold maxLen; omega) (by omega) (Nat.le_trans hBX2 (by simp)) _ rfl ?_; intro g2 cap2 w5 hown5 hgrow5 hat5 hlt5; have HB5 := Aside0.mk (HK5.out _ _ hgrow5); have hm5 := (blk1 HB5.out).1; have hf5 := (blk1 HB5.out).2; have HOWN5 := Aside0.mk hown5; have HGROW5 := Aside0.mk hgrow5; have HAT5 := Aside0.mk hat5; clear hown5 hgrow5 hat5 hlt5))
      all_goals
        have HQ := HFIN.out _ _ _ _ HOWN5.out HB5.out HGROW5.out HAT5.out
        go_wp2_with fail
        go_ret
        exact HQ.out
end Go.Proofs.Ytmkmldpcoonepaa.PAll
/- The reference's Remove. -/
set_option linter.unusedVariables false
set_option linter.unusedSimpArgs false
namespace Go.Proofs.Ytmkmldpcoonepaa.PAll
open Go.RowKit Go.Shelf Go.Proofs.YtmkmldpcoonepaaW.PrintWords Go.Proofs.YtmkmldpcoonepaaW.PrintLast Go.Proofs.YtmkmldpcoonepaaW.PrintMore
def remR (R : List Reg) (base : Int) : List Reg := R.filter (fun r => decide (r.base ≠ base))
def keptZ (base : Int) (z : Reg × (Nat × Nat)) : Bool := decide (z.1.base ≠ base)
def zk (R : List Reg) (ps : List (Nat × Nat)) (base : Int) (k : Nat) : List (Reg × (Nat × Nat)) := ((R.zip ps).take k).filter (keptZ base)
theorem zk_at {R : List Reg} {ps : List (Nat × Nat)} {base : Int} {k : Nat} {r : Reg} {p : Nat × Nat} (hr : R[k]? = some r) (hp : ps[k]? = some p) : zk R ps base (k + 1) = zk R ps base k ++ (if r.base ≠ base then [(r, p)] else []) := by
  unfold zk
  have e : (R.zip ps)[k]? = some (r, p) := by rw [List.getElem?_zip_eq_some]; exact ⟨hr, hp⟩
  rw [List.take_add_one, e, List.filter_append]
  congr 1
  by_cases h : r.base = base
  · simp [keptZ, h]
  · simp [keptZ, h]
theorem zk_all {R : List Reg} {ps : List (Nat × Nat)} {base : Int} (hl : ps.length = R.length) : (zk R ps base R.length).map (·.1) = remR R base := by
  unfold zk remR
  rw [List.take_of_length_le (by rw [List.length_zip]; omega)]
  have : ∀ (R : List Reg) (ps : List (Nat × Nat)), ps.length = R.length → ((R.zip ps).filter (keptZ base)).map (·.1) = R.filter (fun r => decide (r.base ≠ base)) := by
    intro R
    induction R with
    | nil => intro ps _; simp
    | cons r R ih =>
      intro ps hl
      cases ps with
      | nil => simp at hl
      | cons p ps =>
        have := ih ps (by simpa using hl)
        by_cases h : r.base = base
        · simpa [keptZ, h] using this
        · simpa [keptZ, h] using this
  exact this R ps hl
theorem zk_mem {R : List Reg} {ps : List (Nat × Nat)} {base : Int} {k i : Nat} {z : Reg × (Nat × Nat)} (h : (zk R ps base k)[i]? = some z) : ∃ j : Nat, R[j]? = some z.1 ∧ ps[j]? = some z.2 := by
  have hm : z ∈ zk R ps base k := List.mem_of_getElem? h
  unfold zk at hm
  have hm2 := List.mem_of_mem_take (List.mem_filter.1 hm |>.1)
  obtain ⟨j, hj⟩ := List.mem_iff_getElem?.1 hm2
  rw [List.getElem?_zip_eq_some] at hj
  exact ⟨j, hj⟩
theorem zk_len {R : List Reg} {ps : List (Nat × Nat)} {base : Int} (k : Nat) : (zk R ps base k).length ≤ k := by
  unfold zk
  exact Nat.le_trans (List.length_filter_le _ _) (by rw [List.length_take]; omega)
theorem zk_nd {R : List Reg} {ps : List (Nat × Nat)} {base : Int} (hl : ps.length = R.length) (h : (ps.map (·.1)).Nodup) : (((zk R ps base R.length).map (·.2)).map (·.1)).Nodup := by
  have e : ps = (R.zip ps).map (·.2) := by rw [List.map_snd_zip (by omega)]
  unfold zk
  rw [List.take_of_length_le (by rw [List.length_zip]; omega)]
  refine List.Nodup.sublist ?_ h
  rw [show (ps.map (·.1)) = ((R.zip ps).map (·.2)).map (·.1) by rw [← e]]
  exact (List.filter_sublist.map _).map _
def RemRPost (X : World) (B : Nat) (own : Nat → Prop) (b : Nat) (R : List Reg) (base : Int) (e : Ending) (X' : World) : Prop :=
  e = .returned (.bool (decide ((remR R base).length < R.length))) ∧ RefAt X' B (orNew own X) b (remR R base) ∧ Out own X X'
set_option maxHeartbeats 4000000 in
set_option maxRecDepth 100000 in
theorem ref_Remove (X : World) (B : Nat) (own : Nat → Prop) (b : Nat) (R : List Reg) (base : Int) (h : RefAt X B own b R) (hl : R.length ≤ 1000000) (hBX : B ≤ X.heap.size) :
    Calls Try.prog 58 #[.pointer (some ⟨b, 0, none⟩), .int .u64 base] X (RemRPost X B own b R base) := by
  obtain ⟨v, ps, hM⟩ := h
  obtain ⟨A, c, rfl⟩ := own_slice hM.row
  have HM := Aside0.mk hM
  obtain ⟨i0, hi, hz0, hz1, hz2⟩ := info_parts infoReg
  clear hM
  go_enter Try.func58, Try.ntmps58
  go_wp2_with fail
  go_loopw [5, 6] (fun v5 v6 wr => ∃ k : Nat, k ≤ R.length ∧ v6 = .int .i64 k ∧ Aside0 (Below X.heap.size X wr) ∧ Aside0 (wr.ownsRow X.heap.size 126 2 v5 (zk R ps base k).length (cells2 ((zk R ps base k).map (·.1)) ((zk R ps base k).map (·.2))))) (fun _ v6 _ => R.length - (intOf v6).toNat)
  case atStart => exact ⟨0, Nat.zero_le _, rfl, ⟨Below.refl _ _⟩, ⟨World.ownsRow_nil _ _ _ _⟩⟩
  case round =>
    obtain ⟨k, hk, rfl, HB, HO⟩ := hrel
    have HMr := Aside0.mk (HM.out.below HB.out)
    have hm0 := (blk1 HMr.out.blk).1
    by_cases hlt : k < R.length
    · obtain ⟨p, r, g, cap, hp, hr, hv, hc0, hc1, hcap, hcm, hop, hro⟩ := HMr.out.get hlt
      cases hv
      have HZ := Aside0.mk (zk_at (base := base) hr hp)
      have HZL := Aside0.mk (zk_len (R := R) (ps := ps) (base := base) k)
      clear hr hp hro hop hcap hcm
      by_cases hne : r.base = base
      · have hnb : (r.base != base) = false := by simp [hne]
        have HZ2 : Aside0 (zk R ps base (k + 1) = zk R ps base k) := ⟨by rw [HZ.out, if_neg (by simp [hne])]; simp⟩
        clear hne
        go_wp2_with fail
        refine ⟨⟨k + 1, by omega, by congr 1, HB, ⟨?_⟩⟩, by simp [intOf]; omega⟩
        rw [HZ2.out]
        exact HO.out
      · have hnb : (r.base != base) = true := by simp [hne]
        have HZ2 : Aside0 (zk R ps base (k + 1) = zk R ps base k ++ [(r, p)]) := ⟨by rw [HZ.out, if_pos hne]⟩
        clear hne
        have HALL : Aside0 (X.heap.size ≤ (wr.alloc (.cells (cell2 r p).toArray 126)).heap.size) := ⟨Nat.le_trans HB.out.size (below_alloc (Below.refl _ _) _).size⟩
        obtain ⟨zn, hzn⟩ : ∃ zn, (zk R ps base k).length = zn := ⟨_, rfl⟩
        have HZN := Aside0.mk hzn
        rw [hzn] at HO
        have hzl : zn ≤ 1000000 := by have := HZL.out; omega
        clear hzn
        go_wp2_with (at_builtin; refine wpList_append_own_at _ rfl _ _ 35 rfl X.heap.size 126 i0 _ 2 32 Try.underlying35 hi hz0 hz1 hz2 rfl (by decide) _ zn _ rfl (HO.out.alloc _) ⟨wr.heap.size, 0, none⟩ 1 1 (cell2 r p) rfl rfl (World.news_of_block (heap_alloc_new _ _)) cell2_one (by unfold maxLen; omega) (by omega) HALL.out ?_; intro v' w2 hown' hgrow hnil hloc)
        have HB2 : Below X.heap.size X w2 := (HB.out.alloc HB.out.size _).grown hgrow HALL.out (fun z hz => own_base HO.out z hz)
        refine ⟨⟨k + 1, by omega, by congr 1, ⟨HB2⟩, ⟨?_⟩⟩, by simp [intOf]; omega⟩
        rw [HZ2.out, List.map_append, List.map_append, List.length_append, HZN.out]
        show w2.ownsRow _ _ _ _ _ (cells2 (_ ++ [r]) (_ ++ [p]))
        rw [cells2_append _ _ _ _ (by rw [List.length_map, List.length_map])]
        exact hown'
    · obtain rfl : k = R.length := by omega
      have HREM := Aside0.mk (zk_all (base := base) HM.out.len)
      have HRL : Aside0 ((zk R ps base R.length).length = (remR R base).length) := ⟨by rw [← HREM.out, List.length_map]⟩
      rw [HRL.out] at HO
      have HO2 := HO.out
      obtain ⟨A5, c5, rfl⟩ := own_slice HO2
      have hfro := (blk1 HMr.out.blk).2
      clear HO2
      go_wp2_with fail
      have HQ : Aside0 (RemRPost X B own b R base (.returned (.bool (decide ((remR R base).length < R.length)))) (wr.setCell ⟨b, 0, none⟩ (.slice A5 (remR R base).length c5))) := ⟨by
        have hset : ∀ k, k ≠ b → (wr.setCell ⟨b, 0, none⟩ (.slice A5 (remR R base).length c5)).heap[k]? = wr.heap[k]? := fun k hk => Below.heap_setCell wr ⟨b, 0, none⟩ _ k hk
        have hv5 : ∀ k, (Value.slice A5 (remR R base).length c5).ownBlock = some k → X.heap.size ≤ k ∧ k ≠ b := fun k hk => by
          refine ⟨own_base HO.out k hk, ?_⟩
          have := own_base HO.out k hk
          have := (Array.getElem?_eq_some_iff.1 HM.out.blk).1
          omega
        refine ⟨rfl, ⟨_, (zk R ps base R.length).map (·.2), blk_put HMr.out.blk 0 _ rfl, .inl HM.out.ob, HM.out.bb, ?_, fun k hk => .inr (hv5 k hk).1, by rw [List.length_map, HRL.out], ?_, zk_nd HM.out.len HM.out.nd⟩, ?_⟩
        · refine own_weaken (row_keep ?_ (fun k hk => hset k (hv5 k hk).2)) hBX
          rw [← HREM.out]
          rw [← HREM.out] at HO
          exact HO.out
        · intro i p r hp hr
          rw [← HREM.out] at hr
          rw [List.getElem?_map] at hp hr
          cases hz : (zk R ps base R.length)[i]? with
          | none => rw [hz] at hp; cases hp
          | some z =>
            rw [hz] at hp hr
            cases hp; cases hr
            obtain ⟨j, hj1, hj2⟩ := zk_mem hz
            obtain ⟨g1, g2⟩ := HMr.out.reg j _ _ hj2 hj1
            refine ⟨.inl g1, row_keep g2 (fun k hk => by
              cases hk
              refine hset _ ?_
              obtain ⟨c, hc⟩ := row_block g2 rfl
              exact two_blocks hc HMr.out.blk (by decide))⟩
        · exact (below_out HB.out own).trans (set_out wr b 0 _) (fun k _ hk => by rw [hk]; exact HM.out.ob)⟩
      go_ret
      exact HQ.out
end Go.Proofs.Ytmkmldpcoonepaa.PAll
/- Memories as lists of regions in any order: what the operations leave, and that the order does not matter. -/
set_option linter.unusedVariables false
set_option linter.unusedSimpArgs false
namespace Go.Proofs.Ytmkmldpcoonepaa.PAll
open Go.RowKit Go.Shelf Go.Proofs.YtmkmldpcoonepaaW.PrintWords Go.Proofs.YtmkmldpcoonepaaW.PrintLast Go.Proofs.YtmkmldpcoonepaaW.PrintMore
def Apart (r s : Reg) : Prop := r.base + r.data.length ≤ s.base ∨ s.base + s.data.length ≤ r.base
theorem Apart.symm {r s : Reg} (h : Apart r s) : Apart s r := Or.symm h
structure DL (K : List Reg) : Prop where
  ok : ∀ r ∈ K, Ok r
  pw : K.Pairwise Apart
theorem inv_DL {L : List Reg} (h : Inv L) : DL L :=
  ⟨fun r hr => ⟨h.pos r hr, h.lo r hr, h.hi r hr, h.wf r hr, h.short r hr⟩, List.pairwise_iff_getElem.2 (fun i j hi hj hij => .inl (h.apart i j _ _ hij (List.getElem?_eq_getElem hi) (List.getElem?_eq_getElem hj)))⟩
theorem DL.perm {K K' : List Reg} (h : DL K) (hp : K.Perm K') : DL K' :=
  ⟨fun r hr => h.ok r (hp.mem_iff.2 hr), (hp.pairwise_iff (fun h => Apart.symm h)).1 h.pw⟩
theorem DL.nil : DL [] := ⟨by simp, List.Pairwise.nil⟩
theorem DL.uniq {K : List Reg} (h : DL K) {i j : Nat} {r s : Reg} (hr : K[i]? = some r) (hs : K[j]? = some s) {x : Int} (hx : insB r x = true) (hy : insB s x = true) : i = j := by
  unfold insB at hx hy
  rw [decide_eq_true_eq] at hx hy
  obtain ⟨hi, rfl⟩ := List.getElem?_eq_some_iff.1 hr
  obtain ⟨hj, rfl⟩ := List.getElem?_eq_some_iff.1 hs
  rcases Nat.lt_trichotomy i j with hij | hij | hij
  · have := List.pairwise_iff_getElem.1 h.pw i j hi hj hij
    unfold Apart at this
    omega
  · exact hij
  · have := List.pairwise_iff_getElem.1 h.pw j i hj hi hij
    unfold Apart at this
    omega
theorem hit_insB {a n : Int} {r : Reg} (h : hitR a n r = true) : insB r a = true := (hit_ins.1 h).2.1
theorem DL.hit_uniq {K : List Reg} (h : DL K) {i j : Nat} {r s : Reg} (hr : K[i]? = some r) (hs : K[j]? = some s) {a n : Int} (hx : hitR a n r = true) (hy : hitR a n s = true) : i = j := h.uniq hr hs (hit_insB hx) (hit_insB hy)
theorem DL.base_uniq {K : List Reg} (h : DL K) {i j : Nat} {r s : Reg} (hr : K[i]? = some r) (hs : K[j]? = some s) (he : r.base = s.base) : i = j := by
  have h1 := (h.ok r (List.mem_of_getElem? hr)).pos
  have h2 := (h.ok s (List.mem_of_getElem? hs)).pos
  exact h.uniq (x := r.base) hr hs (by unfold insB; rw [decide_eq_true_eq]; omega) (by unfold insB; rw [decide_eq_true_eq]; omega)
/-! ### Bytes -/
theorem bytesF_iff {K : List Reg} (h : DL K) {a n : Int} {bs : List Int} : bytesF K a n = some bs ↔ ∃ r ∈ K, hitR a n r = true ∧ bs = (r.data.drop (a - r.base).toNat).take n.toNat := by
  unfold bytesF
  constructor
  · intro hb
    cases hf : K.findIdx? (hitR a n) with
    | none => rw [hf] at hb; cases hb
    | some k =>
      rw [hf] at hb
      dsimp only at hb
      obtain ⟨hk, hh, _⟩ := List.findIdx?_eq_some_iff_getElem.1 hf
      rw [List.getElem?_eq_getElem hk] at hb
      dsimp only at hb
      exact ⟨_, List.getElem_mem hk, hh, (Option.some.inj hb).symm⟩
  · rintro ⟨r, hr, hh, rfl⟩
    obtain ⟨j, hj⟩ := List.mem_iff_getElem?.1 hr
    cases hf : K.findIdx? (hitR a n) with
    | none => rw [List.findIdx?_eq_none_iff] at hf; rw [hf r hr] at hh; cases hh
    | some k =>
      obtain ⟨hk, hh2, _⟩ := List.findIdx?_eq_some_iff_getElem.1 hf
      have hk' : K[k]? = some K[k] := List.getElem?_eq_getElem hk
      obtain rfl := h.hit_uniq hj hk' hh hh2
      dsimp only
      rw [hj]
theorem bytesF_perm {K K' : List Reg} (h : DL K) (hp : K.Perm K') (a n : Int) : bytesF K a n = bytesF K' a n := by
  apply Option.ext
  intro bs
  rw [bytesF_iff h, bytesF_iff (h.perm hp)]
  constructor
  · rintro ⟨r, hr, hh⟩; exact ⟨r, hp.mem_iff.1 hr, hh⟩
  · rintro ⟨r, hr, hh⟩; exact ⟨r, hp.mem_iff.2 hr, hh⟩
/-! ### Put -/
def putR (a : Int) (bs : List Int) (r : Reg) : Reg := if hitR a bs.length r then { r with data := splice r.data (a - r.base).toNat bs } else r
def putG (K : List Reg) (a : Int) (bs : List Int) : List Reg := K.map (putR a bs)
theorem putF_some {K : List Reg} (h : DL K) {a : Int} {bs : List Int} {K' : List Reg} (hf : putF K a bs = some K') : K.any (hitR a bs.length) = true ∧ K' = putG K a bs := by
  unfold putF at hf
  cases hi : K.findIdx? (hitR a bs.length) with
  | none => rw [hi] at hf; cases hf
  | some k =>
    rw [hi] at hf
    dsimp only at hf
    obtain ⟨hk, hh, _⟩ := List.findIdx?_eq_some_iff_getElem.1 hi
    have hr : K[k]? = some K[k] := List.getElem?_eq_getElem hk
    rw [hr] at hf
    dsimp only at hf
    refine ⟨List.any_eq_true.2 ⟨_, List.getElem_mem hk, hh⟩, ?_⟩
    rw [← Option.some.inj hf]
    apply List.ext_getElem?
    intro j
    unfold putG
    rw [List.getElem?_map, List.getElem?_set]
    by_cases hj : k = j
    · subst hj
      rw [if_pos rfl, if_pos hk, hr]
      show _ = some (putR a bs K[k])
      unfold putR
      rw [if_pos hh]
    · rw [if_neg hj]
      cases hs : K[j]? with
      | none => rfl
      | some s =>
        show _ = some (putR a bs s)
        unfold putR
        rw [if_neg (fun hh2 => hj (h.hit_uniq hr hs hh hh2))]
theorem putF_none {K : List Reg} {a : Int} {bs : List Int} (hf : putF K a bs = none) : K.any (hitR a bs.length) = false ∧ K = putG K a bs := by
  unfold putF at hf
  cases hi : K.findIdx? (hitR a bs.length) with
  | none =>
    rw [List.findIdx?_eq_none_iff] at hi
    refine ⟨by rw [List.any_eq_false]; intro r hr; simp [hi r hr], ?_⟩
    unfold putG
    conv => lhs; rw [← List.map_id K]
    refine List.map_congr_left (fun r hr => ?_)
    unfold putR
    rw [hi r hr]
    rfl
  | some k =>
    rw [hi] at hf
    dsimp only at hf
    obtain ⟨hk, hh, _⟩ := List.findIdx?_eq_some_iff_getElem.1 hi
    rw [List.getElem?_eq_getElem hk] at hf
    cases hf
theorem putR_len {a : Int} {bs : List Int} {r : Reg} (h : Ok r) : (putR a bs r).data.length = r.data.length ∧ (putR a bs r).base = r.base := by
  unfold putR
  by_cases hh : hitR a bs.length r = true
  · rw [if_pos hh]
    obtain ⟨h1, h2, h3⟩ := hit_iff.1 hh
    exact ⟨length_splice _ _ _ (by omega), rfl⟩
  · rw [if_neg hh]; exact ⟨rfl, rfl⟩
theorem mem_splice {l cs : List Int} {off : Nat} {x : Int} (h : x ∈ splice l off cs) : x ∈ l ∨ x ∈ cs := by
  unfold splice at h
  rcases List.mem_append.1 h with h | h
  · exact .inl (List.mem_of_mem_take h)
  · rcases List.mem_append.1 h with h | h
    · exact .inr h
    · exact .inl (List.mem_of_mem_drop h)
theorem putR_ok {a : Int} {bs : List Int} {r : Reg} (h : Ok r) (hw : ∀ x ∈ bs, 0 ≤ x ∧ x < 256) : Ok (putR a bs r) := by
  obtain ⟨e1, e2⟩ := putR_len (a := a) (bs := bs) h
  refine ⟨by rw [e1]; exact h.pos, by rw [e2]; exact h.lo, by rw [e1, e2]; exact h.hi, ?_, by rw [e1]; exact h.short⟩
  intro x hx
  unfold putR at hx
  by_cases hh : hitR a bs.length r = true
  · rw [if_pos hh] at hx
    rcases mem_splice hx with hx | hx
    · exact h.wf x hx
    · exact hw x hx
  · rw [if_neg hh] at hx; exact h.wf x hx
theorem inv_put {L : List Reg} (h : Inv L) {a : Int} {bs : List Int} (hw : ∀ x ∈ bs, 0 ≤ x ∧ x < 256) : Inv (putG L a bs) := by
  have hD := inv_DL h
  have hm : ∀ r ∈ putG L a bs, Ok r := fun r hr => by
    obtain ⟨s, hs, rfl⟩ := List.mem_map.1 hr
    exact putR_ok (hD.ok s hs) hw
  refine ⟨fun r hr => (hm r hr).pos, fun r hr => (hm r hr).lo, fun r hr => (hm r hr).hi, fun r hr => (hm r hr).wf, fun r hr => (hm r hr).short, ?_⟩
  intro i j r s hij hr hs
  unfold putG at hr hs
  rw [List.getElem?_map] at hr hs
  obtain ⟨r0, hr0, rfl⟩ := Option.map_eq_some_iff.1 hr
  obtain ⟨s0, hs0, rfl⟩ := Option.map_eq_some_iff.1 hs
  obtain ⟨e1, e2⟩ := putR_len (a := a) (bs := bs) (hD.ok r0 (List.mem_of_getElem? hr0))
  obtain ⟨e3, e4⟩ := putR_len (a := a) (bs := bs) (hD.ok s0 (List.mem_of_getElem? hs0))
  rw [e1, e2, e4]
  exact h.apart i j r0 s0 hij hr0 hs0
/-! ### Add -/
def addG (K : List Reg) (base : Int) (bs : List Int) : List Reg := if addOk K base bs.length then ⟨base, bs⟩ :: K else K
theorem addOk_perm {K K' : List Reg} (hp : K.Perm K') (base : Int) (n : Nat) : addOk K base n = addOk K' base n := by
  unfold addOk
  refine decide_eq_decide.2 ⟨fun h => ⟨h.1, h.2.1, fun r hr => h.2.2 r (hp.mem_iff.2 hr)⟩, fun h => ⟨h.1, h.2.1, fun r hr => h.2.2 r (hp.mem_iff.1 hr)⟩⟩
theorem inv_insert {L : List Reg} (h : Inv L) {base : Int} {bs : List Int} (ho : addOk L base bs.length = true) (h0 : 0 ≤ base) (hw : ∀ x ∈ bs, 0 ≤ x ∧ x < 256) (hs : bs.length ≤ 4294967296) {i : Nat} (hi : IsAt L (base + bs.length - 1) i) : Inv (L.take i ++ [⟨base, bs⟩] ++ L.drop i) := by
  obtain ⟨o1, o2, o3⟩ := of_decide_eq_true ho
  have hm : ∀ r ∈ L.take i ++ [⟨base, bs⟩] ++ L.drop i, r ∈ L ∨ r = ⟨base, bs⟩ := fun r hr => by
    rcases List.mem_append.1 hr with hr | hr
    · rcases List.mem_append.1 hr with hr | hr
      · exact .inl (List.mem_of_mem_take hr)
      · exact .inr (List.mem_singleton.1 hr)
    · exact .inl (List.mem_of_mem_drop hr)
  refine ⟨fun r hr => ?_, fun r hr => ?_, fun r hr => ?_, fun r hr => ?_, fun r hr => ?_, ?_⟩
  · rcases hm r hr with hr | rfl; exact h.pos r hr; exact o1
  · rcases hm r hr with hr | rfl; exact h.lo r hr; exact h0
  · rcases hm r hr with hr | rfl; exact h.hi r hr; exact o2
  · rcases hm r hr with hr | rfl; exact h.wf r hr; exact hw
  · rcases hm r hr with hr | rfl; exact h.short r hr; exact hs
  · intro j k r s hjk hr hs'
    rw [ins_get _ _ _ hi.1] at hr hs'
    have hbef : ∀ (j : Nat) (r : Reg), j < i → L[j]? = some r → r.base + r.data.length ≤ base := fun j r hj hr => by
      have h1 := hi.2.1 j r hj hr
      have h2 := h.pos r (List.mem_of_getElem? hr)
      rcases o3 r (List.mem_of_getElem? hr) with h3 | h3 <;> omega
    have haft : ∀ (j : Nat) (r : Reg), i ≤ j → L[j]? = some r → base + bs.length ≤ r.base := fun j r hj hr => by
      have h1 := hi.2.2 j r hj hr
      have h2 := h.pos r (List.mem_of_getElem? hr)
      rcases o3 r (List.mem_of_getElem? hr) with h3 | h3 <;> omega
    by_cases hj : j < i
    · rw [if_pos hj] at hr
      by_cases hk : k < i
      · rw [if_pos hk] at hs'; exact h.apart j k r s hjk hr hs'
      · rw [if_neg hk] at hs'
        by_cases hk2 : k = i
        · rw [if_pos hk2] at hs'; cases hs'; exact hbef j r hj hr
        · rw [if_neg hk2] at hs'; exact h.apart j (k - 1) r s (by omega) hr hs'
    · rw [if_neg hj] at hr
      have hk : ¬ k < i := by omega
      have hk2 : ¬ k = i := by omega
      rw [if_neg hk, if_neg hk2] at hs'
      by_cases hj2 : j = i
      · rw [if_pos hj2] at hr; cases hr; exact haft (k - 1) s (by omega) hs'
      · rw [if_neg hj2] at hr; exact h.apart (j - 1) (k - 1) r s (by omega) hr hs'
theorem ins_perm (L : List Reg) (s : Reg) (i : Nat) : (L.take i ++ [s] ++ L.drop i).Perm (s :: L) := by
  have := List.perm_middle (a := s) (l₁ := L.take i) (l₂ := L.drop i)
  rw [List.take_append_drop] at this
  rw [List.append_assoc]
  exact this
/-! ### Remove -/
theorem remF_eq {L : List Reg} (h : Inv L) (a : Int) : (remF L a).isSome = L.any (fun r => r.base == a) ∧ (remF L a).getD L = remR L a := by
  have hD := inv_DL h
  unfold remF
  cases hi : L.findIdx? (fun r => r.base == a) with
  | none =>
    rw [List.findIdx?_eq_none_iff] at hi
    refine ⟨?_, ?_⟩
    · symm
      show _ = false
      rw [List.any_eq_false]
      intro r hr; simp [hi r hr]
    · show L = remR L a
      unfold remR
      symm
      rw [List.filter_eq_self]
      intro r hr
      have := hi r hr
      simpa using this
  | some k =>
    obtain ⟨hk, hh, _⟩ := List.findIdx?_eq_some_iff_getElem.1 hi
    have hb : L[k].base = a := by simpa using hh
    refine ⟨?_, ?_⟩
    · symm
      show _ = true
      rw [List.any_eq_true]
      exact ⟨_, List.getElem_mem hk, hh⟩
    · show L.take k ++ L.drop (k + 1) = remR L a
      unfold remR
      have e : L = L.take k ++ (L[k] :: L.drop (k + 1)) := by rw [← List.drop_eq_getElem_cons hk, List.take_append_drop]
      have hr : L[k]? = some L[k] := List.getElem?_eq_getElem hk
      have h1 : (L.take k).filter (fun r => decide (r.base ≠ a)) = L.take k := by
        rw [List.filter_eq_self]
        intro r hr2
        obtain ⟨j, hj⟩ := List.mem_iff_getElem?.1 hr2
        rw [List.getElem?_take] at hj
        by_cases hjk : j < k
        · rw [if_pos hjk] at hj
          simp only [decide_eq_true_eq]
          intro hc
          have := hD.base_uniq hj hr (by rw [hc, hb])
          omega
        · rw [if_neg hjk] at hj; cases hj
      have h2 : (L.drop (k + 1)).filter (fun r => decide (r.base ≠ a)) = L.drop (k + 1) := by
        rw [List.filter_eq_self]
        intro r hr2
        obtain ⟨j, hj⟩ := List.mem_iff_getElem?.1 hr2
        rw [List.getElem?_drop] at hj
        simp only [decide_eq_true_eq]
        intro hc
        have := hD.base_uniq hj hr (by rw [hc, hb])
        omega
      conv => rhs; rw [e]
      rw [List.filter_append, List.filter_cons, h1, h2, if_neg (by simp [hb])]
theorem inv_rem {L : List Reg} (h : Inv L) (a : Int) : Inv (remR L a) := by
  have hm : ∀ r ∈ remR L a, r ∈ L := fun r hr => (List.mem_filter.1 hr).1
  refine ⟨fun r hr => h.pos r (hm r hr), fun r hr => h.lo r (hm r hr), fun r hr => h.hi r (hm r hr), fun r hr => h.wf r (hm r hr), fun r hr => h.short r (hm r hr), ?_⟩
  have hp : (remR L a).Pairwise (fun (r s : Reg) => r.base + (r.data.length : Int) ≤ s.base) :=
    (List.pairwise_iff_getElem.2 (fun i j hi hj hij => h.apart i j _ _ hij (List.getElem?_eq_getElem hi) (List.getElem?_eq_getElem hj))).sublist List.filter_sublist
  intro i j r s hij hr hs
  obtain ⟨hi, rfl⟩ := List.getElem?_eq_some_iff.1 hr
  obtain ⟨hj, rfl⟩ := List.getElem?_eq_some_iff.1 hs
  exact List.pairwise_iff_getElem.1 hp i j hi hj hij
theorem rem_lt (R : List Reg) (a : Int) : decide ((remR R a).length < R.length) = R.any (fun r => r.base == a) := by
  rw [Bool.eq_iff_iff, decide_eq_true_eq, List.any_eq_true]
  constructor
  · intro h
    apply Classical.byContradiction
    intro hc
    have : remR R a = R := by
      unfold remR
      rw [List.filter_eq_self]
      intro r hr
      simp only [decide_eq_true_eq]
      intro he
      exact hc ⟨r, hr, by simpa using he⟩
    rw [this] at h
    omega
  · rintro ⟨r, hr, he⟩
    refine Nat.lt_of_le_of_ne (List.length_filter_le _ _) (fun hl => ?_)
    have := List.length_filter_eq_length_iff.1 hl r hr
    simp at this he
    exact this he
theorem any_perm {K K' : List Reg} (hp : K.Perm K') (p : Reg → Bool) : K.any p = K'.any p := by
  rw [Bool.eq_iff_iff, List.any_eq_true, List.any_eq_true]
  exact ⟨fun ⟨r, hr, h⟩ => ⟨r, hp.mem_iff.1 hr, h⟩, fun ⟨r, hr, h⟩ => ⟨r, hp.mem_iff.2 hr, h⟩⟩
end Go.Proofs.Ytmkmldpcoonepaa.PAll
/- The program's memory and the reference's side by side: what each operation does to the two. -/
set_option linter.unusedVariables false
set_option linter.unusedSimpArgs false
namespace Go.Proofs.Ytmkmldpcoonepaa.PAll
open Go.RowKit Go.Shelf Go.Proofs.YtmkmldpcoonepaaW.PrintWords Go.Proofs.YtmkmldpcoonepaaW.PrintLast Go.Proofs.YtmkmldpcoonepaaW.PrintMore
/-- The program's memory in block m holds the regions K, the reference's in block b the regions R; no block belongs to both; none of the blocks fr belongs to either. -/
def Two (X : World) (n0 : Nat) (fr : Nat → Prop) (m b : Nat) (K R : List Reg) : Prop := ∃ (own own' : Nat → Prop) (L : List Reg), n0 ≤ X.heap.size ∧ (∀ k, fr k → k < X.heap.size) ∧ (∀ k, own k → ¬ fr k ∧ k < X.heap.size ∧ ¬ own' k) ∧ (∀ k, own' k → ¬ fr k ∧ k < X.heap.size) ∧ MemAt X n0 own m L ∧ Inv L ∧ L.Perm K ∧ RefAt X n0 own' b R ∧ DL R
theorem Two.below {X X' : World} {n0 : Nat} {fr : Nat → Prop} {m b : Nat} {K R : List Reg} (h : Two X n0 fr m b K R) (hb : Below X.heap.size X X') : Two X' n0 fr m b K R := by
  obtain ⟨o, o', L, h1, hf0, h2, h3, h4, h5, h6, h7, h8⟩ := h
  exact ⟨o, o', L, Nat.le_trans h1 hb.size, fun k hk => Nat.lt_of_lt_of_le (hf0 k hk) hb.size, fun k hk => ⟨(h2 k hk).1, Nat.lt_of_lt_of_le (h2 k hk).2.1 hb.size, (h2 k hk).2.2⟩, fun k hk => ⟨(h3 k hk).1, Nat.lt_of_lt_of_le (h3 k hk).2 hb.size⟩, h4.below hb, h5, h6, h7.below hb, h8⟩
/-- A block more that is let alone. -/
theorem Two.alloc {X : World} {n0 : Nat} {fr : Nat → Prop} {m b : Nat} {K R : List Reg} (h : Two X n0 fr m b K R) (o : Obj) : Two (X.alloc o) n0 (fun k => fr k ∨ k = X.heap.size) m b K R := by
  have hb : Below X.heap.size X (X.alloc o) := below_alloc (Below.refl _ _) o
  have hs : X.heap.size < (X.alloc o).heap.size := by simp
  obtain ⟨o1, o', L, h1, hf0, h2, h3, h4, h5, h6, h7, h8⟩ := h.below hb
  obtain ⟨p1, p', L', k1, kf0, k2, k3, k4, k5, k6, k7, k8⟩ := h
  refine ⟨p1, p', L', h1, ?_, ?_, ?_, k4.below hb, k5, k6, k7.below hb, k8⟩
  · rintro k (hk | rfl)
    · exact hf0 k hk
    · exact hs
  · intro k hk
    refine ⟨?_, Nat.lt_trans (k2 k hk).2.1 hs, (k2 k hk).2.2⟩
    rintro (h | rfl)
    · exact (k2 k hk).1 h
    · have := (k2 _ hk).2.1; omega
  · intro k hk
    refine ⟨?_, Nat.lt_trans (k3 k hk).2 hs⟩
    rintro (h | rfl)
    · exact (k3 k hk).1 h
    · have := (k3 _ hk).2; omega
theorem Two.weaken {X : World} {n0 : Nat} {fr fr' : Nat → Prop} {m b : Nat} {K R : List Reg} (h : Two X n0 fr m b K R) (hf : ∀ k, fr' k → fr k) : Two X n0 fr' m b K R := by
  obtain ⟨o, o', L, h1, hf0, h2, h3, h4, h5, h6, h7, h8⟩ := h
  exact ⟨o, o', L, h1, fun k hk => hf0 k (hf k hk), fun k hk => ⟨fun h => (h2 k hk).1 (hf k h), (h2 k hk).2⟩, fun k hk => ⟨fun h => (h3 k hk).1 (hf k h), (h3 k hk).2⟩, h4, h5, h6, h7, h8⟩
theorem Two.size {X : World} {n0 : Nat} {fr : Nat → Prop} {m b : Nat} {K R : List Reg} (h : Two X n0 fr m b K R) : n0 ≤ X.heap.size := by
  obtain ⟨o, o', L, h1, _⟩ := h; exact h1
theorem Two.dl {X : World} {n0 : Nat} {fr : Nat → Prop} {m b : Nat} {K R : List Reg} (h : Two X n0 fr m b K R) : DL K ∧ DL R := by
  obtain ⟨o, o', L, h1, hf0, h2, h3, h4, h5, h6, h7, h8⟩ := h
  exact ⟨(inv_DL h5).perm h6, h8⟩
/-- The program's memory turns. -/
theorem Two.mem {X X' : World} {n0 : Nat} {fr : Nat → Prop} {m b : Nat} {own own' : Nat → Prop} {R L' : List Reg} (h1 : n0 ≤ X.heap.size) (hf0 : ∀ k, fr k → k < X.heap.size) (h2 : ∀ k, own k → ¬ fr k ∧ k < X.heap.size ∧ ¬ own' k) (h3 : ∀ k, own' k → ¬ fr k ∧ k < X.heap.size) (h7 : RefAt X n0 own' b R) (h8 : DL R)
    (hm : MemAt X' n0 (orNew own X) m L') (ho : Out own X X') (hI : Inv L') {K' : List Reg} (hp : L'.Perm K') : Two X' n0 fr m b K' R ∧ Out (fun k => ¬ fr k) X X' := by
  have hr : ∀ k, k < X.heap.size → own' k → ¬ own k := fun k _ hk ho => (h2 k ho).2.2 hk
  refine ⟨⟨fun k => orNew own X k ∧ k < X'.heap.size, own', L', Nat.le_trans h1 ho.size, fun k hk => Nat.lt_of_lt_of_le (hf0 k hk) ho.size, ?_, fun k hk => ⟨(h3 k hk).1, Nat.lt_of_lt_of_le (h3 k hk).2 ho.size⟩, hm.bound, hI, hp, h7.out ho hr, h8⟩, ho.mono (fun k _ hk => (h2 k hk).1)⟩
  rintro k ⟨hk, hlt⟩
  rcases hk with hk | hk
  · exact ⟨(h2 k hk).1, hlt, (h2 k hk).2.2⟩
  · exact ⟨fun h => by have := hf0 k h; omega, hlt, fun h => by have := (h3 k h).2; omega⟩
/-- The reference's memory turns. -/
theorem Two.ref {X X' : World} {n0 : Nat} {fr : Nat → Prop} {m b : Nat} {own own' : Nat → Prop} {K L R' : List Reg} (h1 : n0 ≤ X.heap.size) (hf0 : ∀ k, fr k → k < X.heap.size) (h2 : ∀ k, own k → ¬ fr k ∧ k < X.heap.size ∧ ¬ own' k) (h3 : ∀ k, own' k → ¬ fr k ∧ k < X.heap.size) (h4 : MemAt X n0 own m L) (h5 : Inv L) (h6 : L.Perm K)
    (hm : RefAt X' n0 (orNew own' X) b R') (ho : Out own' X X') (hI : DL R') : Two X' n0 fr m b K R' ∧ Out (fun k => ¬ fr k) X X' := by
  refine ⟨⟨own, fun k => orNew own' X k ∧ k < X'.heap.size, L, Nat.le_trans h1 ho.size, fun k hk => Nat.lt_of_lt_of_le (hf0 k hk) ho.size, fun k hk => ⟨(h2 k hk).1, Nat.lt_of_lt_of_le (h2 k hk).2.1 ho.size, ?_⟩, ?_, h4.out ho (fun k _ hk => (h2 k hk).2.2), h5, h6, hm.bound, hI⟩, ho.mono (fun k _ hk => (h3 k hk).1)⟩
  · rintro ⟨h | h, _⟩
    · exact (h2 k hk).2.2 h
    · have := (h2 k hk).2.1; omega
  · rintro k ⟨hk, hlt⟩
    rcases hk with hk | hk
    · exact ⟨(h3 k hk).1, hlt⟩
    · exact ⟨fun h => by have := hf0 k h; omega, hlt⟩
theorem DL.add {R : List Reg} (h : DL R) {base : Int} {bs : List Int} (h0 : 0 ≤ base) (hw : ∀ x ∈ bs, 0 ≤ x ∧ x < 256) (hs : bs.length ≤ 4294967296) (ho : addOk R base bs.length = true) : DL (⟨base, bs⟩ :: R) := by
  obtain ⟨o1, o2, o3⟩ := of_decide_eq_true ho
  refine ⟨fun r hr => ?_, List.pairwise_cons.2 ⟨fun r hr => ?_, h.pw⟩⟩
  · rcases List.mem_cons.1 hr with rfl | hr
    · exact ⟨o1, h0, o2, hw, hs⟩
    · exact h.ok r hr
  · rcases o3 r hr with h | h
    · exact .inr h
    · exact .inl h
theorem DL.put {R : List Reg} (h : DL R) {a : Int} {bs : List Int} (hw : ∀ x ∈ bs, 0 ≤ x ∧ x < 256) : DL (putG R a bs) := by
  refine ⟨fun r hr => ?_, ?_⟩
  · obtain ⟨s, hs, rfl⟩ := List.mem_map.1 hr
    exact putR_ok (h.ok s hs) hw
  · unfold putG
    rw [List.pairwise_map]
    refine h.pw.imp_of_mem (fun {r s} hr hs hap => ?_)
    obtain ⟨e1, e2⟩ := putR_len (a := a) (bs := bs) (h.ok r hr)
    obtain ⟨e3, e4⟩ := putR_len (a := a) (bs := bs) (h.ok s hs)
    unfold Apart at hap ⊢
    rw [e1, e2, e3, e4]
    exact hap
theorem DL.rem {R : List Reg} (h : DL R) (a : Int) : DL (remR R a) := ⟨fun r hr => h.ok r (List.mem_filter.1 hr).1, h.pw.sublist List.filter_sublist⟩
theorem rem_perm {K K' : List Reg} (hp : K.Perm K') (a : Int) : (remR K a).Perm (remR K' a) := hp.filter _
theorem put_perm {K K' : List Reg} (hp : K.Perm K') (a : Int) (bs : List Int) : (putG K a bs).Perm (putG K' a bs) := hp.map _
theorem MemAt.len {X : World} {B : Nat} {own : Nat → Prop} {m : Nat} {L : List Reg} (h : MemAt X B own m L) : True := trivial
/-! ### the program's operations -/
def wrG (K : List Reg) (a n x : Int) : List Reg := if numB n then putG K a (le n.toNat x) else K
def wrB (K : List Reg) (a n x : Int) : Bool := if numB n then K.any (hitR a (le n.toNat x).length) else false
theorem le_wf (n : Nat) (x : Int) : ∀ y ∈ le n x, 0 ≤ y ∧ y < 256 := fun y hy => by
  unfold le byteAt at hy
  obtain ⟨i, _, rfl⟩ := List.mem_map.1 hy
  exact ⟨Int.emod_nonneg _ (by decide), Int.emod_lt_of_pos _ (by decide)⟩
/-! ### the reference's operations -/
end Go.Proofs.Ytmkmldpcoonepaa.PAll
