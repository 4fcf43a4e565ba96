/- The texts RefBase, RefW1, RefW2, RefW3, RefW4 of this claim, joined. -/
import Derived.Test.YtomnfkihieinbaaDoorGMemB
import Derived.Maps.AppendAt
import Derived.Test.YtomnfkihieinbaaDoorPAllx2
import Derived.Deep.RegionHeld3
import Derived.Laws.OwnMore
import Derived.Deep.AppendLies
/- The reference's memory: what lies in the heap. -/
set_option linter.unusedVariables false
set_option linter.unusedSimpArgs false
namespace Go.Proofs.YtomnfkihieinbaaDoor.PAll
open Go.RowKit Go.Shelf Go.Proofs.YtomnfkihieinbaaDoorW.PrintWords Go.Proofs.YtomnfkihieinbaaDoorW.PrintLast Go.Proofs.YtomnfkihieinbaaDoorW.PrintMore
/-- The two cells of a region whose bytes lie in block p.1 (capacity p.2). -/
def cell2 (r : Reg) (p : Nat × Nat) : List Value := [.int .u64 r.base, .slice (some ⟨p.1, 0, none⟩) r.data.length p.2]
def cells2 : List Reg → List (Nat × Nat) → List Value
  | r :: R, p :: ps => cell2 r p ++ cells2 R ps
  | _, _ => []
theorem cells2_len : ∀ (R : List Reg) (ps : List (Nat × Nat)), ps.length = R.length → (cells2 R ps).length = R.length * 2
  | [], [], _ => rfl
  | r :: R, p :: ps, h => by
    simp only [cells2, cell2, List.length_append, List.length_cons, List.length_nil]
    rw [cells2_len R ps (by simpa using h)]
    omega
  | [], _ :: _, h => by simp at h
  | _ :: _, [], h => by simp at h
theorem cells2_append : ∀ (R : List Reg) (ps : List (Nat × Nat)) (r : Reg) (p : Nat × Nat), ps.length = R.length → cells2 (R ++ [r]) (ps ++ [p]) = cells2 R ps ++ cell2 r p
  | [], [], _, _, _ => by simp [cells2]
  | r' :: R, p' :: ps, r, p, h => by
    simp only [List.cons_append, cells2, cells2_append R ps r p (by simpa using h), List.append_assoc]
  | [], _ :: _, _, _, h => by simp at h
  | _ :: _, [], _, _, h => by simp at h
theorem cells2_at : ∀ (R : List Reg) (ps : List (Nat × Nat)) (i : Nat) (r : Reg) (p : Nat × Nat), R[i]? = some r → ps[i]? = some p →
    (cells2 R ps)[i * 2]? = some (.int .u64 r.base) ∧ (cells2 R ps)[i * 2 + 1]? = some (.slice (some ⟨p.1, 0, none⟩) r.data.length p.2)
  | [], _, i, r, p, h, _ => by simp at h
  | _ :: _, [], i, r, p, _, h => by simp at h
  | r' :: R, p' :: ps, 0, r, p, h, k => by
    simp at h k
    subst h; subst k
    exact ⟨rfl, rfl⟩
  | r' :: R, p' :: ps, i + 1, r, p, h, k => by
    have := cells2_at R ps i r p (by simpa using h) (by simpa using k)
    have e : (cells2 (r' :: R) (p' :: ps)) = .int .u64 r'.base :: .slice (some ⟨p'.1, 0, none⟩) r'.data.length p'.2 :: cells2 R ps := rfl
    rw [e, show (i + 1) * 2 = i * 2 + 1 + 1 by omega, show i * 2 + 1 + 1 + 1 = (i * 2 + 1) + 1 + 1 by omega]
    simpa using this
/-- The reference's memory in block b: its list lies in v, the bytes of the i-th region in block ps[i].1. -/
structure RefIn (X : World) (B : Nat) (own : Nat → Prop) (b : Nat) (R : List Reg) (v : Value) (ps : List (Nat × Nat)) : Prop where
  blk : X.heap[b]? = some (.cells #[v] 51 (0, 0))
  ob : own b
  bb : B ≤ b
  row : X.ownsRow B 108 2 v R.length (cells2 R ps)
  orow : ∀ k, v.ownBlock = some k → own k
  len : ps.length = R.length
  reg : ∀ (i : Nat) (p : Nat × Nat) (r : Reg), ps[i]? = some p → R[i]? = some r → own p.1 ∧ X.ownsRow B 5 1 (.slice (some ⟨p.1, 0, none⟩) r.data.length p.2) r.data.length (nums .u8 r.data)
  nd : (ps.map (·.1)).Nodup
def RefAt (X : World) (B : Nat) (own : Nat → Prop) (b : Nat) (R : List Reg) : Prop := ∃ v ps, RefIn X B own b R v ps
theorem RefIn.keep {X X' : World} {B : Nat} {own : Nat → Prop} {b : Nat} {R : List Reg} {v : Value} {ps : List (Nat × Nat)} (h : RefIn X B own b R v ps) (hk : ∀ k, k < X.heap.size → own k → X'.heap[k]? = X.heap[k]?) : RefIn X' B own b R v ps :=
  ⟨(hk b (Array.getElem?_eq_some_iff.1 h.blk).1 h.ob).trans h.blk, h.ob, h.bb, row_keep h.row (fun k hk' => hk k (own_lt h.row k hk') (h.orow k hk')), h.orow, h.len,
    fun i p r hp hr => by
      obtain ⟨g1, g2⟩ := h.reg i p r hp hr
      exact ⟨g1, row_keep g2 (fun k hk' => by cases hk'; exact hk p.1 (own_lt g2 p.1 rfl) g1)⟩, h.nd⟩
theorem RefIn.mono {X : World} {B : Nat} {own own' : Nat → Prop} {b : Nat} {R : List Reg} {v : Value} {ps : List (Nat × Nat)} (h : RefIn X B own b R v ps) (ho : ∀ k, k < X.heap.size → own k → own' k) : RefIn X B own' b R v ps :=
  ⟨h.blk, ho b (Array.getElem?_eq_some_iff.1 h.blk).1 h.ob, h.bb, h.row, fun k hk => ho k (own_lt h.row k hk) (h.orow k hk), h.len,
    fun i p r hp hr => by
      obtain ⟨g1, g2⟩ := h.reg i p r hp hr
      exact ⟨ho p.1 (own_lt g2 p.1 rfl) g1, g2⟩, h.nd⟩
theorem RefAt.keep {X X' : World} {B : Nat} {own : Nat → Prop} {b : Nat} {R : List Reg} (h : RefAt X B own b R) (hk : ∀ k, k < X.heap.size → own k → X'.heap[k]? = X.heap[k]?) : RefAt X' B own b R := by
  obtain ⟨v, ps, h⟩ := h
  exact ⟨v, ps, h.keep hk⟩
theorem RefAt.mono {X : World} {B : Nat} {own own' : Nat → Prop} {b : Nat} {R : List Reg} (h : RefAt X B own b R) (ho : ∀ k, k < X.heap.size → own k → own' k) : RefAt X B own' b R := by
  obtain ⟨v, ps, h⟩ := h
  exact ⟨v, ps, h.mono ho⟩
theorem RefAt.below {X X' : World} {B : Nat} {own : Nat → Prop} {b : Nat} {R : List Reg} (h : RefAt X B own b R) (hb : Below X.heap.size X X') : RefAt X' B own b R := h.keep fun k hk _ => hb.block k hk
theorem RefIn.below {X X' : World} {B : Nat} {own : Nat → Prop} {b : Nat} {R : List Reg} {v : Value} {ps : List (Nat × Nat)} (h : RefIn X B own b R v ps) (hb : Below X.heap.size X X') : RefIn X' B own b R v ps := h.keep fun k hk _ => hb.block k hk
theorem RefAt.bound {X : World} {B : Nat} {own : Nat → Prop} {b : Nat} {R : List Reg} (h : RefAt X B own b R) : RefAt X B (fun k => own k ∧ k < X.heap.size) b R := h.mono fun k hk ho => ⟨ho, hk⟩
theorem RefAt.out {X X' : World} {B : Nat} {own own' : Nat → Prop} {b : Nat} {R : List Reg} (h : RefAt X B own b R) (ho : Out own' X X') (hd : ∀ k, k < X.heap.size → own k → ¬ own' k) : RefAt X' B own b R := h.keep fun k hk hk' => ho.block k hk (hd k hk hk')
theorem blk1 {X : World} {b : Nat} {u : Value} {T : TypeId} (h : X.heap[b]? = some (.cells #[u] T (0, 0))) : X.cell? ⟨b, 0, none⟩ = some u ∧ X.frozen? ⟨b, 0, none⟩ = false := by
  refine ⟨?_, ?_⟩ <;> simp [World.cell?, World.frozen?, h]
/-- The i-th region's cells. -/
theorem RefIn.get {X : World} {B : Nat} {own : Nat → Prop} {b : Nat} {R : List Reg} {v : Value} {ps : List (Nat × Nat)} (h : RefIn X B own b R v ps) {i : Nat} (hi : i < R.length) :
    ∃ p r g cap, ps[i]? = some p ∧ R[i]? = some r ∧ v = .slice (some ⟨g, 0, none⟩) R.length cap ∧ X.cell? ⟨g, i * 2, none⟩ = some (.int .u64 r.base) ∧ X.cell? ⟨g, i * 2 + 1, none⟩ = some (.slice (some ⟨p.1, 0, none⟩) r.data.length p.2) ∧ R.length ≤ cap ∧ cap ≤ maxLen ∧
      own p.1 ∧ X.ownsRow B 5 1 (.slice (some ⟨p.1, 0, none⟩) r.data.length p.2) r.data.length (nums .u8 r.data) := by
  have hip : i < ps.length := by rw [h.len]; exact hi
  have e1 : ps[i]? = some ps[i] := List.getElem?_eq_getElem hip
  have e2 : R[i]? = some R[i] := List.getElem?_eq_getElem hi
  obtain ⟨c0, c1⟩ := cells2_at R ps i _ _ e2 e1
  rcases h.row.2 with ⟨_, h0⟩ | ⟨g, cap, cur, rfl, hg, hh, h3, h4, h5, h6⟩
  · omega
  · have k0 := h.row.cells (g := g) rfl (i * 2) _ c0
    have k1 := h.row.cells (g := g) rfl (i * 2 + 1) _ c1
    rw [add_plain] at k0 k1
    obtain ⟨o1, o2⟩ := h.reg i _ _ e1 e2
    exact ⟨_, _, g, cap, e1, e2, rfl, k0, k1, h3, h4, o1, o2⟩
end Go.Proofs.YtomnfkihieinbaaDoor.PAll
/- The reference's Find. -/
set_option linter.unusedVariables false
set_option linter.unusedSimpArgs false
namespace Go.Proofs.YtomnfkihieinbaaDoor.PAll
open Go.RowKit Go.Shelf Go.Proofs.YtomnfkihieinbaaDoorW.PrintWords Go.Proofs.YtomnfkihieinbaaDoorW.PrintLast Go.Proofs.YtomnfkihieinbaaDoorW.PrintMore
def insB (r : Reg) (a : Int) : Bool := decide (r.base ≤ a ∧ a < r.base + r.data.length)
theorem inside_f (r : Reg) (a : Int) (h0 : 0 ≤ r.base) (h1 : 0 ≤ a) (h2 : a < 18446744073709551616) (h3 : r.data.length ≤ 4294967296) : slotcoderef20_inside.f r.base r.data a = some (insB r a) := by
  unfold slotcoderef20_inside.f insB
  by_cases h : a ≥ r.base
  · rw [if_pos h, u64_mod, u64_mod, Int.emod_eq_of_lt (by omega) (by omega), Int.emod_eq_of_lt (by omega) (by omega)]
    congr 1
    exact decide_eq_decide.2 ⟨fun _ => ⟨h, by omega⟩, fun _ => by omega⟩
  · rw [if_neg h, decide_eq_false (fun hh => h hh.1)]
theorem inside_c (r : Reg) (a : Int) (A : Option Addr) (c : Nat) (w : World) (h0 : 0 ≤ r.base) (h1 : 0 ≤ a) (h2 : a < 18446744073709551616) (h3 : r.data.length ≤ 4294967296) (hC : Kd.C (Kd.int .u8) w A r.data.length r.data) (hc : r.data.length ≤ c) :
    Calls Tryd.prog 38 #[.agg #[.int .u64 r.base, .slice A r.data.length c], .int .u64 a] w fun e w' => e = .returned (.bool (insB r a)) ∧ Below w.heap.size w w' :=
  (slotcoderef20_inside.calls r.base A c r.data a _ w hC hc (inside_f r a h0 h1 h2 h3)).mono fun e w' h => ⟨h.1, by first | exact h.2 | exact h.2.below⟩
/-- Where an access lies. -/
theorem hit_ins {a n : Int} {r : Reg} : hitR a n r = true ↔ 1 ≤ n ∧ insB r a = true ∧ n ≤ r.data.length - (a - r.base) := by
  rw [hit_iff]
  unfold insB
  rw [decide_eq_true_eq]
  omega
/-- What holds of every region. -/
structure Ok (r : Reg) : Prop where
  pos : 0 < r.data.length
  lo : 0 ≤ r.base
  hi : r.base + r.data.length ≤ 18446744073709551616
  wf : ∀ x ∈ r.data, 0 ≤ x ∧ x < 256
  short : r.data.length ≤ 4294967296
def findR (R : List Reg) (a n : Int) : Int := match R.findIdx? (hitR a n) with
  | none => -1
  | some k => k
theorem find_at {R : List Reg} {a n : Int} {k : Nat} {r : Reg} (hr : R[k]? = some r) (hh : hitR a n r = true) (hb : ∀ (j : Nat) (q : Reg), j < k → R[j]? = some q → hitR a n q = false) : findR R a n = k := by
  have : R.findIdx? (hitR a n) = some k := by
    rw [List.findIdx?_eq_some_iff_getElem]
    obtain ⟨h1, h2⟩ := List.getElem?_eq_some_iff.1 hr
    exact ⟨h1, by rw [h2]; exact hh, fun j hj => by
      have := hb j _ hj (List.getElem?_eq_getElem (by omega))
      simp [this]⟩
  unfold findR
  rw [this]
theorem find_not {R : List Reg} {a n : Int} (hb : ∀ (j : Nat) (q : Reg), j < R.length → R[j]? = some q → hitR a n q = false) : findR R a n = -1 := by
  have : R.findIdx? (hitR a n) = none := List.findIdx?_eq_none_iff.2 (fun q hq => by
    obtain ⟨j, hj⟩ := List.mem_iff_getElem?.1 hq
    exact hb j q (List.getElem?_eq_some_iff.1 hj).1 hj)
  unfold findR
  rw [this]
set_option maxHeartbeats 2000000 in
set_option maxRecDepth 100000 in
theorem ref_Find (X : World) (B : Nat) (own : Nat → Prop) (b : Nat) (R : List Reg) (v : Value) (ps : List (Nat × Nat)) (a n : Int) (h : RefIn X B own b R v ps) (hW : ∀ r ∈ R, Ok r) (hl : R.length ≤ 1000000) (ha0 : 0 ≤ a) (ha1 : a < 18446744073709551616) (hn0 : -9223372036854775808 ≤ n) (hn1 : n < 9223372036854775808) :
    Calls Tryd.prog 59 #[.pointer (some ⟨b, 0, none⟩), .int .u64 a, .int .i64 n] X fun e X' => e = .returned (.int .i64 (findR R a n)) ∧ Below X.heap.size X X' := by
  obtain ⟨A, c, rfl⟩ := own_slice h.row
  have HM := Aside0.mk h
  have HW := Aside0.mk hW
  have HA := Aside0.mk (And.intro ha0 ha1)
  have HN := Aside0.mk (And.intro hn0 hn1)
  clear h hW ha0 ha1 hn0 hn1
  go_enter Tryd.func59, Tryd.ntmps59
  go_wp2_with fail
  go_loopw [7] (fun v7 wr => ∃ k : Nat, k ≤ R.length ∧ v7 = .int .i64 k ∧ Aside0 (Below X.heap.size X wr) ∧ Aside0 (∀ (j : Nat) (q : Reg), j < k → R[j]? = some q → hitR a n q = false)) (fun v7 _ => R.length - (intOf v7).toNat)
  case atStart => exact ⟨0, Nat.zero_le _, rfl, ⟨Below.refl _ _⟩, ⟨fun j q hj => by omega⟩⟩
  case round =>
    obtain ⟨k, hk, rfl, HB, HJ⟩ := hrel
    have HMr := Aside0.mk (HM.out.below HB.out)
    have hm0 := (blk1 HMr.out.blk).1
    by_cases hlt : k < R.length
    · obtain ⟨p, r, g, cap, hp, hr, hv, hc0, hc1, hcap, hcm, hop, hro⟩ := HMr.out.get hlt
      cases hv
      have hok := HW.out r (List.mem_of_getElem? hr)
      have HR := Aside0.mk hr
      have HNEXT : Aside0 (hitR a n r = false → ∀ (j : Nat) (q : Reg), j < k + 1 → R[j]? = some q → hitR a n q = false) := ⟨fun hf j q hj hq => by
        rcases Nat.lt_or_eq_of_le (Nat.le_of_lt_succ hj) with h | h
        · exact HJ.out j q h hq
        · subst h; rw [HR.out] at hq; cases hq; exact hf⟩
      by_cases hn : n < 1
      · have hf : hitR a n r = false := by
          cases hh : hitR a n r with
          | false => rfl
          | true => have := (hit_ins.1 hh).1; omega
        have HF := Aside0.mk (HNEXT.out hf)
        clear hf hok hr hp hro hop hcap hcm
        have hd : decide ((1 : Int) ≤ n) = false := decide_eq_false (by omega)
        have HBD : Aside0 (Below X.heap.size X wr.drew) := ⟨below_drew HB.out⟩
        go_wp2_with fail
        go_region
        go_wp2_with fail
        exact ⟨⟨k + 1, by omega, by congr 1, HBD, HF⟩, by simp [intOf]; omega⟩
      · have hd : decide ((1 : Int) ≤ n) = true := decide_eq_true (by omega)
        have HBD : Aside0 (Below X.heap.size X wr.drew) := ⟨below_drew HB.out⟩
        have hmd : wr.drew.cell? ⟨b, 0, none⟩ = some (.slice (some ⟨g, 0, none⟩) R.length c) := hm0
        have hcd0 : wr.drew.cell? ⟨g, k * 2, none⟩ = some (.int .u64 r.base) := hc0
        have hcd1 : wr.drew.cell? ⟨g, k * 2 + 1, none⟩ = some (.slice (some ⟨p.1, 0, none⟩) r.data.length p.2) := hc1
        have hcap2 : r.data.length ≤ p.2 := by
          rcases hro.2 with ⟨h1, _⟩ | ⟨_, _, _, h1, _, _, h3, _⟩
          · cases h1
          · cases h1; exact h3
        have HBwr : Aside0 (Below wr.heap.size wr wr.drew) := ⟨below_drew (Below.refl _ _)⟩
        have HINS : Aside0 (∀ w, (w.cell? ⟨b, 0, none⟩ = some (.slice (some ⟨g, 0, none⟩) R.length c) ∧ w.cell? ⟨g, k * 2, none⟩ = some (.int .u64 r.base) ∧ w.cell? ⟨g, k * 2 + 1, none⟩ = some (.slice (some ⟨p.1, 0, none⟩) r.data.length p.2) ∧ Below wr.heap.size wr w) →
            Calls Tryd.prog 38 #[.agg #[.int .u64 r.base, .slice (some ⟨p.1, 0, none⟩) r.data.length p.2], .int .u64 a] w fun e w' => e = .returned (.bool (insB r a)) ∧
              (w'.cell? ⟨b, 0, none⟩ = some (.slice (some ⟨g, 0, none⟩) R.length c) ∧ w'.cell? ⟨g, k * 2, none⟩ = some (.int .u64 r.base) ∧ w'.cell? ⟨g, k * 2 + 1, none⟩ = some (.slice (some ⟨p.1, 0, none⟩) r.data.length p.2) ∧ Below wr.heap.size wr w')) := ⟨fun w ⟨s1, s2, s3, hb⟩ => by
          obtain ⟨A2, c2, he2, _, _, hC2⟩ := row_C (row_keep hro (X' := w) (fun q hq => by cases hq; exact hb.block p.1 (own_lt hro p.1 rfl)))
          obtain ⟨rfl, rfl⟩ : A2 = some ⟨p.1, 0, none⟩ ∧ c2 = p.2 := by
            have := he2
            simp only [Value.slice.injEq] at this
            exact ⟨this.1.symm, this.2.2.symm⟩
          refine (inside_c r a _ _ w hok.lo HA.out.1 HA.out.2 hok.short hC2 hcap2).mono ?_
          rintro e w' ⟨he, hb'⟩
          exact ⟨he, pw_cell_below hb' s1, pw_cell_below hb' s2, pw_cell_below hb' s3, below_then hb hb.size hb'⟩⟩
        have HOK := Aside0.mk hok
        clear hok hr hp hro hop hcap hcm hcap2
        have HBw := Aside0.mk HB.out
        cases hins : insB r a with
        | false =>
          have hf : hitR a n r = false := by
            cases hh : hitR a n r with
            | false => rfl
            | true => have := (hit_ins.1 hh).2.1; rw [hins] at this; cases this
          have HF := Aside0.mk (HNEXT.out hf)
          rw [hins] at HINS
          clear hf hins
          go_wp2_with fail
          refine wp_region_held_drew (S := (fun w' => w'.cell? ⟨b, 0, none⟩ = some (.slice (some ⟨g, 0, none⟩) R.length c) ∧ w'.cell? ⟨g, k * 2, none⟩ = some (.int .u64 r.base) ∧ w'.cell? ⟨g, k * 2 + 1, none⟩ = some (.slice (some ⟨p.1, 0, none⟩) r.data.length p.2) ∧ Below wr.heap.size wr w')) (by kernel_rfl) ⟨hmd, hcd0, hcd1, HBwr.out⟩ (fun hHeld => ?_)
          refine wpAnyH_take (i := 0) (oi := { dst := some 17, op := Op.move (Operand.tmp 2), type := 3, pos := "ref.go:19", after := #[], guard := none }) (v := ?v0) rfl (by kernel_rfl) (by kernel_rfl) (by kernel_rfl) (fun _ _ _ h => h) (Or.inl ⟨by rfl, ?hy0⟩) (by assumption) ?rest0
          case hy0 => (intro w hSw; (try dsimp only at hSw); first | (go_simp; done) | (go_simp; with_reducible rfl))
          try simp only [Act.put, List.setIfInBounds_toArray, List.set_cons_zero, List.set_cons_succ]
          refine wpAnyH_take (i := 1) (oi := { dst := some 18, op := Op.binOp BinOp.geq 3 (Operand.tmp 17) (Operand.const (Value.int IntKind.i64 1)) 3, type := 4, pos := "ref.go:19", after := #[{ on := 0, ground := Ground.data }], guard := none }) (v := ?v1) rfl (by kernel_rfl) (by kernel_rfl) (by kernel_rfl) (fun _ _ _ h => h) (Or.inl ⟨by rfl, ?hy1⟩) (by assumption) ?rest1
          case hy1 => (intro w hSw; (try dsimp only at hSw); first | (go_simp; done) | (go_simp; with_reducible rfl))
          try simp only [Act.put, List.setIfInBounds_toArray, List.set_cons_zero, List.set_cons_succ]
          refine wpAnyH_take (i := 2) (oi := { dst := some 19, op := Op.move (Operand.tmp 18), type := 4, pos := "ref.go:19", after := #[{ on := 1, ground := Ground.data }], guard := none }) (v := ?v2) rfl (by kernel_rfl) (by kernel_rfl) (by kernel_rfl) (fun _ _ _ h => h) (Or.inl ⟨by rfl, ?hy2⟩) (by assumption) ?rest2
          case hy2 => (intro w hSw; (try dsimp only at hSw); first | (go_simp; done) | (go_simp; with_reducible rfl))
          try simp only [Act.put, List.setIfInBounds_toArray, List.set_cons_zero, List.set_cons_succ]
          refine wpAnyH_take (i := 3) (oi := { dst := some 20, op := Op.move (Operand.tmp 0), type := 48, pos := "ref.go:19", after := #[{ on := 2, ground := Ground.guard }], guard := some (2, true) }) (v := ?v3) rfl (by kernel_rfl) (by kernel_rfl) (by kernel_rfl) (fun _ _ _ h => h) (Or.inl ⟨by rfl, ?hy3⟩) (by assumption) ?rest3
          case hy3 => (intro w hSw; (try dsimp only at hSw); first | (go_simp; done) | (go_simp; with_reducible rfl))
          try simp only [Act.put, List.setIfInBounds_toArray, List.set_cons_zero, List.set_cons_succ]
          refine wpAnyH_take (i := 4) (oi := { dst := some 21, op := Op.nilCheck (Operand.tmp 20), type := 0, pos := "ref.go:19", after := #[{ on := 3, ground := Ground.data }, { on := 2, ground := Ground.guard }], guard := some (2, true) }) (v := ?v4) rfl (by kernel_rfl) (by kernel_rfl) (by kernel_rfl) (fun _ _ _ h => h) (Or.inl ⟨by rfl, ?hy4⟩) (by assumption) ?rest4
          case hy4 => (intro w hSw; (try dsimp only at hSw); first | (go_simp; done) | (go_simp; with_reducible rfl))
          try simp only [Act.put, List.setIfInBounds_toArray, List.set_cons_zero, List.set_cons_succ]
          refine wpAnyH_take (i := 5) (oi := { dst := some 22, op := Op.fieldAddr 51 (Operand.tmp 21) 0, type := 0, pos := "ref.go:19", after := #[{ on := 4, ground := Ground.data }, { on := 2, ground := Ground.guard }], guard := some (2, true) }) (v := ?v5) rfl (by kernel_rfl) (by kernel_rfl) (by kernel_rfl) (fun _ _ _ h => h) (Or.inl ⟨by rfl, ?hy5⟩) (by assumption) ?rest5
          case hy5 => (intro w hSw; (try dsimp only at hSw); first | (go_simp; done) | (go_simp; with_reducible rfl))
          try simp only [Act.put, List.setIfInBounds_toArray, List.set_cons_zero, List.set_cons_succ]
          refine wpAnyH_take (i := 6) (oi := { dst := some 23, op := Op.load 49 (Operand.tmp 22), type := 49, pos := "ref.go:19", after := #[{ on := 5, ground := Ground.data }, { on := 2, ground := Ground.guard }], guard := some (2, true) }) (v := ?v6) rfl (by kernel_rfl) (by kernel_rfl) (by kernel_rfl) (fun _ _ _ h => h) (Or.inl ⟨by rfl, ?hy6⟩) (by assumption) ?rest6
          case hy6 => (intro w hSw; (try dsimp only at hSw); first | (go_simp; done) | (go_simp; with_reducible rfl))
          try simp only [Act.put, List.setIfInBounds_toArray, List.set_cons_zero, List.set_cons_succ]
          refine wpAnyH_take (i := 7) (oi := { dst := some 24, op := Op.move (Operand.tmp 7), type := 3, pos := "ref.go:19", after := #[{ on := 2, ground := Ground.guard }], guard := some (2, true) }) (v := ?v7) rfl (by kernel_rfl) (by kernel_rfl) (by kernel_rfl) (fun _ _ _ h => h) (Or.inl ⟨by rfl, ?hy7⟩) (by assumption) ?rest7
          case hy7 => (intro w hSw; (try dsimp only at hSw); first | (go_simp; done) | (go_simp; with_reducible rfl))
          try simp only [Act.put, List.setIfInBounds_toArray, List.set_cons_zero, List.set_cons_succ]
          refine wpAnyH_take (i := 8) (oi := { dst := some 25, op := Op.indexAddr 49 (Operand.tmp 23) (Operand.tmp 24), type := 0, pos := "ref.go:19", after := #[{ on := 6, ground := Ground.data }, { on := 7, ground := Ground.data }, { on := 2, ground := Ground.guard }], guard := some (2, true) }) (v := ?v8) rfl (by kernel_rfl) (by kernel_rfl) (by kernel_rfl) (fun _ _ _ h => h) (Or.inl ⟨by rfl, ?hy8⟩) (by assumption) ?rest8
          case hy8 => (intro w hSw; (try dsimp only at hSw); first | (go_simp; done) | (go_simp; with_reducible rfl))
          try simp only [Act.put, List.setIfInBounds_toArray, List.set_cons_zero, List.set_cons_succ]
          refine wpAnyH_take (i := 9) (oi := { dst := some 26, op := Op.load 108 (Operand.tmp 25), type := 108, pos := "ref.go:19", after := #[{ on := 8, ground := Ground.data }, { on := 2, ground := Ground.guard }], guard := some (2, true) }) (v := ?v9) rfl (by kernel_rfl) (by kernel_rfl) (by kernel_rfl) (fun _ _ _ h => h) (Or.inl ⟨by rfl, ?hy9⟩) (by assumption) ?rest9
          case hy9 => (intro w hSw; (try dsimp only at hSw); first | (go_simp; done) | (go_simp; with_reducible rfl))
          try simp only [Act.put, List.setIfInBounds_toArray, List.set_cons_zero, List.set_cons_succ]
          refine wpAnyH_take (i := 10) (oi := { dst := some 27, op := Op.move (Operand.tmp 1), type := 30, pos := "ref.go:19", after := #[{ on := 2, ground := Ground.guard }], guard := some (2, true) }) (v := ?v10) rfl (by kernel_rfl) (by kernel_rfl) (by kernel_rfl) (fun _ _ _ h => h) (Or.inl ⟨by rfl, ?hy10⟩) (by assumption) ?rest10
          case hy10 => (intro w hSw; (try dsimp only at hSw); first | (go_simp; done) | (go_simp; with_reducible rfl))
          try simp only [Act.put, List.setIfInBounds_toArray, List.set_cons_zero, List.set_cons_succ]
          refine wpAnyH_ready (rs := [11]) (by kernel_rfl) (by simp) (AllReadyH.cons (o := { dst := some 28, op := Op.call { callee := Callee.value (Operand.func 38), args := #[Operand.tmp 26, Operand.tmp 27], argTypes := #[108, 30] }, type := 4, pos := "ref.go:19", after := #[{ on := 9, ground := Ground.data }, { on := 10, ground := Ground.data }, { on := 2, ground := Ground.chain }, { on := 2, ground := Ground.guard }], guard := some (2, true) }) rfl (fun K hK => ?step) AllReadyH.nil)
          go_simp
          go_at_call 38
          refine (HINS.out _ hHeld).mono ?_
          rintro e w3 ⟨rfl, hS3⟩
          try dsimp only
          refine hK.out _ _ hS3 (fun hHeld2 => ?_)
          clear hK K hHeld
          try simp only [Act.put, List.setIfInBounds_toArray, List.set_cons_zero, List.set_cons_succ]
          refine wpAnyH_take (i := 12) (oi := { dst := some 29, op := Op.pick (Operand.tmp 19) (Operand.tmp 28) (Operand.const (Value.bool false)), type := 4, pos := "ref.go:19", after := #[{ on := 2, ground := Ground.data }, { on := 11, ground := Ground.data }], guard := none }) (v := ?v12) rfl (by kernel_rfl) (by kernel_rfl) (by kernel_rfl) (fun _ _ _ h => h) (Or.inl ⟨by rfl, ?hy12⟩) (by assumption) ?rest12
          case hy12 => (intro w hSw; (try dsimp only at hSw); first | (go_simp; done) | (go_simp; with_reducible rfl))
          try simp only [Act.put, List.setIfInBounds_toArray, List.set_cons_zero, List.set_cons_succ]
          refine wpAnyH_take (i := 13) (oi := { dst := some 30, op := Op.move (Operand.tmp 29), type := 4, pos := "ref.go:19", after := #[{ on := 12, ground := Ground.data }, { on := 11, ground := Ground.chain }], guard := none }) (v := ?v13) rfl (by kernel_rfl) (by kernel_rfl) (by kernel_rfl) (fun _ _ _ h => h) (Or.inl ⟨by rfl, ?hy13⟩) (by assumption) ?rest13
          case hy13 => (intro w hSw; (try dsimp only at hSw); first | (go_simp; done) | (go_simp; with_reducible rfl))
          try simp only [Act.put, List.setIfInBounds_toArray, List.set_cons_zero, List.set_cons_succ]
          refine wpAnyH_take (i := 14) (oi := { dst := some 31, op := Op.move (Operand.tmp 2), type := 3, pos := "ref.go:19", after := #[{ on := 13, ground := Ground.guard }], guard := some (13, true) }) (v := undef) rfl (by kernel_rfl) (by kernel_rfl) (by kernel_rfl) (fun _ _ _ h => h) (Or.inr ⟨by rfl, rfl⟩) (by assumption) ?rest14
          try simp only [Act.put, List.setIfInBounds_toArray, List.set_cons_zero, List.set_cons_succ]
          refine wpAnyH_take (i := 15) (oi := { dst := some 32, op := Op.convert 3 30 (Operand.tmp 31), type := 30, pos := "ref.go:19", after := #[{ on := 14, ground := Ground.data }, { on := 13, ground := Ground.guard }], guard := some (13, true) }) (v := undef) rfl (by kernel_rfl) (by kernel_rfl) (by kernel_rfl) (fun _ _ _ h => h) (Or.inr ⟨by rfl, rfl⟩) (by assumption) ?rest15
          try simp only [Act.put, List.setIfInBounds_toArray, List.set_cons_zero, List.set_cons_succ]
          refine wpAnyH_take (i := 16) (oi := { dst := some 33, op := Op.move (Operand.tmp 0), type := 48, pos := "ref.go:19", after := #[{ on := 13, ground := Ground.guard }], guard := some (13, true) }) (v := undef) rfl (by kernel_rfl) (by kernel_rfl) (by kernel_rfl) (fun _ _ _ h => h) (Or.inr ⟨by rfl, rfl⟩) (by assumption) ?rest16
          try simp only [Act.put, List.setIfInBounds_toArray, List.set_cons_zero, List.set_cons_succ]
          refine wpAnyH_take (i := 17) (oi := { dst := some 34, op := Op.nilCheck (Operand.tmp 33), type := 0, pos := "ref.go:19", after := #[{ on := 16, ground := Ground.data }, { on := 13, ground := Ground.guard }], guard := some (13, true) }) (v := undef) rfl (by kernel_rfl) (by kernel_rfl) (by kernel_rfl) (fun _ _ _ h => h) (Or.inr ⟨by rfl, rfl⟩) (by assumption) ?rest17
          try simp only [Act.put, List.setIfInBounds_toArray, List.set_cons_zero, List.set_cons_succ]
          refine wpAnyH_take (i := 18) (oi := { dst := some 35, op := Op.fieldAddr 51 (Operand.tmp 34) 0, type := 0, pos := "ref.go:19", after := #[{ on := 17, ground := Ground.data }, { on := 13, ground := Ground.guard }], guard := some (13, true) }) (v := undef) rfl (by kernel_rfl) (by kernel_rfl) (by kernel_rfl) (fun _ _ _ h => h) (Or.inr ⟨by rfl, rfl⟩) (by assumption) ?rest18
          try simp only [Act.put, List.setIfInBounds_toArray, List.set_cons_zero, List.set_cons_succ]
          refine wpAnyH_take (i := 19) (oi := { dst := some 36, op := Op.load 49 (Operand.tmp 35), type := 49, pos := "ref.go:19", after := #[{ on := 18, ground := Ground.data }, { on := 13, ground := Ground.guard }], guard := some (13, true) }) (v := undef) rfl (by kernel_rfl) (by kernel_rfl) (by kernel_rfl) (fun _ _ _ h => h) (Or.inr ⟨by rfl, rfl⟩) (by assumption) ?rest19
          try simp only [Act.put, List.setIfInBounds_toArray, List.set_cons_zero, List.set_cons_succ]
          refine wpAnyH_take (i := 20) (oi := { dst := some 37, op := Op.move (Operand.tmp 7), type := 3, pos := "ref.go:19", after := #[{ on := 13, ground := Ground.guard }], guard := some (13, true) }) (v := undef) rfl (by kernel_rfl) (by kernel_rfl) (by kernel_rfl) (fun _ _ _ h => h) (Or.inr ⟨by rfl, rfl⟩) (by assumption) ?rest20
          try simp only [Act.put, List.setIfInBounds_toArray, List.set_cons_zero, List.set_cons_succ]
          refine wpAnyH_take (i := 21) (oi := { dst := some 38, op := Op.indexAddr 49 (Operand.tmp 36) (Operand.tmp 37), type := 0, pos := "ref.go:19", after := #[{ on := 19, ground := Ground.data }, { on := 20, ground := Ground.data }, { on := 13, ground := Ground.guard }], guard := some (13, true) }) (v := undef) rfl (by kernel_rfl) (by kernel_rfl) (by kernel_rfl) (fun _ _ _ h => h) (Or.inr ⟨by rfl, rfl⟩) (by assumption) ?rest21
          try simp only [Act.put, List.setIfInBounds_toArray, List.set_cons_zero, List.set_cons_succ]
          refine wpAnyH_take (i := 22) (oi := { dst := some 39, op := Op.fieldAddr 108 (Operand.tmp 38) 1, type := 0, pos := "ref.go:19", after := #[{ on := 21, ground := Ground.data }, { on := 13, ground := Ground.guard }], guard := some (13, true) }) (v := undef) rfl (by kernel_rfl) (by kernel_rfl) (by kernel_rfl) (fun _ _ _ h => h) (Or.inr ⟨by rfl, rfl⟩) (by assumption) ?rest22
          try simp only [Act.put, List.setIfInBounds_toArray, List.set_cons_zero, List.set_cons_succ]
          refine wpAnyH_take (i := 23) (oi := { dst := some 40, op := Op.load 26 (Operand.tmp 39), type := 26, pos := "ref.go:19", after := #[{ on := 22, ground := Ground.data }, { on := 13, ground := Ground.guard }], guard := some (13, true) }) (v := undef) rfl (by kernel_rfl) (by kernel_rfl) (by kernel_rfl) (fun _ _ _ h => h) (Or.inr ⟨by rfl, rfl⟩) (by assumption) ?rest23
          try simp only [Act.put, List.setIfInBounds_toArray, List.set_cons_zero, List.set_cons_succ]
          refine wpAnyH_take (i := 24) (oi := { dst := some 41, op := Op.call { callee := Callee.builtin Builtin.len, args := #[Operand.tmp 40], argTypes := #[26] }, type := 3, pos := "ref.go:19", after := #[{ on := 23, ground := Ground.data }, { on := 13, ground := Ground.guard }], guard := some (13, true) }) (v := undef) rfl (by kernel_rfl) (by kernel_rfl) (by kernel_rfl) (fun _ _ _ h => h) (Or.inr ⟨by rfl, rfl⟩) (by assumption) ?rest24
          try simp only [Act.put, List.setIfInBounds_toArray, List.set_cons_zero, List.set_cons_succ]
          refine wpAnyH_take (i := 25) (oi := { dst := some 42, op := Op.convert 3 30 (Operand.tmp 41), type := 30, pos := "ref.go:19", after := #[{ on := 24, ground := Ground.data }, { on := 13, ground := Ground.guard }], guard := some (13, true) }) (v := undef) rfl (by kernel_rfl) (by kernel_rfl) (by kernel_rfl) (fun _ _ _ h => h) (Or.inr ⟨by rfl, rfl⟩) (by assumption) ?rest25
          try simp only [Act.put, List.setIfInBounds_toArray, List.set_cons_zero, List.set_cons_succ]
          refine wpAnyH_take (i := 26) (oi := { dst := some 43, op := Op.move (Operand.tmp 1), type := 30, pos := "ref.go:19", after := #[{ on := 13, ground := Ground.guard }], guard := some (13, true) }) (v := undef) rfl (by kernel_rfl) (by kernel_rfl) (by kernel_rfl) (fun _ _ _ h => h) (Or.inr ⟨by rfl, rfl⟩) (by assumption) ?rest26
          try simp only [Act.put, List.setIfInBounds_toArray, List.set_cons_zero, List.set_cons_succ]
          refine wpAnyH_take (i := 27) (oi := { dst := some 44, op := Op.move (Operand.tmp 0), type := 48, pos := "ref.go:19", after := #[{ on := 13, ground := Ground.guard }], guard := some (13, true) }) (v := undef) rfl (by kernel_rfl) (by kernel_rfl) (by kernel_rfl) (fun _ _ _ h => h) (Or.inr ⟨by rfl, rfl⟩) (by assumption) ?rest27
          try simp only [Act.put, List.setIfInBounds_toArray, List.set_cons_zero, List.set_cons_succ]
          refine wpAnyH_take (i := 28) (oi := { dst := some 45, op := Op.nilCheck (Operand.tmp 44), type := 0, pos := "ref.go:19", after := #[{ on := 27, ground := Ground.data }, { on := 13, ground := Ground.guard }], guard := some (13, true) }) (v := undef) rfl (by kernel_rfl) (by kernel_rfl) (by kernel_rfl) (fun _ _ _ h => h) (Or.inr ⟨by rfl, rfl⟩) (by assumption) ?rest28
          try simp only [Act.put, List.setIfInBounds_toArray, List.set_cons_zero, List.set_cons_succ]
          refine wpAnyH_take (i := 29) (oi := { dst := some 46, op := Op.fieldAddr 51 (Operand.tmp 45) 0, type := 0, pos := "ref.go:19", after := #[{ on := 28, ground := Ground.data }, { on := 13, ground := Ground.guard }], guard := some (13, true) }) (v := undef) rfl (by kernel_rfl) (by kernel_rfl) (by kernel_rfl) (fun _ _ _ h => h) (Or.inr ⟨by rfl, rfl⟩) (by assumption) ?rest29
          try simp only [Act.put, List.setIfInBounds_toArray, List.set_cons_zero, List.set_cons_succ]
          refine wpAnyH_take (i := 30) (oi := { dst := some 47, op := Op.load 49 (Operand.tmp 46), type := 49, pos := "ref.go:19", after := #[{ on := 29, ground := Ground.data }, { on := 13, ground := Ground.guard }], guard := some (13, true) }) (v := undef) rfl (by kernel_rfl) (by kernel_rfl) (by kernel_rfl) (fun _ _ _ h => h) (Or.inr ⟨by rfl, rfl⟩) (by assumption) ?rest30
          try simp only [Act.put, List.setIfInBounds_toArray, List.set_cons_zero, List.set_cons_succ]
          refine wpAnyH_take (i := 31) (oi := { dst := some 48, op := Op.move (Operand.tmp 7), type := 3, pos := "ref.go:19", after := #[{ on := 13, ground := Ground.guard }], guard := some (13, true) }) (v := undef) rfl (by kernel_rfl) (by kernel_rfl) (by kernel_rfl) (fun _ _ _ h => h) (Or.inr ⟨by rfl, rfl⟩) (by assumption) ?rest31
          try simp only [Act.put, List.setIfInBounds_toArray, List.set_cons_zero, List.set_cons_succ]
          refine wpAnyH_take (i := 32) (oi := { dst := some 49, op := Op.indexAddr 49 (Operand.tmp 47) (Operand.tmp 48), type := 0, pos := "ref.go:19", after := #[{ on := 30, ground := Ground.data }, { on := 31, ground := Ground.data }, { on := 13, ground := Ground.guard }], guard := some (13, true) }) (v := undef) rfl (by kernel_rfl) (by kernel_rfl) (by kernel_rfl) (fun _ _ _ h => h) (Or.inr ⟨by rfl, rfl⟩) (by assumption) ?rest32
          try simp only [Act.put, List.setIfInBounds_toArray, List.set_cons_zero, List.set_cons_succ]
          refine wpAnyH_take (i := 33) (oi := { dst := some 50, op := Op.fieldAddr 108 (Operand.tmp 49) 0, type := 0, pos := "ref.go:19", after := #[{ on := 32, ground := Ground.data }, { on := 13, ground := Ground.guard }], guard := some (13, true) }) (v := undef) rfl (by kernel_rfl) (by kernel_rfl) (by kernel_rfl) (fun _ _ _ h => h) (Or.inr ⟨by rfl, rfl⟩) (by assumption) ?rest33
          try simp only [Act.put, List.setIfInBounds_toArray, List.set_cons_zero, List.set_cons_succ]
          refine wpAnyH_take (i := 34) (oi := { dst := some 51, op := Op.load 30 (Operand.tmp 50), type := 30, pos := "ref.go:19", after := #[{ on := 33, ground := Ground.data }, { on := 13, ground := Ground.guard }], guard := some (13, true) }) (v := undef) rfl (by kernel_rfl) (by kernel_rfl) (by kernel_rfl) (fun _ _ _ h => h) (Or.inr ⟨by rfl, rfl⟩) (by assumption) ?rest34
          try simp only [Act.put, List.setIfInBounds_toArray, List.set_cons_zero, List.set_cons_succ]
          refine wpAnyH_take (i := 35) (oi := { dst := some 52, op := Op.binOp BinOp.sub 30 (Operand.tmp 43) (Operand.tmp 51) 30, type := 30, pos := "ref.go:19", after := #[{ on := 26, ground := Ground.data }, { on := 34, ground := Ground.data }, { on := 13, ground := Ground.guard }], guard := some (13, true) }) (v := undef) rfl (by kernel_rfl) (by kernel_rfl) (by kernel_rfl) (fun _ _ _ h => h) (Or.inr ⟨by rfl, rfl⟩) (by assumption) ?rest35
          try simp only [Act.put, List.setIfInBounds_toArray, List.set_cons_zero, List.set_cons_succ]
          refine wpAnyH_take (i := 36) (oi := { dst := some 53, op := Op.binOp BinOp.sub 30 (Operand.tmp 42) (Operand.tmp 52) 30, type := 30, pos := "ref.go:19", after := #[{ on := 25, ground := Ground.data }, { on := 35, ground := Ground.data }, { on := 13, ground := Ground.guard }], guard := some (13, true) }) (v := undef) rfl (by kernel_rfl) (by kernel_rfl) (by kernel_rfl) (fun _ _ _ h => h) (Or.inr ⟨by rfl, rfl⟩) (by assumption) ?rest36
          try simp only [Act.put, List.setIfInBounds_toArray, List.set_cons_zero, List.set_cons_succ]
          refine wpAnyH_take (i := 37) (oi := { dst := some 54, op := Op.binOp BinOp.leq 30 (Operand.tmp 32) (Operand.tmp 53) 30, type := 4, pos := "ref.go:19", after := #[{ on := 15, ground := Ground.data }, { on := 36, ground := Ground.data }, { on := 13, ground := Ground.guard }], guard := some (13, true) }) (v := undef) rfl (by kernel_rfl) (by kernel_rfl) (by kernel_rfl) (fun _ _ _ h => h) (Or.inr ⟨by rfl, rfl⟩) (by assumption) ?rest37
          try simp only [Act.put, List.setIfInBounds_toArray, List.set_cons_zero, List.set_cons_succ]
          refine wpAnyH_take (i := 38) (oi := { dst := some 55, op := Op.pick (Operand.tmp 30) (Operand.tmp 54) (Operand.const (Value.bool false)), type := 4, pos := "ref.go:19", after := #[{ on := 13, ground := Ground.data }, { on := 37, ground := Ground.data }], guard := none }) (v := ?v38) rfl (by kernel_rfl) (by kernel_rfl) (by kernel_rfl) (fun _ _ _ h => h) (Or.inl ⟨by rfl, ?hy38⟩) (by assumption) ?rest38
          case hy38 => (intro w hSw; (try dsimp only at hSw); first | (go_simp; done) | (go_simp; with_reducible rfl))
          try simp only [Act.put, List.setIfInBounds_toArray, List.set_cons_zero, List.set_cons_succ]
          refine wpAnyH_done (by kernel_rfl) ?_ _
          have HB3 : Aside0 (Below X.heap.size X w3) := ⟨HBw.out.trans (hS3.2.2.2.mono HBw.out.size)⟩
          clear hS3 hHeld2
          go_wp2_with fail
          exact ⟨⟨k + 1, by omega, by congr 1, HB3, HF⟩, by simp [intOf]; omega⟩
        | true =>
          rw [hins] at HINS
          have HHIT : Aside0 (insB r a = true) := ⟨hins⟩
          clear hins
          go_wp2_with fail
          refine wp_region_held_drew (S := (fun w' => w'.cell? ⟨b, 0, none⟩ = some (.slice (some ⟨g, 0, none⟩) R.length c) ∧ w'.cell? ⟨g, k * 2, none⟩ = some (.int .u64 r.base) ∧ w'.cell? ⟨g, k * 2 + 1, none⟩ = some (.slice (some ⟨p.1, 0, none⟩) r.data.length p.2) ∧ Below wr.heap.size wr w')) (by kernel_rfl) ⟨hmd, hcd0, hcd1, HBwr.out⟩ (fun hHeld => ?_)
          refine wpAnyH_take (i := 0) (oi := { dst := some 17, op := Op.move (Operand.tmp 2), type := 3, pos := "ref.go:19", after := #[], guard := none }) (v := ?vt0) rfl (by kernel_rfl) (by kernel_rfl) (by kernel_rfl) (fun _ _ _ h => h) (Or.inl ⟨by rfl, ?hyt0⟩) (by assumption) ?restt0
          case hyt0 => (intro w hSw; (try dsimp only at hSw); first | (go_simp; done) | (go_simp; with_reducible rfl))
          try simp only [Act.put, List.setIfInBounds_toArray, List.set_cons_zero, List.set_cons_succ]
          refine wpAnyH_take (i := 1) (oi := { dst := some 18, op := Op.binOp BinOp.geq 3 (Operand.tmp 17) (Operand.const (Value.int IntKind.i64 1)) 3, type := 4, pos := "ref.go:19", after := #[{ on := 0, ground := Ground.data }], guard := none }) (v := ?vt1) rfl (by kernel_rfl) (by kernel_rfl) (by kernel_rfl) (fun _ _ _ h => h) (Or.inl ⟨by rfl, ?hyt1⟩) (by assumption) ?restt1
          case hyt1 => (intro w hSw; (try dsimp only at hSw); first | (go_simp; done) | (go_simp; with_reducible rfl))
          try simp only [Act.put, List.setIfInBounds_toArray, List.set_cons_zero, List.set_cons_succ]
          refine wpAnyH_take (i := 2) (oi := { dst := some 19, op := Op.move (Operand.tmp 18), type := 4, pos := "ref.go:19", after := #[{ on := 1, ground := Ground.data }], guard := none }) (v := ?vt2) rfl (by kernel_rfl) (by kernel_rfl) (by kernel_rfl) (fun _ _ _ h => h) (Or.inl ⟨by rfl, ?hyt2⟩) (by assumption) ?restt2
          case hyt2 => (intro w hSw; (try dsimp only at hSw); first | (go_simp; done) | (go_simp; with_reducible rfl))
          try simp only [Act.put, List.setIfInBounds_toArray, List.set_cons_zero, List.set_cons_succ]
          refine wpAnyH_take (i := 3) (oi := { dst := some 20, op := Op.move (Operand.tmp 0), type := 48, pos := "ref.go:19", after := #[{ on := 2, ground := Ground.guard }], guard := some (2, true) }) (v := ?vt3) rfl (by kernel_rfl) (by kernel_rfl) (by kernel_rfl) (fun _ _ _ h => h) (Or.inl ⟨by rfl, ?hyt3⟩) (by assumption) ?restt3
          case hyt3 => (intro w hSw; (try dsimp only at hSw); first | (go_simp; done) | (go_simp; with_reducible rfl))
          try simp only [Act.put, List.setIfInBounds_toArray, List.set_cons_zero, List.set_cons_succ]
          refine wpAnyH_take (i := 4) (oi := { dst := some 21, op := Op.nilCheck (Operand.tmp 20), type := 0, pos := "ref.go:19", after := #[{ on := 3, ground := Ground.data }, { on := 2, ground := Ground.guard }], guard := some (2, true) }) (v := ?vt4) rfl (by kernel_rfl) (by kernel_rfl) (by kernel_rfl) (fun _ _ _ h => h) (Or.inl ⟨by rfl, ?hyt4⟩) (by assumption) ?restt4
          case hyt4 => (intro w hSw; (try dsimp only at hSw); first | (go_simp; done) | (go_simp; with_reducible rfl))
          try simp only [Act.put, List.setIfInBounds_toArray, List.set_cons_zero, List.set_cons_succ]
          refine wpAnyH_take (i := 5) (oi := { dst := some 22, op := Op.fieldAddr 51 (Operand.tmp 21) 0, type := 0, pos := "ref.go:19", after := #[{ on := 4, ground := Ground.data }, { on := 2, ground := Ground.guard }], guard := some (2, true) }) (v := ?vt5) rfl (by kernel_rfl) (by kernel_rfl) (by kernel_rfl) (fun _ _ _ h => h) (Or.inl ⟨by rfl, ?hyt5⟩) (by assumption) ?restt5
          case hyt5 => (intro w hSw; (try dsimp only at hSw); first | (go_simp; done) | (go_simp; with_reducible rfl))
          try simp only [Act.put, List.setIfInBounds_toArray, List.set_cons_zero, List.set_cons_succ]
          refine wpAnyH_take (i := 6) (oi := { dst := some 23, op := Op.load 49 (Operand.tmp 22), type := 49, pos := "ref.go:19", after := #[{ on := 5, ground := Ground.data }, { on := 2, ground := Ground.guard }], guard := some (2, true) }) (v := ?vt6) rfl (by kernel_rfl) (by kernel_rfl) (by kernel_rfl) (fun _ _ _ h => h) (Or.inl ⟨by rfl, ?hyt6⟩) (by assumption) ?restt6
          case hyt6 => (intro w hSw; (try dsimp only at hSw); first | (go_simp; done) | (go_simp; with_reducible rfl))
          try simp only [Act.put, List.setIfInBounds_toArray, List.set_cons_zero, List.set_cons_succ]
          refine wpAnyH_take (i := 7) (oi := { dst := some 24, op := Op.move (Operand.tmp 7), type := 3, pos := "ref.go:19", after := #[{ on := 2, ground := Ground.guard }], guard := some (2, true) }) (v := ?vt7) rfl (by kernel_rfl) (by kernel_rfl) (by kernel_rfl) (fun _ _ _ h => h) (Or.inl ⟨by rfl, ?hyt7⟩) (by assumption) ?restt7
          case hyt7 => (intro w hSw; (try dsimp only at hSw); first | (go_simp; done) | (go_simp; with_reducible rfl))
          try simp only [Act.put, List.setIfInBounds_toArray, List.set_cons_zero, List.set_cons_succ]
          refine wpAnyH_take (i := 8) (oi := { dst := some 25, op := Op.indexAddr 49 (Operand.tmp 23) (Operand.tmp 24), type := 0, pos := "ref.go:19", after := #[{ on := 6, ground := Ground.data }, { on := 7, ground := Ground.data }, { on := 2, ground := Ground.guard }], guard := some (2, true) }) (v := ?vt8) rfl (by kernel_rfl) (by kernel_rfl) (by kernel_rfl) (fun _ _ _ h => h) (Or.inl ⟨by rfl, ?hyt8⟩) (by assumption) ?restt8
          case hyt8 => (intro w hSw; (try dsimp only at hSw); first | (go_simp; done) | (go_simp; with_reducible rfl))
          try simp only [Act.put, List.setIfInBounds_toArray, List.set_cons_zero, List.set_cons_succ]
          refine wpAnyH_take (i := 9) (oi := { dst := some 26, op := Op.load 108 (Operand.tmp 25), type := 108, pos := "ref.go:19", after := #[{ on := 8, ground := Ground.data }, { on := 2, ground := Ground.guard }], guard := some (2, true) }) (v := ?vt9) rfl (by kernel_rfl) (by kernel_rfl) (by kernel_rfl) (fun _ _ _ h => h) (Or.inl ⟨by rfl, ?hyt9⟩) (by assumption) ?restt9
          case hyt9 => (intro w hSw; (try dsimp only at hSw); first | (go_simp; done) | (go_simp; with_reducible rfl))
          try simp only [Act.put, List.setIfInBounds_toArray, List.set_cons_zero, List.set_cons_succ]
          refine wpAnyH_take (i := 10) (oi := { dst := some 27, op := Op.move (Operand.tmp 1), type := 30, pos := "ref.go:19", after := #[{ on := 2, ground := Ground.guard }], guard := some (2, true) }) (v := ?vt10) rfl (by kernel_rfl) (by kernel_rfl) (by kernel_rfl) (fun _ _ _ h => h) (Or.inl ⟨by rfl, ?hyt10⟩) (by assumption) ?restt10
          case hyt10 => (intro w hSw; (try dsimp only at hSw); first | (go_simp; done) | (go_simp; with_reducible rfl))
          try simp only [Act.put, List.setIfInBounds_toArray, List.set_cons_zero, List.set_cons_succ]
          refine wpAnyH_ready (rs := [11]) (by kernel_rfl) (by simp) (AllReadyH.cons (o := { dst := some 28, op := Op.call { callee := Callee.value (Operand.func 38), args := #[Operand.tmp 26, Operand.tmp 27], argTypes := #[108, 30] }, type := 4, pos := "ref.go:19", after := #[{ on := 9, ground := Ground.data }, { on := 10, ground := Ground.data }, { on := 2, ground := Ground.chain }, { on := 2, ground := Ground.guard }], guard := some (2, true) }) rfl (fun K hK => ?stept) AllReadyH.nil)
          go_simp
          go_at_call 38
          refine (HINS.out _ hHeld).mono ?_
          rintro e w3 ⟨rfl, hS3⟩
          try dsimp only
          refine hK.out _ _ hS3 (fun hHeld2 => ?_)
          clear hK K hHeld
          try simp only [Act.put, List.setIfInBounds_toArray, List.set_cons_zero, List.set_cons_succ]
          refine wpAnyH_take (i := 12) (oi := { dst := some 29, op := Op.pick (Operand.tmp 19) (Operand.tmp 28) (Operand.const (Value.bool false)), type := 4, pos := "ref.go:19", after := #[{ on := 2, ground := Ground.data }, { on := 11, ground := Ground.data }], guard := none }) (v := ?vt12) rfl (by kernel_rfl) (by kernel_rfl) (by kernel_rfl) (fun _ _ _ h => h) (Or.inl ⟨by rfl, ?hyt12⟩) (by assumption) ?restt12
          case hyt12 => (intro w hSw; (try dsimp only at hSw); first | (go_simp; done) | (go_simp; with_reducible rfl))
          try simp only [Act.put, List.setIfInBounds_toArray, List.set_cons_zero, List.set_cons_succ]
          refine wpAnyH_take (i := 13) (oi := { dst := some 30, op := Op.move (Operand.tmp 29), type := 4, pos := "ref.go:19", after := #[{ on := 12, ground := Ground.data }, { on := 11, ground := Ground.chain }], guard := none }) (v := ?vt13) rfl (by kernel_rfl) (by kernel_rfl) (by kernel_rfl) (fun _ _ _ h => h) (Or.inl ⟨by rfl, ?hyt13⟩) (by assumption) ?restt13
          case hyt13 => (intro w hSw; (try dsimp only at hSw); first | (go_simp; done) | (go_simp; with_reducible rfl))
          try simp only [Act.put, List.setIfInBounds_toArray, List.set_cons_zero, List.set_cons_succ]
          refine wpAnyH_take (i := 14) (oi := { dst := some 31, op := Op.move (Operand.tmp 2), type := 3, pos := "ref.go:19", after := #[{ on := 13, ground := Ground.guard }], guard := some (13, true) }) (v := ?vt14) rfl (by kernel_rfl) (by kernel_rfl) (by kernel_rfl) (fun _ _ _ h => h) (Or.inl ⟨by rfl, ?hyt14⟩) (by assumption) ?restt14
          case hyt14 => (intro w hSw; (try dsimp only at hSw); first | (go_simp; done) | (go_simp; with_reducible rfl))
          try simp only [Act.put, List.setIfInBounds_toArray, List.set_cons_zero, List.set_cons_succ]
          refine wpAnyH_take (i := 15) (oi := { dst := some 32, op := Op.convert 3 30 (Operand.tmp 31), type := 30, pos := "ref.go:19", after := #[{ on := 14, ground := Ground.data }, { on := 13, ground := Ground.guard }], guard := some (13, true) }) (v := ?vt15) rfl (by kernel_rfl) (by kernel_rfl) (by kernel_rfl) (fun _ _ _ h => h) (Or.inl ⟨by rfl, ?hyt15⟩) (by assumption) ?restt15
          case hyt15 => (intro w hSw; (try dsimp only at hSw); first | (go_simp; done) | (go_simp; with_reducible rfl))
          try simp only [Act.put, List.setIfInBounds_toArray, List.set_cons_zero, List.set_cons_succ]
          refine wpAnyH_take (i := 16) (oi := { dst := some 33, op := Op.move (Operand.tmp 0), type := 48, pos := "ref.go:19", after := #[{ on := 13, ground := Ground.guard }], guard := some (13, true) }) (v := ?vt16) rfl (by kernel_rfl) (by kernel_rfl) (by kernel_rfl) (fun _ _ _ h => h) (Or.inl ⟨by rfl, ?hyt16⟩) (by assumption) ?restt16
          case hyt16 => (intro w hSw; (try dsimp only at hSw); first | (go_simp; done) | (go_simp; with_reducible rfl))
          try simp only [Act.put, List.setIfInBounds_toArray, List.set_cons_zero, List.set_cons_succ]
          refine wpAnyH_take (i := 17) (oi := { dst := some 34, op := Op.nilCheck (Operand.tmp 33), type := 0, pos := "ref.go:19", after := #[{ on := 16, ground := Ground.data }, { on := 13, ground := Ground.guard }], guard := some (13, true) }) (v := ?vt17) rfl (by kernel_rfl) (by kernel_rfl) (by kernel_rfl) (fun _ _ _ h => h) (Or.inl ⟨by rfl, ?hyt17⟩) (by assumption) ?restt17
          case hyt17 => (intro w hSw; (try dsimp only at hSw); first | (go_simp; done) | (go_simp; with_reducible rfl))
          try simp only [Act.put, List.setIfInBounds_toArray, List.set_cons_zero, List.set_cons_succ]
          refine wpAnyH_take (i := 18) (oi := { dst := some 35, op := Op.fieldAddr 51 (Operand.tmp 34) 0, type := 0, pos := "ref.go:19", after := #[{ on := 17, ground := Ground.data }, { on := 13, ground := Ground.guard }], guard := some (13, true) }) (v := ?vt18) rfl (by kernel_rfl) (by kernel_rfl) (by kernel_rfl) (fun _ _ _ h => h) (Or.inl ⟨by rfl, ?hyt18⟩) (by assumption) ?restt18
          case hyt18 => (intro w hSw; (try dsimp only at hSw); first | (go_simp; done) | (go_simp; with_reducible rfl))
          try simp only [Act.put, List.setIfInBounds_toArray, List.set_cons_zero, List.set_cons_succ]
          refine wpAnyH_take (i := 19) (oi := { dst := some 36, op := Op.load 49 (Operand.tmp 35), type := 49, pos := "ref.go:19", after := #[{ on := 18, ground := Ground.data }, { on := 13, ground := Ground.guard }], guard := some (13, true) }) (v := ?vt19) rfl (by kernel_rfl) (by kernel_rfl) (by kernel_rfl) (fun _ _ _ h => h) (Or.inl ⟨by rfl, ?hyt19⟩) (by assumption) ?restt19
          case hyt19 => (intro w hSw; (try dsimp only at hSw); first | (go_simp; done) | (go_simp; with_reducible rfl))
          try simp only [Act.put, List.setIfInBounds_toArray, List.set_cons_zero, List.set_cons_succ]
          refine wpAnyH_take (i := 20) (oi := { dst := some 37, op := Op.move (Operand.tmp 7), type := 3, pos := "ref.go:19", after := #[{ on := 13, ground := Ground.guard }], guard := some (13, true) }) (v := ?vt20) rfl (by kernel_rfl) (by kernel_rfl) (by kernel_rfl) (fun _ _ _ h => h) (Or.inl ⟨by rfl, ?hyt20⟩) (by assumption) ?restt20
          case hyt20 => (intro w hSw; (try dsimp only at hSw); first | (go_simp; done) | (go_simp; with_reducible rfl))
          try simp only [Act.put, List.setIfInBounds_toArray, List.set_cons_zero, List.set_cons_succ]
          refine wpAnyH_take (i := 21) (oi := { dst := some 38, op := Op.indexAddr 49 (Operand.tmp 36) (Operand.tmp 37), type := 0, pos := "ref.go:19", after := #[{ on := 19, ground := Ground.data }, { on := 20, ground := Ground.data }, { on := 13, ground := Ground.guard }], guard := some (13, true) }) (v := ?vt21) rfl (by kernel_rfl) (by kernel_rfl) (by kernel_rfl) (fun _ _ _ h => h) (Or.inl ⟨by rfl, ?hyt21⟩) (by assumption) ?restt21
          case hyt21 => (intro w hSw; (try dsimp only at hSw); first | (go_simp; done) | (go_simp; with_reducible rfl))
          try simp only [Act.put, List.setIfInBounds_toArray, List.set_cons_zero, List.set_cons_succ]
          refine wpAnyH_take (i := 22) (oi := { dst := some 39, op := Op.fieldAddr 108 (Operand.tmp 38) 1, type := 0, pos := "ref.go:19", after := #[{ on := 21, ground := Ground.data }, { on := 13, ground := Ground.guard }], guard := some (13, true) }) (v := ?vt22) rfl (by kernel_rfl) (by kernel_rfl) (by kernel_rfl) (fun _ _ _ h => h) (Or.inl ⟨by rfl, ?hyt22⟩) (by assumption) ?restt22
          case hyt22 => (intro w hSw; (try dsimp only at hSw); first | (go_simp; done) | (go_simp; with_reducible rfl))
          try simp only [Act.put, List.setIfInBounds_toArray, List.set_cons_zero, List.set_cons_succ]
          refine wpAnyH_take (i := 23) (oi := { dst := some 40, op := Op.load 26 (Operand.tmp 39), type := 26, pos := "ref.go:19", after := #[{ on := 22, ground := Ground.data }, { on := 13, ground := Ground.guard }], guard := some (13, true) }) (v := ?vt23) rfl (by kernel_rfl) (by kernel_rfl) (by kernel_rfl) (fun _ _ _ h => h) (Or.inl ⟨by rfl, ?hyt23⟩) (by assumption) ?restt23
          case hyt23 => (intro w hSw; (try dsimp only at hSw); first | (go_simp; done) | (go_simp; with_reducible rfl))
          try simp only [Act.put, List.setIfInBounds_toArray, List.set_cons_zero, List.set_cons_succ]
          refine wpAnyH_take (i := 24) (oi := { dst := some 41, op := Op.call { callee := Callee.builtin Builtin.len, args := #[Operand.tmp 40], argTypes := #[26] }, type := 3, pos := "ref.go:19", after := #[{ on := 23, ground := Ground.data }, { on := 13, ground := Ground.guard }], guard := some (13, true) }) (v := ?vt24) rfl (by kernel_rfl) (by kernel_rfl) (by kernel_rfl) (fun _ _ _ h => h) (Or.inl ⟨by rfl, ?hyt24⟩) (by assumption) ?restt24
          case hyt24 => (intro w hSw; (try dsimp only at hSw); first | (go_simp; done) | (go_simp; with_reducible rfl))
          try simp only [Act.put, List.setIfInBounds_toArray, List.set_cons_zero, List.set_cons_succ]
          refine wpAnyH_take (i := 25) (oi := { dst := some 42, op := Op.convert 3 30 (Operand.tmp 41), type := 30, pos := "ref.go:19", after := #[{ on := 24, ground := Ground.data }, { on := 13, ground := Ground.guard }], guard := some (13, true) }) (v := ?vt25) rfl (by kernel_rfl) (by kernel_rfl) (by kernel_rfl) (fun _ _ _ h => h) (Or.inl ⟨by rfl, ?hyt25⟩) (by assumption) ?restt25
          case hyt25 => (intro w hSw; (try dsimp only at hSw); first | (go_simp; done) | (go_simp; with_reducible rfl))
          try simp only [Act.put, List.setIfInBounds_toArray, List.set_cons_zero, List.set_cons_succ]
          refine wpAnyH_take (i := 26) (oi := { dst := some 43, op := Op.move (Operand.tmp 1), type := 30, pos := "ref.go:19", after := #[{ on := 13, ground := Ground.guard }], guard := some (13, true) }) (v := ?vt26) rfl (by kernel_rfl) (by kernel_rfl) (by kernel_rfl) (fun _ _ _ h => h) (Or.inl ⟨by rfl, ?hyt26⟩) (by assumption) ?restt26
          case hyt26 => (intro w hSw; (try dsimp only at hSw); first | (go_simp; done) | (go_simp; with_reducible rfl))
          try simp only [Act.put, List.setIfInBounds_toArray, List.set_cons_zero, List.set_cons_succ]
          refine wpAnyH_take (i := 27) (oi := { dst := some 44, op := Op.move (Operand.tmp 0), type := 48, pos := "ref.go:19", after := #[{ on := 13, ground := Ground.guard }], guard := some (13, true) }) (v := ?vt27) rfl (by kernel_rfl) (by kernel_rfl) (by kernel_rfl) (fun _ _ _ h => h) (Or.inl ⟨by rfl, ?hyt27⟩) (by assumption) ?restt27
          case hyt27 => (intro w hSw; (try dsimp only at hSw); first | (go_simp; done) | (go_simp; with_reducible rfl))
          try simp only [Act.put, List.setIfInBounds_toArray, List.set_cons_zero, List.set_cons_succ]
          refine wpAnyH_take (i := 28) (oi := { dst := some 45, op := Op.nilCheck (Operand.tmp 44), type := 0, pos := "ref.go:19", after := #[{ on := 27, ground := Ground.data }, { on := 13, ground := Ground.guard }], guard := some (13, true) }) (v := ?vt28) rfl (by kernel_rfl) (by kernel_rfl) (by kernel_rfl) (fun _ _ _ h => h) (Or.inl ⟨by rfl, ?hyt28⟩) (by assumption) ?restt28
          case hyt28 => (intro w hSw; (try dsimp only at hSw); first | (go_simp; done) | (go_simp; with_reducible rfl))
          try simp only [Act.put, List.setIfInBounds_toArray, List.set_cons_zero, List.set_cons_succ]
          refine wpAnyH_take (i := 29) (oi := { dst := some 46, op := Op.fieldAddr 51 (Operand.tmp 45) 0, type := 0, pos := "ref.go:19", after := #[{ on := 28, ground := Ground.data }, { on := 13, ground := Ground.guard }], guard := some (13, true) }) (v := ?vt29) rfl (by kernel_rfl) (by kernel_rfl) (by kernel_rfl) (fun _ _ _ h => h) (Or.inl ⟨by rfl, ?hyt29⟩) (by assumption) ?restt29
          case hyt29 => (intro w hSw; (try dsimp only at hSw); first | (go_simp; done) | (go_simp; with_reducible rfl))
          try simp only [Act.put, List.setIfInBounds_toArray, List.set_cons_zero, List.set_cons_succ]
          refine wpAnyH_take (i := 30) (oi := { dst := some 47, op := Op.load 49 (Operand.tmp 46), type := 49, pos := "ref.go:19", after := #[{ on := 29, ground := Ground.data }, { on := 13, ground := Ground.guard }], guard := some (13, true) }) (v := ?vt30) rfl (by kernel_rfl) (by kernel_rfl) (by kernel_rfl) (fun _ _ _ h => h) (Or.inl ⟨by rfl, ?hyt30⟩) (by assumption) ?restt30
          case hyt30 => (intro w hSw; (try dsimp only at hSw); first | (go_simp; done) | (go_simp; with_reducible rfl))
          try simp only [Act.put, List.setIfInBounds_toArray, List.set_cons_zero, List.set_cons_succ]
          refine wpAnyH_take (i := 31) (oi := { dst := some 48, op := Op.move (Operand.tmp 7), type := 3, pos := "ref.go:19", after := #[{ on := 13, ground := Ground.guard }], guard := some (13, true) }) (v := ?vt31) rfl (by kernel_rfl) (by kernel_rfl) (by kernel_rfl) (fun _ _ _ h => h) (Or.inl ⟨by rfl, ?hyt31⟩) (by assumption) ?restt31
          case hyt31 => (intro w hSw; (try dsimp only at hSw); first | (go_simp; done) | (go_simp; with_reducible rfl))
          try simp only [Act.put, List.setIfInBounds_toArray, List.set_cons_zero, List.set_cons_succ]
          refine wpAnyH_take (i := 32) (oi := { dst := some 49, op := Op.indexAddr 49 (Operand.tmp 47) (Operand.tmp 48), type := 0, pos := "ref.go:19", after := #[{ on := 30, ground := Ground.data }, { on := 31, ground := Ground.data }, { on := 13, ground := Ground.guard }], guard := some (13, true) }) (v := ?vt32) rfl (by kernel_rfl) (by kernel_rfl) (by kernel_rfl) (fun _ _ _ h => h) (Or.inl ⟨by rfl, ?hyt32⟩) (by assumption) ?restt32
          case hyt32 => (intro w hSw; (try dsimp only at hSw); first | (go_simp; done) | (go_simp; with_reducible rfl))
          try simp only [Act.put, List.setIfInBounds_toArray, List.set_cons_zero, List.set_cons_succ]
          refine wpAnyH_take (i := 33) (oi := { dst := some 50, op := Op.fieldAddr 108 (Operand.tmp 49) 0, type := 0, pos := "ref.go:19", after := #[{ on := 32, ground := Ground.data }, { on := 13, ground := Ground.guard }], guard := some (13, true) }) (v := ?vt33) rfl (by kernel_rfl) (by kernel_rfl) (by kernel_rfl) (fun _ _ _ h => h) (Or.inl ⟨by rfl, ?hyt33⟩) (by assumption) ?restt33
          case hyt33 => (intro w hSw; (try dsimp only at hSw); first | (go_simp; done) | (go_simp; with_reducible rfl))
          try simp only [Act.put, List.setIfInBounds_toArray, List.set_cons_zero, List.set_cons_succ]
          refine wpAnyH_take (i := 34) (oi := { dst := some 51, op := Op.load 30 (Operand.tmp 50), type := 30, pos := "ref.go:19", after := #[{ on := 33, ground := Ground.data }, { on := 13, ground := Ground.guard }], guard := some (13, true) }) (v := ?vt34) rfl (by kernel_rfl) (by kernel_rfl) (by kernel_rfl) (fun _ _ _ h => h) (Or.inl ⟨by rfl, ?hyt34⟩) (by assumption) ?restt34
          case hyt34 => (intro w hSw; (try dsimp only at hSw); first | (go_simp; done) | (go_simp; with_reducible rfl))
          try simp only [Act.put, List.setIfInBounds_toArray, List.set_cons_zero, List.set_cons_succ]
          refine wpAnyH_take (i := 35) (oi := { dst := some 52, op := Op.binOp BinOp.sub 30 (Operand.tmp 43) (Operand.tmp 51) 30, type := 30, pos := "ref.go:19", after := #[{ on := 26, ground := Ground.data }, { on := 34, ground := Ground.data }, { on := 13, ground := Ground.guard }], guard := some (13, true) }) (v := ?vt35) rfl (by kernel_rfl) (by kernel_rfl) (by kernel_rfl) (fun _ _ _ h => h) (Or.inl ⟨by rfl, ?hyt35⟩) (by assumption) ?restt35
          case hyt35 => (intro w hSw; (try dsimp only at hSw); first | (go_simp; done) | (go_simp; with_reducible rfl))
          try simp only [Act.put, List.setIfInBounds_toArray, List.set_cons_zero, List.set_cons_succ]
          refine wpAnyH_take (i := 36) (oi := { dst := some 53, op := Op.binOp BinOp.sub 30 (Operand.tmp 42) (Operand.tmp 52) 30, type := 30, pos := "ref.go:19", after := #[{ on := 25, ground := Ground.data }, { on := 35, ground := Ground.data }, { on := 13, ground := Ground.guard }], guard := some (13, true) }) (v := ?vt36) rfl (by kernel_rfl) (by kernel_rfl) (by kernel_rfl) (fun _ _ _ h => h) (Or.inl ⟨by rfl, ?hyt36⟩) (by assumption) ?restt36
          case hyt36 => (intro w hSw; (try dsimp only at hSw); first | (go_simp; done) | (go_simp; with_reducible rfl))
          try simp only [Act.put, List.setIfInBounds_toArray, List.set_cons_zero, List.set_cons_succ]
          refine wpAnyH_take (i := 37) (oi := { dst := some 54, op := Op.binOp BinOp.leq 30 (Operand.tmp 32) (Operand.tmp 53) 30, type := 4, pos := "ref.go:19", after := #[{ on := 15, ground := Ground.data }, { on := 36, ground := Ground.data }, { on := 13, ground := Ground.guard }], guard := some (13, true) }) (v := ?vt37) rfl (by kernel_rfl) (by kernel_rfl) (by kernel_rfl) (fun _ _ _ h => h) (Or.inl ⟨by rfl, ?hyt37⟩) (by assumption) ?restt37
          case hyt37 => (intro w hSw; (try dsimp only at hSw); first | (go_simp; done) | (go_simp; with_reducible rfl))
          try simp only [Act.put, List.setIfInBounds_toArray, List.set_cons_zero, List.set_cons_succ]
          refine wpAnyH_take (i := 38) (oi := { dst := some 55, op := Op.pick (Operand.tmp 30) (Operand.tmp 54) (Operand.const (Value.bool false)), type := 4, pos := "ref.go:19", after := #[{ on := 13, ground := Ground.data }, { on := 37, ground := Ground.data }], guard := none }) (v := ?vt38) rfl (by kernel_rfl) (by kernel_rfl) (by kernel_rfl) (fun _ _ _ h => h) (Or.inl ⟨by rfl, ?hyt38⟩) (by assumption) ?restt38
          case hyt38 => (intro w hSw; (try dsimp only at hSw); first | (go_simp; done) | (go_simp; with_reducible rfl))
          try simp only [Act.put, List.setIfInBounds_toArray, List.set_cons_zero, List.set_cons_succ]
          refine wpAnyH_done (by kernel_rfl) ?_ _
          have HB3 : Aside0 (Below X.heap.size X w3) := ⟨HBw.out.trans (hS3.2.2.2.mono HBw.out.size)⟩
          clear hS3 hHeld2
          have hcmp : decide (IntKind.u64.wrap n ≤ IntKind.u64.wrap (IntKind.u64.wrap (r.data.length : Int) - IntKind.u64.wrap (a - r.base))) = hitR a n r := by
            have h1 := of_decide_eq_true HHIT.out
            have h2 := HOK.out.short
            have h3 := HN.out
            have h4 := HA.out
            have h5 := HOK.out.lo
            rw [u64_mod n, u64_mod (r.data.length : Int), u64_mod (a - r.base), Int.emod_eq_of_lt (a := n) (by omega) (by omega), Int.emod_eq_of_lt (a := (r.data.length : Int)) (by omega) (by omega), Int.emod_eq_of_lt (a := a - r.base) (by omega) (by omega), u64_mod, Int.emod_eq_of_lt (by omega) (by omega)]
            cases hh : hitR a n r with
            | true => exact decide_eq_true (hit_ins.1 hh).2.2
            | false => exact decide_eq_false (fun h => by rw [hit_ins.2 ⟨by omega, HHIT.out, h⟩] at hh; cases hh)
          cases hh : hitR a n r with
          | true =>
            have HF := Aside0.mk (find_at HR.out hh HJ.out)
            rw [hh] at hcmp
            have hle := of_decide_eq_true hcmp
            clear hh hcmp
            go_wp2_with fail
            go_ret
            exact ⟨by rw [HF.out]; rfl, HB3.out⟩
          | false =>
            have HF := Aside0.mk (HNEXT.out hh)
            rw [hh] at hcmp
            have hlt2 := Int.not_le.1 (of_decide_eq_false hcmp)
            clear hh hcmp
            go_wp2_with fail
            exact ⟨⟨k + 1, by omega, by congr 1, HB3, HF⟩, by simp [intOf]; omega⟩
    · obtain rfl : k = R.length := by omega
      have HF := Aside0.mk (find_not HJ.out)
      go_wp2_with fail
      go_ret
      exact ⟨by rw [HF.out]; rfl, HB.out⟩
end Go.Proofs.YtomnfkihieinbaaDoor.PAll
/- The reference's Bytes. -/
set_option linter.unusedVariables false
set_option linter.unusedSimpArgs false
namespace Go.Proofs.YtomnfkihieinbaaDoor.PAll
open Go.RowKit Go.Shelf Go.Proofs.YtomnfkihieinbaaDoorW.PrintWords Go.Proofs.YtomnfkihieinbaaDoorW.PrintLast Go.Proofs.YtomnfkihieinbaaDoorW.PrintMore
theorem findR_none {R : List Reg} {a n : Int} (h : R.findIdx? (hitR a n) = none) : findR R a n = -1 := by unfold findR; rw [h]
theorem findR_some {R : List Reg} {a n : Int} {k : Nat} (h : R.findIdx? (hitR a n) = some k) : findR R a n = k := by unfold findR; rw [h]
set_option maxHeartbeats 2000000 in
set_option maxRecDepth 100000 in
theorem ref_Bytes_none (X : World) (B : Nat) (own : Nat → Prop) (b : Nat) (R : List Reg) (v : Value) (ps : List (Nat × Nat)) (a n : Int) (h : RefIn X B own b R v ps) (hW : ∀ r ∈ R, Ok r) (hl : R.length ≤ 1000000) (ha0 : 0 ≤ a) (ha1 : a < 18446744073709551616) (hn0 : -9223372036854775808 ≤ n) (hn1 : n < 9223372036854775808) (hf : R.findIdx? (hitR a n) = none) :
    Calls Tryd.prog 40 #[.pointer (some ⟨b, 0, none⟩), .int .u64 a, .int .i64 n] X fun e X' => e = .returned (.tuple #[.slice none 0 0, .bool false]) ∧ Below X.heap.size X X' := by
  have HF := Aside0.mk (ref_Find X B own b R v ps a n h hW hl ha0 ha1 hn0 hn1)
  rw [findR_none hf] at HF
  clear h hW ha0 ha1 hn0 hn1 hf
  go_enter Tryd.func40, Tryd.ntmps40
  go_wp2_with fail
  refine HF.out.mono ?_
  rintro e w1 ⟨rfl, hb1⟩
  go_wp2_with fail
  go_ret2
  exact ⟨rfl, hb1⟩
set_option maxHeartbeats 2000000 in
set_option maxRecDepth 100000 in
theorem ref_Bytes_some (X : World) (B : Nat) (own : Nat → Prop) (b : Nat) (R : List Reg) (v : Value) (ps : List (Nat × Nat)) (a : Int) (nn k : Nat) (r : Reg) (h : RefIn X B own b R v ps) (hW : ∀ r ∈ R, Ok r) (hl : R.length ≤ 1000000) (ha0 : 0 ≤ a) (ha1 : a < 18446744073709551616) (hn1 : nn < 4294967297) (hf : R.findIdx? (hitR a nn) = some k) (hr : R[k]? = some r) (hh : hitR a nn r = true) :
    Calls Tryd.prog 40 #[.pointer (some ⟨b, 0, none⟩), .int .u64 a, .int .i64 nn] X fun e X' => (∃ v', e = .returned (.tuple #[v', .bool true]) ∧ X'.ownsRow X.heap.size 5 1 v' nn (nums .u8 ((r.data.drop (a - r.base).toNat).take nn))) ∧ Below X.heap.size X X' := by
  have HF := Aside0.mk (ref_Find X B own b R v ps a nn h hW hl ha0 ha1 (by omega) (by omega))
  rw [findR_some hf] at HF
  obtain ⟨h1, h2, h3⟩ := hit_iff.1 hh
  obtain ⟨off, hoff⟩ : ∃ off : Nat, (a - r.base).toNat = off := ⟨_, rfl⟩
  have hao : a - r.base = off := by omega
  obtain ⟨bs, hbs⟩ : ∃ bs, (r.data.drop off).take nn = bs := ⟨_, rfl⟩
  have HBS := Aside0.mk hbs
  rw [hoff, hbs]
  have hkl := (List.getElem?_eq_some_iff.1 hr).1
  obtain ⟨p, r', g, cap, hp, hr', hv, hc0, hc1, hcap, hcm, hop, hro⟩ := h.get hkl
  rw [hr] at hr'
  cases hr'
  cases hv
  have HM := Aside0.mk h
  have HRO := Aside0.mk hro
  have hsh := (hW r (List.mem_of_getElem? hr)).short
  have hwo : ∀ j : Nat, j < nn → IntKind.u64.wrap (IntKind.u64.wrap (off : Int) + IntKind.u64.wrap (j : Int)) = ((off + j : Nat) : Int) := fun j hj => by rw [u64_mod, u64_mod, u64_mod, Int.emod_eq_of_lt (a := (off : Int)) (by omega) (by omega), Int.emod_eq_of_lt (a := (j : Int)) (by omega) (by omega), Int.emod_eq_of_lt (by omega) (by omega)]; omega
  have HWO := Aside0.mk hwo
  have HFIT : Aside0 (off + nn ≤ r.data.length) := ⟨by omega⟩
  have HBY : Aside0 (∀ z : Nat, z < r.data.length → X.cell? ⟨p.1, z, none⟩ = some (.int .u8 (rd r.data (z : Int)))) := ⟨fun z hz => by
    have h1 := HRO.out.cells (g := p.1) rfl z (.int .u8 (rd r.data (z : Int))) (by
      unfold nums rd
      rw [List.getElem?_map, List.getElem?_eq_getElem hz, Int.toNat_natCast, List.getD_eq_getElem?_getD, List.getElem?_eq_getElem hz]
      rfl)
    rwa [add_plain] at h1⟩
  have HC0 := Aside0.mk hc0
  have HC1 := Aside0.mk hc1
  have HM0 := Aside0.mk (blk1 h.blk).1
  clear h hW ha0 ha1 hf hh h1 h2 h3 hoff hsh hwo hc0 hc1 hop hro hr hp
  go_enter Tryd.func40, Tryd.ntmps40
  go_wp2_with fail
  refine HF.out.mono ?_
  rintro e w1 ⟨rfl, hb1⟩
  go_wp2_with fail
  go_loopw [9, 10] (fun v9 v10 wr => ∃ j : Nat, j ≤ nn ∧ v10 = .int .i64 j ∧ Aside0 (Below X.heap.size X wr) ∧ Aside0 (wr.ownsRow X.heap.size 5 1 v9 j (nums .u8 (bs.take j)))) (fun _ v10 _ => nn - (intOf v10).toNat)
  case atStart => exact ⟨0, Nat.zero_le _, rfl, ⟨hb1⟩, ⟨by simpa [nums] using World.ownsRow_nil _ _ _ _⟩⟩
  case round =>
    obtain ⟨j, hj, rfl, HB, HO⟩ := hrel
    by_cases hlt : j < nn
    · have hmd : wr.drew.cell? ⟨b, 0, none⟩ = some (.slice (some ⟨g, 0, none⟩) R.length cap) := pw_cell_below HB.out HM0.out
      have hcd0 : wr.drew.cell? ⟨g, k * 2, none⟩ = some (.int .u64 r.base) := pw_cell_below HB.out HC0.out
      have hcd1 : wr.drew.cell? ⟨g, k * 2 + 1, none⟩ = some (.slice (some ⟨p.1, 0, none⟩) r.data.length p.2) := pw_cell_below HB.out HC1.out
      have hbyte : wr.drew.cell? ⟨p.1, off + j, none⟩ = some (.int .u8 (rd r.data ((off + j : Nat) : Int))) := by
        have h1 := HRO.out.cells (g := p.1) rfl (off + j) (.int .u8 (rd r.data ((off + j : Nat) : Int))) (by
          have := HFIT.out
          unfold nums rd
          rw [List.getElem?_map, List.getElem?_eq_getElem (show off + j < r.data.length by omega), Int.toNat_natCast, List.getD_eq_getElem?_getD, List.getElem?_eq_getElem (show off + j < r.data.length by omega)]
          rfl)
        rw [add_plain] at h1
        exact pw_cell_below HB.out h1
      have hwj := HWO.out j hlt
      obtain ⟨q, hq⟩ : ∃ q : Nat, off + j = q := ⟨_, rfl⟩
      have hql : q < r.data.length := by have := HFIT.out; omega
      have hq0 : (0 : Int) ≤ (q : Int) := by omega
      have hq1 : (q : Int) < (r.data.length : Int) := by omega
      rw [hq] at hwj hbyte
      have HQ := Aside0.mk hq
      clear hq
      go_wp2_with fail
      refine wp_region_held_drew (S := (fun w' => w'.cell? ⟨b, 0, none⟩ = some (.slice (some ⟨g, 0, none⟩) R.length cap) ∧ w'.cell? ⟨g, k * 2, none⟩ = some (.int .u64 r.base) ∧ w'.cell? ⟨g, k * 2 + 1, none⟩ = some (.slice (some ⟨p.1, 0, none⟩) r.data.length p.2) ∧ w'.cell? ⟨p.1, q, none⟩ = some (.int .u8 (rd r.data (q : Int))))) (by kernel_rfl) ⟨hmd, hcd0, hcd1, hbyte⟩ (fun hHeld => ?_)
      refine wpAnyH_take (i := 0) (oi := { dst := some 22, op := Op.move (Operand.tmp 9), type := 26, pos := "ref.go:62", after := #[], guard := none }) (v := ?vb0) rfl (by kernel_rfl) (by kernel_rfl) (by kernel_rfl) (fun _ _ _ h => h) (Or.inl ⟨by rfl, ?hyb0⟩) (by assumption) ?restb0
      case hyb0 => (intro w hSw; (try dsimp only at hSw); first | (go_simp; done) | (go_simp; with_reducible rfl))
      try simp only [Act.put, List.setIfInBounds_toArray, List.set_cons_zero, List.set_cons_succ]
      refine wpAnyH_take (i := 1) (oi := { dst := some 23, op := Op.move (Operand.tmp 0), type := 48, pos := "ref.go:62", after := #[], guard := none }) (v := ?vb1) rfl (by kernel_rfl) (by kernel_rfl) (by kernel_rfl) (fun _ _ _ h => h) (Or.inl ⟨by rfl, ?hyb1⟩) (by assumption) ?restb1
      case hyb1 => (intro w hSw; (try dsimp only at hSw); first | (go_simp; done) | (go_simp; with_reducible rfl))
      try simp only [Act.put, List.setIfInBounds_toArray, List.set_cons_zero, List.set_cons_succ]
      refine wpAnyH_take (i := 2) (oi := { dst := some 24, op := Op.nilCheck (Operand.tmp 23), type := 0, pos := "ref.go:62", after := #[{ on := 1, ground := Ground.data }], guard := none }) (v := ?vb2) rfl (by kernel_rfl) (by kernel_rfl) (by kernel_rfl) (fun _ _ _ h => h) (Or.inl ⟨by rfl, ?hyb2⟩) (by assumption) ?restb2
      case hyb2 => (intro w hSw; (try dsimp only at hSw); first | (go_simp; done) | (go_simp; with_reducible rfl))
      try simp only [Act.put, List.setIfInBounds_toArray, List.set_cons_zero, List.set_cons_succ]
      refine wpAnyH_take (i := 3) (oi := { dst := some 25, op := Op.fieldAddr 51 (Operand.tmp 24) 0, type := 0, pos := "ref.go:62", after := #[{ on := 2, ground := Ground.data }], guard := none }) (v := ?vb3) rfl (by kernel_rfl) (by kernel_rfl) (by kernel_rfl) (fun _ _ _ h => h) (Or.inl ⟨by rfl, ?hyb3⟩) (by assumption) ?restb3
      case hyb3 => (intro w hSw; (try dsimp only at hSw); first | (go_simp; done) | (go_simp; with_reducible rfl))
      try simp only [Act.put, List.setIfInBounds_toArray, List.set_cons_zero, List.set_cons_succ]
      refine wpAnyH_take (i := 4) (oi := { dst := some 26, op := Op.load 49 (Operand.tmp 25), type := 49, pos := "ref.go:62", after := #[{ on := 3, ground := Ground.data }], guard := none }) (v := ?vb4) rfl (by kernel_rfl) (by kernel_rfl) (by kernel_rfl) (fun _ _ _ h => h) (Or.inl ⟨by rfl, ?hyb4⟩) (by assumption) ?restb4
      case hyb4 => (intro w hSw; (try dsimp only at hSw); first | (go_simp; done) | (go_simp; with_reducible rfl))
      try simp only [Act.put, List.setIfInBounds_toArray, List.set_cons_zero, List.set_cons_succ]
      refine wpAnyH_take (i := 5) (oi := { dst := some 27, op := Op.move (Operand.tmp 8), type := 3, pos := "ref.go:62", after := #[], guard := none }) (v := ?vb5) rfl (by kernel_rfl) (by kernel_rfl) (by kernel_rfl) (fun _ _ _ h => h) (Or.inl ⟨by rfl, ?hyb5⟩) (by assumption) ?restb5
      case hyb5 => (intro w hSw; (try dsimp only at hSw); first | (go_simp; done) | (go_simp; with_reducible rfl))
      try simp only [Act.put, List.setIfInBounds_toArray, List.set_cons_zero, List.set_cons_succ]
      refine wpAnyH_take (i := 6) (oi := { dst := some 28, op := Op.indexAddr 49 (Operand.tmp 26) (Operand.tmp 27), type := 0, pos := "ref.go:62", after := #[{ on := 4, ground := Ground.data }, { on := 5, ground := Ground.data }], guard := none }) (v := ?vb6) rfl (by kernel_rfl) (by kernel_rfl) (by kernel_rfl) (fun _ _ _ h => h) (Or.inl ⟨by rfl, ?hyb6⟩) (by assumption) ?restb6
      case hyb6 => (intro w hSw; (try dsimp only at hSw); first | (go_simp; done) | (go_simp; with_reducible rfl))
      try simp only [Act.put, List.setIfInBounds_toArray, List.set_cons_zero, List.set_cons_succ]
      refine wpAnyH_take (i := 7) (oi := { dst := some 29, op := Op.fieldAddr 108 (Operand.tmp 28) 1, type := 0, pos := "ref.go:62", after := #[{ on := 6, ground := Ground.data }], guard := none }) (v := ?vb7) rfl (by kernel_rfl) (by kernel_rfl) (by kernel_rfl) (fun _ _ _ h => h) (Or.inl ⟨by rfl, ?hyb7⟩) (by assumption) ?restb7
      case hyb7 => (intro w hSw; (try dsimp only at hSw); first | (go_simp; done) | (go_simp; with_reducible rfl))
      try simp only [Act.put, List.setIfInBounds_toArray, List.set_cons_zero, List.set_cons_succ]
      refine wpAnyH_take (i := 8) (oi := { dst := some 30, op := Op.load 26 (Operand.tmp 29), type := 26, pos := "ref.go:62", after := #[{ on := 7, ground := Ground.data }], guard := none }) (v := ?vb8) rfl (by kernel_rfl) (by kernel_rfl) (by kernel_rfl) (fun _ _ _ h => h) (Or.inl ⟨by rfl, ?hyb8⟩) (by assumption) ?restb8
      case hyb8 => (intro w hSw; (try dsimp only at hSw); first | (go_simp; done) | (go_simp; with_reducible rfl))
      try simp only [Act.put, List.setIfInBounds_toArray, List.set_cons_zero, List.set_cons_succ]
      refine wpAnyH_take (i := 9) (oi := { dst := some 31, op := Op.move (Operand.tmp 1), type := 30, pos := "ref.go:62", after := #[], guard := none }) (v := ?vb9) rfl (by kernel_rfl) (by kernel_rfl) (by kernel_rfl) (fun _ _ _ h => h) (Or.inl ⟨by rfl, ?hyb9⟩) (by assumption) ?restb9
      case hyb9 => (intro w hSw; (try dsimp only at hSw); first | (go_simp; done) | (go_simp; with_reducible rfl))
      try simp only [Act.put, List.setIfInBounds_toArray, List.set_cons_zero, List.set_cons_succ]
      refine wpAnyH_take (i := 10) (oi := { dst := some 32, op := Op.move (Operand.tmp 0), type := 48, pos := "ref.go:62", after := #[], guard := none }) (v := ?vb10) rfl (by kernel_rfl) (by kernel_rfl) (by kernel_rfl) (fun _ _ _ h => h) (Or.inl ⟨by rfl, ?hyb10⟩) (by assumption) ?restb10
      case hyb10 => (intro w hSw; (try dsimp only at hSw); first | (go_simp; done) | (go_simp; with_reducible rfl))
      try simp only [Act.put, List.setIfInBounds_toArray, List.set_cons_zero, List.set_cons_succ]
      refine wpAnyH_take (i := 11) (oi := { dst := some 33, op := Op.nilCheck (Operand.tmp 32), type := 0, pos := "ref.go:62", after := #[{ on := 10, ground := Ground.data }], guard := none }) (v := ?vb11) rfl (by kernel_rfl) (by kernel_rfl) (by kernel_rfl) (fun _ _ _ h => h) (Or.inl ⟨by rfl, ?hyb11⟩) (by assumption) ?restb11
      case hyb11 => (intro w hSw; (try dsimp only at hSw); first | (go_simp; done) | (go_simp; with_reducible rfl))
      try simp only [Act.put, List.setIfInBounds_toArray, List.set_cons_zero, List.set_cons_succ]
      refine wpAnyH_take (i := 12) (oi := { dst := some 34, op := Op.fieldAddr 51 (Operand.tmp 33) 0, type := 0, pos := "ref.go:62", after := #[{ on := 11, ground := Ground.data }], guard := none }) (v := ?vb12) rfl (by kernel_rfl) (by kernel_rfl) (by kernel_rfl) (fun _ _ _ h => h) (Or.inl ⟨by rfl, ?hyb12⟩) (by assumption) ?restb12
      case hyb12 => (intro w hSw; (try dsimp only at hSw); first | (go_simp; done) | (go_simp; with_reducible rfl))
      try simp only [Act.put, List.setIfInBounds_toArray, List.set_cons_zero, List.set_cons_succ]
      refine wpAnyH_take (i := 13) (oi := { dst := some 35, op := Op.load 49 (Operand.tmp 34), type := 49, pos := "ref.go:62", after := #[{ on := 12, ground := Ground.data }], guard := none }) (v := ?vb13) rfl (by kernel_rfl) (by kernel_rfl) (by kernel_rfl) (fun _ _ _ h => h) (Or.inl ⟨by rfl, ?hyb13⟩) (by assumption) ?restb13
      case hyb13 => (intro w hSw; (try dsimp only at hSw); first | (go_simp; done) | (go_simp; with_reducible rfl))
      try simp only [Act.put, List.setIfInBounds_toArray, List.set_cons_zero, List.set_cons_succ]
      refine wpAnyH_take (i := 14) (oi := { dst := some 36, op := Op.move (Operand.tmp 8), type := 3, pos := "ref.go:62", after := #[], guard := none }) (v := ?vb14) rfl (by kernel_rfl) (by kernel_rfl) (by kernel_rfl) (fun _ _ _ h => h) (Or.inl ⟨by rfl, ?hyb14⟩) (by assumption) ?restb14
      case hyb14 => (intro w hSw; (try dsimp only at hSw); first | (go_simp; done) | (go_simp; with_reducible rfl))
      try simp only [Act.put, List.setIfInBounds_toArray, List.set_cons_zero, List.set_cons_succ]
      refine wpAnyH_take (i := 15) (oi := { dst := some 37, op := Op.indexAddr 49 (Operand.tmp 35) (Operand.tmp 36), type := 0, pos := "ref.go:62", after := #[{ on := 13, ground := Ground.data }, { on := 14, ground := Ground.data }], guard := none }) (v := ?vb15) rfl (by kernel_rfl) (by kernel_rfl) (by kernel_rfl) (fun _ _ _ h => h) (Or.inl ⟨by rfl, ?hyb15⟩) (by assumption) ?restb15
      case hyb15 => (intro w hSw; (try dsimp only at hSw); first | (go_simp; done) | (go_simp; with_reducible rfl))
      try simp only [Act.put, List.setIfInBounds_toArray, List.set_cons_zero, List.set_cons_succ]
      refine wpAnyH_take (i := 16) (oi := { dst := some 38, op := Op.fieldAddr 108 (Operand.tmp 37) 0, type := 0, pos := "ref.go:62", after := #[{ on := 15, ground := Ground.data }], guard := none }) (v := ?vb16) rfl (by kernel_rfl) (by kernel_rfl) (by kernel_rfl) (fun _ _ _ h => h) (Or.inl ⟨by rfl, ?hyb16⟩) (by assumption) ?restb16
      case hyb16 => (intro w hSw; (try dsimp only at hSw); first | (go_simp; done) | (go_simp; with_reducible rfl))
      try simp only [Act.put, List.setIfInBounds_toArray, List.set_cons_zero, List.set_cons_succ]
      refine wpAnyH_take (i := 17) (oi := { dst := some 39, op := Op.load 30 (Operand.tmp 38), type := 30, pos := "ref.go:62", after := #[{ on := 16, ground := Ground.data }], guard := none }) (v := ?vb17) rfl (by kernel_rfl) (by kernel_rfl) (by kernel_rfl) (fun _ _ _ h => h) (Or.inl ⟨by rfl, ?hyb17⟩) (by assumption) ?restb17
      case hyb17 => (intro w hSw; (try dsimp only at hSw); first | (go_simp; done) | (go_simp; with_reducible rfl))
      try simp only [Act.put, List.setIfInBounds_toArray, List.set_cons_zero, List.set_cons_succ]
      refine wpAnyH_take (i := 18) (oi := { dst := some 40, op := Op.binOp BinOp.sub 30 (Operand.tmp 31) (Operand.tmp 39) 30, type := 30, pos := "ref.go:62", after := #[{ on := 9, ground := Ground.data }, { on := 17, ground := Ground.data }], guard := none }) (v := ?vb18) rfl (by kernel_rfl) (by kernel_rfl) (by kernel_rfl) (fun _ _ _ h => h) (Or.inl ⟨by rfl, ?hyb18⟩) (by assumption) ?restb18
      case hyb18 => (intro w hSw; (try dsimp only at hSw); first | (go_simp; done) | (go_simp; with_reducible rfl))
      try simp only [Act.put, List.setIfInBounds_toArray, List.set_cons_zero, List.set_cons_succ]
      refine wpAnyH_take (i := 19) (oi := { dst := some 41, op := Op.move (Operand.tmp 10), type := 3, pos := "ref.go:62", after := #[], guard := none }) (v := ?vb19) rfl (by kernel_rfl) (by kernel_rfl) (by kernel_rfl) (fun _ _ _ h => h) (Or.inl ⟨by rfl, ?hyb19⟩) (by assumption) ?restb19
      case hyb19 => (intro w hSw; (try dsimp only at hSw); first | (go_simp; done) | (go_simp; with_reducible rfl))
      try simp only [Act.put, List.setIfInBounds_toArray, List.set_cons_zero, List.set_cons_succ]
      refine wpAnyH_take (i := 20) (oi := { dst := some 42, op := Op.convert 3 30 (Operand.tmp 41), type := 30, pos := "ref.go:62", after := #[{ on := 19, ground := Ground.data }], guard := none }) (v := ?vb20) rfl (by kernel_rfl) (by kernel_rfl) (by kernel_rfl) (fun _ _ _ h => h) (Or.inl ⟨by rfl, ?hyb20⟩) (by assumption) ?restb20
      case hyb20 => (intro w hSw; (try dsimp only at hSw); first | (go_simp; done) | (go_simp; with_reducible rfl))
      try simp only [Act.put, List.setIfInBounds_toArray, List.set_cons_zero, List.set_cons_succ]
      refine wpAnyH_take (i := 21) (oi := { dst := some 43, op := Op.binOp BinOp.add 30 (Operand.tmp 40) (Operand.tmp 42) 30, type := 30, pos := "ref.go:62", after := #[{ on := 18, ground := Ground.data }, { on := 20, ground := Ground.data }], guard := none }) (v := ?vb21) rfl (by kernel_rfl) (by kernel_rfl) (by kernel_rfl) (fun _ _ _ h => h) (Or.inl ⟨by rfl, ?hyb21⟩) (by assumption) ?restb21
      case hyb21 => (intro w hSw; (try dsimp only at hSw); first | (go_simp; done) | (go_simp; with_reducible rfl))
      try simp only [Act.put, List.setIfInBounds_toArray, List.set_cons_zero, List.set_cons_succ]
      refine wpAnyH_take (i := 22) (oi := { dst := some 44, op := Op.indexAddr 26 (Operand.tmp 30) (Operand.tmp 43), type := 0, pos := "ref.go:62", after := #[{ on := 8, ground := Ground.data }, { on := 21, ground := Ground.data }], guard := none }) (v := ?vb22) rfl (by kernel_rfl) (by kernel_rfl) (by kernel_rfl) (fun _ _ _ h => h) (Or.inl ⟨by rfl, ?hyb22⟩) (by assumption) ?restb22
      case hyb22 => (intro w hSw; (try dsimp only at hSw); first | (go_simp; done) | (go_simp; with_reducible rfl))
      try simp only [Act.put, List.setIfInBounds_toArray, List.set_cons_zero, List.set_cons_succ]
      refine wpAnyH_take (i := 23) (oi := { dst := some 45, op := Op.load 5 (Operand.tmp 44), type := 5, pos := "ref.go:62", after := #[{ on := 22, ground := Ground.data }], guard := none }) (v := ?vb23) rfl (by kernel_rfl) (by kernel_rfl) (by kernel_rfl) (fun _ _ _ h => h) (Or.inl ⟨by rfl, ?hyb23⟩) (by assumption) ?restb23
      case hyb23 => (intro w hSw; (try dsimp only at hSw); first | (go_simp; done) | (go_simp; with_reducible rfl))
      try simp only [Act.put, List.setIfInBounds_toArray, List.set_cons_zero, List.set_cons_succ]
      refine wpAnyH_ready (rs := [24]) (by kernel_rfl) (by simp) (AllReadyH.cons (o := { dst := some 46, op := Op.buildSlice 26 1 #[(0, Operand.tmp 45)], type := 26, pos := "ref.go:62", after := #[{ on := 23, ground := Ground.data }], guard := none }) rfl (fun K hK => ?stepb24) AllReadyH.nil)
      go_simp
      refine hK.out _ _ ⟨pw_cell_below (below_alloc (Below.refl _ _) _) hmd, pw_cell_below (below_alloc (Below.refl _ _) _) hcd0, pw_cell_below (below_alloc (Below.refl _ _) _) hcd1, pw_cell_below (below_alloc (Below.refl _ _) _) hbyte⟩ (fun hHeld2 => ?_)
      clear hK K hHeld
      try simp only [Act.put, List.setIfInBounds_toArray, List.set_cons_zero, List.set_cons_succ]
      refine wpAnyH_ready (rs := [25]) (by kernel_rfl) (by simp) (AllReadyH.cons (o := { dst := some 47, op := Op.call { callee := Callee.builtin Builtin.append, args := #[Operand.tmp 22, Operand.tmp 46], argTypes := #[26, 26] }, type := 26, pos := "ref.go:62", after := #[{ on := 0, ground := Ground.data }, { on := 24, ground := Ground.data }], guard := none }) rfl (fun K hK => ?stepb25) AllReadyH.nil)
      have hBW : Below wr.heap.size wr (wr.alloc (.cells #[.int .u8 (rd r.data (q : Int))] 5)).drew := below_drew (below_alloc (Below.refl _ _) _)
      have hown' := row_keep HO.out (X' := (wr.alloc (.cells #[.int .u8 (rd r.data (q : Int))] 5)).drew) (fun z hz => hBW.block z (own_lt HO.out z hz))
      obtain ⟨i0, hi0, hz0, hzs, hzb⟩ := info_parts infoU8
      obtain ⟨v', w', hrun, hown2, hg, _, hat⟩ := run_append_own_at (P := Tryd.prog) _ X.heap.size 26 26 5 i0 (.int .u8 0) 1 1 Tryd.underlying26 hi0 hz0 hzs hzb rfl (by decide) _ j _ hown' ⟨wr.heap.size, 0, none⟩ 1 1 [.int .u8 (rd r.data (q : Int))] rfl (fun z u hz => by
        match z, hz with
        | 0, hz => obtain rfl := Option.some.inj hz; rw [add_plain]; exact (pw_cell_below (below_drew (Below.refl _ _)) (by unfold World.cell?; dsimp only; rw [heap_alloc_new]; rfl))
        | _ + 1, hz => simp at hz) (fun u hu => by rw [List.mem_singleton.1 hu]; rfl) (by unfold maxLen; omega) (by omega) (Nat.le_trans HB.out.size hBW.size)
      have hBX : Below X.heap.size X w' := (HB.out.trans (hBW.mono HB.out.size)).grown hg (Nat.le_trans HB.out.size hBW.size) (fun z hz => own_base hown' z hz)
      have HBX := Aside0.mk hBX
      have HO2 := Aside0.mk hown2
      rw [if_pos (by rfl)]
      refine Go.Lib.wp_append_run _ (.tmp 22) (.tmp 46) 26 26 rfl _ _ rfl rfl v' w' hrun ?_
      refine hK.out _ _ ⟨pw_cell_below hBX HM0.out, pw_cell_below hBX HC0.out, pw_cell_below hBX HC1.out, ?hbb⟩ (fun hHeld3 => ?_)
      case hbb => exact pw_cell_below hBX (HBY.out q hql)
      clear hK K hHeld2 hrun hown2 hg hat hBX hown' hBW
      try simp only [Act.put, List.setIfInBounds_toArray, List.set_cons_zero, List.set_cons_succ]
      refine wpAnyH_ready (rs := [26]) (by kernel_rfl) (by simp) (AllReadyH.cons (o := { dst := some 9, op := Op.assign (Operand.tmp 47), type := 26, pos := "ref.go:62", after := #[{ on := 25, ground := Ground.data }, { on := 25, ground := Ground.chain }, { on := 0, ground := Ground.phase }, { on := 1, ground := Ground.phase }, { on := 2, ground := Ground.phase }, { on := 3, ground := Ground.phase }, { on := 4, ground := Ground.phase }, { on := 5, ground := Ground.phase }, { on := 6, ground := Ground.phase }, { on := 7, ground := Ground.phase }, { on := 8, ground := Ground.phase }, { on := 9, ground := Ground.phase }, { on := 10, ground := Ground.phase }, { on := 11, ground := Ground.phase }, { on := 12, ground := Ground.phase }, { on := 13, ground := Ground.phase }, { on := 14, ground := Ground.phase }, { on := 15, ground := Ground.phase }, { on := 16, ground := Ground.phase }, { on := 17, ground := Ground.phase }, { on := 18, ground := Ground.phase }, { on := 19, ground := Ground.phase }, { on := 20, ground := Ground.phase }, { on := 21, ground := Ground.phase }, { on := 22, ground := Ground.phase }, { on := 23, ground := Ground.phase }, { on := 24, ground := Ground.phase }, { on := 25, ground := Ground.phase }], guard := none }) rfl (fun K hK => ?stepb26) AllReadyH.nil)
      go_simp
      refine hK.out _ _ hHeld3 (fun hHeld4 => ?_)
      clear hK K hHeld3 hHeld4
      try simp only [Act.put, List.setIfInBounds_toArray, List.set_cons_zero, List.set_cons_succ]
      refine wpAnyH_done (by kernel_rfl) ?_ _
      go_wp2_with fail
      refine ⟨⟨j + 1, by omega, by congr 1, HBX, ⟨?_⟩⟩, by simp [intOf]; omega⟩
      have e1 : bs[j]? = some (rd r.data (q : Int)) := by
        rw [← HBS.out, List.getElem?_take, if_pos hlt, List.getElem?_drop, HQ.out]
        unfold rd
        rw [Int.toNat_natCast, List.getD_eq_getElem?_getD, List.getElem?_eq_getElem hql]
        rfl
      have e2 : bs.take (j + 1) = bs.take j ++ [rd r.data (q : Int)] := by rw [List.take_add_one, e1]; rfl
      rw [e2]
      have := HO2.out
      simpa [nums] using this
    · obtain rfl : j = nn := by omega
      have e3 : bs.take j = bs := List.take_of_length_le (by rw [← HBS.out, List.length_take]; omega)
      have HO3 := HO.out
      rw [e3] at HO3
      obtain ⟨A3, c3, rfl⟩ := own_slice HO3
      have HO4 := Aside0.mk HO3
      clear HO3 e3
      go_wp2_with fail
      go_ret2
      exact ⟨⟨_, rfl, HO4.out⟩, HB.out⟩
end Go.Proofs.YtomnfkihieinbaaDoor.PAll
/- The reference's Put. -/
set_option linter.unusedVariables false
set_option linter.unusedSimpArgs false
namespace Go.Proofs.YtomnfkihieinbaaDoor.PAll
open Go.RowKit Go.Shelf Go.Proofs.YtomnfkihieinbaaDoorW.PrintWords Go.Proofs.YtomnfkihieinbaaDoorW.PrintLast Go.Proofs.YtomnfkihieinbaaDoorW.PrintMore
theorem Out.drew {own : Nat → Prop} {X Y : World} (h : Out own X Y) : Out own X Y.drew := ⟨h.os, h.tape, h.output, h.size, h.block⟩
theorem nums_set (k : IntKind) (xs : List Int) (i : Nat) (x : Int) : nums k (xs.set i x) = (nums k xs).set i (.int k x) := by unfold nums; rw [List.map_set]
theorem splice_step (data bs : List Int) (off j : Nat) (hj : j < bs.length) (hf : off + bs.length ≤ data.length) : (splice data off (bs.take j)).set (off + j) (rd bs (j : Int)) = splice data off (bs.take (j + 1)) := by
  have e1 : bs.take (j + 1) = bs.take j ++ [rd bs (j : Int)] := by
    rw [List.take_add_one, List.getElem?_eq_getElem hj]
    unfold rd
    rw [Int.toNat_natCast, List.getD_eq_getElem?_getD, List.getElem?_eq_getElem hj]
    rfl
  have hl : (bs.take j).length = j := by rw [List.length_take]; omega
  unfold splice
  rw [e1]
  have hl2 : (data.take off).length = off := by rw [List.length_take]; omega
  rw [List.set_append_right _ _ (by omega), hl2, Nat.add_sub_cancel_left, List.set_append_right _ _ (by omega), hl, Nat.sub_self, List.length_append, hl, List.length_singleton]
  obtain ⟨y, hy⟩ : ∃ y, data[off + j]? = some y := ⟨_, List.getElem?_eq_getElem (by omega)⟩
  have hd : data.drop (off + j) = y :: data.drop (off + (j + 1)) := by
    rw [List.drop_eq_getElem_cons (by omega)]
    have : data[off + j] = y := by rw [List.getElem?_eq_getElem (by omega)] at hy; exact Option.some.inj hy
    rw [this]; rfl
  rw [hd, List.set_cons_zero, List.append_assoc]
  rfl
theorem cap_of_row {X : World} {B e n cap : Nat} {A : Option Addr} {xs : List Value} (h : X.ownsRow B e 1 (.slice A n cap) n xs) : n ≤ cap ∧ cap ≤ 9223372036854775807 := by
  rcases h.2 with ⟨h1, h2⟩ | ⟨g, c, cur, h1, _, _, h3, h4, _⟩
  · cases h1; omega
  · cases h1; exact ⟨h3, h4⟩
/-- One region's bytes turn; all else stands. -/
theorem RefIn.turn {X X' : World} {B : Nat} {own : Nat → Prop} {b : Nat} {R : List Reg} {v : Value} {ps : List (Nat × Nat)} (h : RefIn X B own b R v ps) {k : Nat} {p : Nat × Nat} {r : Reg} (hp : ps[k]? = some p) (hr : R[k]? = some r) (data : List Int) (hlen : data.length = r.data.length)
    (hX : ∀ i, i < X.heap.size → i ≠ p.1 → X'.heap[i]? = X.heap[i]?)
    (hrow : X'.ownsRow B 5 1 (.slice (some ⟨p.1, 0, none⟩) r.data.length p.2) r.data.length (nums .u8 data)) :
    RefIn X' B own b (R.set k { r with data := data }) v ps := by
  obtain ⟨ho, hro⟩ := h.reg k p r hp hr
  obtain ⟨cur, hcur⟩ := row_block hro rfl
  have hlt : ∀ {i : Nat} {o : Obj}, X.heap[i]? = some o → i < X.heap.size := fun hh => (Array.getElem?_eq_some_iff.1 hh).1
  have hk : k < R.length := (List.getElem?_eq_some_iff.1 hr).1
  have hrb : ∀ g, v.ownBlock = some g → ∃ cur, X.heap[g]? = some (.cells cur 108 (0, 0)) := by
    intro g hg
    rcases h.row.2 with ⟨rfl, _⟩ | ⟨g', cap, cur, rfl, _, hh, _⟩
    · simp [Value.ownBlock] at hg
    · obtain rfl : g' = g := by simpa [Value.ownBlock] using hg
      exact ⟨cur, hh⟩
  refine ⟨?_, h.ob, h.bb, ?_, h.orow, by rw [List.length_set]; exact h.len, ?_, h.nd⟩
  · rw [hX b (hlt h.blk) (two_blocks h.blk hcur (by decide))]; exact h.blk
  · rw [List.length_set]
    have e : cells2 (R.set k { r with data := data }) ps = cells2 R ps := by
      apply List.ext_getElem?
      intro j
      obtain ⟨i, hi⟩ : ∃ i, j = i * 2 ∨ j = i * 2 + 1 := ⟨j / 2, by omega⟩
      by_cases hil : i < R.length
      · obtain ⟨pi, hpi⟩ : ∃ pi, ps[i]? = some pi := ⟨_, List.getElem?_eq_getElem (by rw [h.len]; exact hil)⟩
        obtain ⟨ri, hri⟩ : ∃ ri, R[i]? = some ri := ⟨_, List.getElem?_eq_getElem hil⟩
        obtain ⟨c0, c1⟩ := cells2_at R ps i _ _ hri hpi
        by_cases hik : i = k
        · subst hik
          obtain ⟨d0, d1⟩ := cells2_at (R.set i { r with data := data }) ps i _ _ (List.getElem?_set_self hk) hpi
          have hrr : ri = r := by rw [hri] at hr; exact Option.some.inj hr
          rcases hi with rfl | rfl
          · rw [d0, c0, hrr]
          · rw [d1, c1, hrr]; show _ = some (Value.slice _ r.data.length _); rw [← hlen]
        · obtain ⟨d0, d1⟩ := cells2_at (R.set k { r with data := data }) ps i ri _ (by rw [List.getElem?_set_ne (by omega)]; exact hri) hpi
          rcases hi with rfl | rfl
          · rw [d0, c0]
          · rw [d1, c1]
      · rw [List.getElem?_eq_none (by rw [cells2_len _ _ (by rw [List.length_set]; exact h.len), List.length_set]; omega), List.getElem?_eq_none (by rw [cells2_len _ _ h.len]; omega)]
    rw [e]
    exact row_keep h.row (fun g hg => by obtain ⟨c2, hc2⟩ := hrb g hg; exact hX g (hlt hc2) (two_blocks hc2 hcur (by decide)))
  · intro i q s hq hs
    by_cases hik : i = k
    · subst hik
      rw [hp] at hq
      cases hq
      rw [List.getElem?_set_self hk] at hs
      cases hs
      refine ⟨ho, ?_⟩
      show X'.ownsRow B _ 1 (.slice (some ⟨p.1, 0, none⟩) data.length p.2) data.length _
      rw [hlen]
      exact hrow
    · rw [List.getElem?_set_ne (by omega)] at hs
      obtain ⟨hg, hro2⟩ := h.reg i q s hq hs
      have hne : q.1 ≠ p.1 := by
        intro he
        have e1 : (ps.map (·.1))[i]? = some q.1 := by rw [List.getElem?_map, hq]; rfl
        have e2 : (ps.map (·.1))[k]? = some p.1 := by rw [List.getElem?_map, hp]; rfl
        have hil : i < (ps.map (·.1)).length := (List.getElem?_eq_some_iff.1 e1).1
        exact hik ((List.getElem?_inj hil h.nd).1 (by rw [e1, e2, he]))
      exact ⟨hg, row_keep hro2 (fun g hg' => by cases hg'; exact hX q.1 (own_lt hro2 q.1 rfl) hne)⟩
def RPutPost (X : World) (B : Nat) (own : Nat → Prop) (b : Nat) (R : List Reg) (a : Int) (bs : List Int) (e : Ending) (X' : World) : Prop :=
  match putF R a bs with
  | none => e = .returned (.bool false) ∧ Below X.heap.size X X'
  | some R' => e = .returned (.bool true) ∧ RefAt X' B own b R' ∧ Out own X X'
theorem ref_Put_none (X : World) (B : Nat) (own : Nat → Prop) (b : Nat) (R : List Reg) (v : Value) (ps : List (Nat × Nat)) (a : Int) (A0 : Option Addr) (c0 nn : Nat) (h : RefIn X B own b R v ps) (hW : ∀ r ∈ R, Ok r) (hl : R.length ≤ 1000000) (ha0 : 0 ≤ a) (ha1 : a < 18446744073709551616) (hn1 : nn < 4294967296) (hf : R.findIdx? (hitR a nn) = none) :
    Calls Tryd.prog 62 #[.pointer (some ⟨b, 0, none⟩), .int .u64 a, .slice A0 nn c0] X fun e X' => e = .returned (.bool false) ∧ Below X.heap.size X X' := by
  have HF := Aside0.mk (ref_Find X B own b R v ps a nn h hW hl ha0 ha1 (by omega) (by omega))
  rw [findR_none hf] at HF
  clear h hW ha0 ha1 hn1 hf
  go_enter Tryd.func62, Tryd.ntmps62
  go_wp2_with fail
  refine HF.out.mono ?_
  rintro e w1 ⟨rfl, hb1⟩
  go_wp2_with fail
  go_ret
  exact ⟨rfl, hb1⟩
set_option maxHeartbeats 4000000 in
set_option maxRecDepth 100000 in
theorem ref_Put_some (X : World) (B : Nat) (own : Nat → Prop) (b : Nat) (R : List Reg) (v : Value) (ps : List (Nat × Nat)) (a : Int) (A0 : Option Addr) (c0 nn k : Nat) (bs : List Int) (hbl : bs.length = nn) (r : Reg) (h : RefIn X B own b R v ps) (hW : ∀ r ∈ R, Ok r) (hl : R.length ≤ 1000000) (ha0 : 0 ≤ a) (ha1 : a < 18446744073709551616) (hn1 : nn < 4294967296) (hf : R.findIdx? (hitR a nn) = some k) (hr : R[k]? = some r) (hh : hitR a nn r = true)
    (hr0 : Kd.C (Kd.int .u8) X A0 nn bs) (hA : ∀ ad, A0 = some ad → ¬ own ad.block) :
    Calls Tryd.prog 62 #[.pointer (some ⟨b, 0, none⟩), .int .u64 a, .slice A0 nn c0] X fun e X' => e = .returned (.bool true) ∧ RefAt X' B own b (R.set k { r with data := splice r.data (a - r.base).toNat bs }) ∧ Out own X X' := by
  have HF := Aside0.mk (ref_Find X B own b R v ps a nn h hW hl ha0 ha1 (by omega) (by omega))
  rw [findR_some hf] at HF
  obtain ⟨h1, h2, h3⟩ := hit_iff.1 hh
  obtain ⟨off, hoff⟩ : ∃ off : Nat, (a - r.base).toNat = off := ⟨_, rfl⟩
  have hao : a - r.base = off := by omega
  rw [hoff]
  have hkl := (List.getElem?_eq_some_iff.1 hr).1
  obtain ⟨p, r', g, cap, hp, hr', hv, hc0, hc1, hcap, hcm, hop, hro⟩ := h.get hkl
  rw [hr] at hr'
  cases hr'
  cases hv
  have HM := Aside0.mk h
  have HRO := Aside0.mk hro
  have hsh := (hW r (List.mem_of_getElem? hr)).short
  have HWO : Aside0 (∀ j : Nat, j < nn → IntKind.u64.wrap (IntKind.u64.wrap (off : Int) + IntKind.u64.wrap (j : Int)) = ((off + j : Nat) : Int)) := ⟨fun j hj => by rw [u64_mod, u64_mod, u64_mod, Int.emod_eq_of_lt (a := (off : Int)) (by omega) (by omega), Int.emod_eq_of_lt (a := (j : Int)) (by omega) (by omega), Int.emod_eq_of_lt (by omega) (by omega)]; omega⟩
  have HFIT : Aside0 (off + nn ≤ r.data.length) := ⟨by omega⟩
  have HAO := Aside0.mk hao
  have HC0 := Aside0.mk hc0
  have HC1 := Aside0.mk hc1
  have HM0 := Aside0.mk (blk1 h.blk).1
  have HP := Aside0.mk hp
  have HR := Aside0.mk hr
  have HOP := Aside0.mk hop
  have HR0 := Aside0.mk hr0
  have HBL := Aside0.mk hbl
  have HA := Aside0.mk hA
  obtain ⟨cur, hcur⟩ := row_block hro rfl
  have hgb : ∃ c2, X.heap[g]? = some (.cells c2 108 (0, 0)) := by
    rcases h.row.2 with ⟨h', _⟩ | ⟨g', cap', cur', h', _, hh', _⟩
    · cases h'
    · cases h'; exact ⟨cur', hh'⟩
  have HBP : Aside0 (b ≠ p.1) := ⟨two_blocks h.blk hcur (by decide)⟩
  have HGP : Aside0 (g ≠ p.1) := ⟨by obtain ⟨c2, hc2⟩ := hgb; exact two_blocks hc2 hcur (by decide)⟩
  clear h hW ha0 ha1 hf hh h1 h2 h3 hoff hsh hc0 hc1 hop hro hr hp hao hr0 hbl hA hcur hgb
  go_enter Tryd.func62, Tryd.ntmps62
  go_wp2_with fail
  refine HF.out.mono ?_
  rintro e w1 ⟨rfl, hb1⟩
  go_wp2_with fail
  go_loopw [8] (fun v8 wr => ∃ j : Nat, j ≤ nn ∧ v8 = .int .i64 j ∧ Aside0 (Out (fun z => z = p.1) X wr) ∧ Aside0 (wr.ownsRow B 5 1 (.slice (some ⟨p.1, 0, none⟩) r.data.length p.2) r.data.length (nums .u8 (splice r.data off (bs.take j))))) (fun v8 _ => nn - (intOf v8).toNat)
  case atStart => exact ⟨0, Nat.zero_le _, rfl, ⟨below_out hb1 _⟩, ⟨by
    have e0 : splice r.data off (bs.take 0) = r.data := by simp [splice]
    rw [e0]
    exact row_keep HRO.out (fun z hz => by cases hz; exact hb1.block p.1 (own_lt HRO.out p.1 rfl))⟩⟩
  case round =>
    obtain ⟨j, hj, rfl, HO, HS⟩ := hrel
    by_cases hlt : j < nn
    · have hkeep : ∀ (z o : Nat) (u : Value), z ≠ p.1 → X.cell? ⟨z, o, none⟩ = some u → wr.drew.cell? ⟨z, o, none⟩ = some u := fun z o u hz hu => by
        have := HO.out.block z (World.block_lt_of_cell? X _ hu) hz
        show wr.cell? _ = _
        unfold World.cell? at hu ⊢
        rw [this]
        exact hu
      have hmd : wr.drew.cell? ⟨b, 0, none⟩ = some (.slice (some ⟨g, 0, none⟩) R.length cap) := hkeep _ _ _ HBP.out HM0.out
      have hcd0 : wr.drew.cell? ⟨g, k * 2, none⟩ = some (.int .u64 r.base) := hkeep _ _ _ HGP.out HC0.out
      have hcd1 : wr.drew.cell? ⟨g, k * 2 + 1, none⟩ = some (.slice (some ⟨p.1, 0, none⟩) r.data.length p.2) := hkeep _ _ _ HGP.out HC1.out
      have hsrc : ∃ ad, A0 = some ad ∧ wr.drew.cell? (ad.add j) = some (.int .u8 (rd bs (j : Int))) := by
        obtain ⟨ad, e, hx⟩ := Kd.at_int HR0.out (j : Int) (by omega) (by omega)
        refine ⟨ad, e, ?_⟩
        rw [Int.toNat_natCast] at hx
        have hb' : (ad.add j).block = ad.block := by unfold Addr.add; split <;> rfl
        have := HO.out.block (ad.add j).block (World.block_lt_of_cell? X _ hx) (fun h' => HA.out ad e (by rw [← hb', h']; exact HOP.out))
        show wr.cell? _ = _
        unfold World.cell? at hx ⊢
        rw [this]
        exact hx
      obtain ⟨ad, rfl, hsrc⟩ := hsrc
      have hwj := HWO.out j hlt
      obtain ⟨q, hq⟩ : ∃ q : Nat, off + j = q := ⟨_, rfl⟩
      have hql : q < r.data.length := by have := HFIT.out; omega
      have hq0 : (0 : Int) ≤ (q : Int) := by omega
      have hq1 : (q : Int) < (r.data.length : Int) := by omega
      rw [hq] at hwj
      have HQ := Aside0.mk hq
      have hold : ∃ u, wr.drew.cell? ⟨p.1, q, none⟩ = some u := ⟨_, by
        show wr.cell? _ = _
        rw [HS.out.cellAt q (by omega), List.getElem?_eq_getElem (by rw [nums_length, length_splice _ _ _ (by rw [List.length_take]; have := HFIT.out; omega)]; exact hql)]⟩
      obtain ⟨u0, hold⟩ := hold
      have hfro : wr.drew.frozen? ⟨p.1, q, none⟩ = false := HS.out.frozenAt q
      have hao := HAO.out
      clear hq hkeep
      go_wp2_with fail
      have HK : Aside0 (∀ (z : Addr) (u x : Value), z.block ≠ p.1 → wr.drew.cell? z = some u → (wr.setCell ⟨p.1, q, none⟩ x).drew.cell? z = some u) := ⟨fun z u x hz hu => by
        show (wr.setCell _ _).cell? _ = _
        rw [World.cell?_setCell_far _ _ _ _ (fun h => hz h.symm)]
        exact hu⟩
      have HAD : Aside0 ((ad.add j).block ≠ p.1) := ⟨fun h => by
        have hb' : (ad.add j).block = ad.block := by unfold Addr.add; split <;> rfl
        exact HA.out ad rfl (by rw [← hb', h]; exact HOP.out)⟩
      go_region_held3 (fun w' => w'.cell? ⟨b, 0, none⟩ = some (.slice (some ⟨g, 0, none⟩) R.length cap) ∧ w'.cell? ⟨g, k * 2, none⟩ = some (.int .u64 r.base) ∧ w'.cell? ⟨g, k * 2 + 1, none⟩ = some (.slice (some ⟨p.1, 0, none⟩) r.data.length p.2) ∧ w'.cell? (ad.add j) = some (.int .u8 (rd bs (j : Int)))) ((first | exact ⟨hmd, hcd0, hcd1, hsrc⟩ | exact ⟨HK.out _ _ _ HBP.out hmd, HK.out _ _ _ HGP.out hcd0, HK.out _ _ _ HGP.out hcd1, HK.out _ _ _ HAD.out hsrc⟩)) (fail)
      go_wp2_with fail
      refine ⟨⟨j + 1, by omega, by congr 1, ⟨?_⟩, ⟨?_⟩⟩, by simp [intOf]; omega⟩
      · exact (HO.out.trans (set_out wr p.1 q (.int .u8 (rd bs (j : Int)))) (fun _ _ h => h)).drew
      · rw [← splice_step r.data bs off j (by rw [HBL.out]; exact hlt) (by rw [HBL.out]; exact HFIT.out), nums_set, HQ.out]
        exact (HS.out.stored q (.int .u8 (rd bs (j : Int)))).1
    · obtain rfl : j = nn := by omega
      have HS2 := HS.out
      rw [List.take_of_length_le (by rw [HBL.out]; exact Nat.le_refl _)] at HS2
      have HS3 := Aside0.mk HS2
      clear HS2
      go_wp2_with fail
      go_ret
      refine ⟨rfl, ⟨_, ps, HM.out.turn HP.out HR.out _ (length_splice _ _ _ (by rw [HBL.out]; exact HFIT.out)) (fun i hi hne => HO.out.block i hi hne) HS3.out⟩, HO.out.mono (fun i _ h => by rw [h]; exact HOP.out)⟩
set_option maxHeartbeats 1000000 in
theorem ref_Put (X : World) (B : Nat) (own : Nat → Prop) (b : Nat) (R : List Reg) (a : Int) (A0 : Option Addr) (c0 : Nat) (bs : List Int) (h : RefAt X B own b R) (hW : ∀ r ∈ R, Ok r) (hl : R.length ≤ 1000000) (ha0 : 0 ≤ a) (ha1 : a < 18446744073709551616) (hbl : bs.length < 4294967296)
    (hr0 : Kd.C (Kd.int .u8) X A0 bs.length bs) (hA : 0 < bs.length → ∀ ad, A0 = some ad → ¬ own ad.block) :
    Calls Tryd.prog 62 #[.pointer (some ⟨b, 0, none⟩), .int .u64 a, .slice A0 bs.length c0] X (RPutPost X B own b R a bs) := by
  obtain ⟨v, ps, h⟩ := h
  unfold RPutPost putF
  cases hf : R.findIdx? (hitR a bs.length) with
  | none => exact ref_Put_none X B own b R v ps a A0 c0 bs.length h hW hl ha0 ha1 hbl hf
  | some k =>
    obtain ⟨hk, hh, _⟩ := List.findIdx?_eq_some_iff_getElem.1 hf
    have hr : R[k]? = some R[k] := List.getElem?_eq_getElem hk
    dsimp only
    rw [hr]
    exact ref_Put_some X B own b R v ps a A0 c0 bs.length k bs rfl R[k] h hW hl ha0 ha1 hbl hf hr hh hr0 (hA (by have := (hit_iff.1 hh).1; omega))
end Go.Proofs.YtomnfkihieinbaaDoor.PAll
/- The reference's Read and Write. -/
set_option linter.unusedVariables false
set_option linter.unusedSimpArgs false
namespace Go.Proofs.YtomnfkihieinbaaDoor.PAll
open Go.RowKit Go.Shelf Go.Proofs.YtomnfkihieinbaaDoorW.PrintWords Go.Proofs.YtomnfkihieinbaaDoorW.PrintLast Go.Proofs.YtomnfkihieinbaaDoorW.PrintMore
theorem row_R {X : World} {B n : Nat} {v : Value} {xs : List Int} (h : X.ownsRow B 5 1 v n (nums .u8 xs)) : Kd.R (Kd.int .u8) 5 X B (fun _ => True) v xs := by
  have hl : xs.length = n := by have := h.1; rw [nums_length] at this; omega
  subst hl
  exact Kd.R_of_own (enc := fun x => .int .u8 x) (by simpa [encs, nums] using h) (fun _ _ => trivial)
theorem ref_Bytes (X : World) (B : Nat) (own : Nat → Prop) (b : Nat) (R : List Reg) (a n : Int) (h : RefAt X B own b R) (hW : ∀ r ∈ R, Ok r) (hl : R.length ≤ 1000000) (ha0 : 0 ≤ a) (ha1 : a < 18446744073709551616) (hn0 : -9223372036854775808 ≤ n) (hn1 : n < 9223372036854775808) :
    Calls Tryd.prog 40 #[.pointer (some ⟨b, 0, none⟩), .int .u64 a, .int .i64 n] X (BytesPost X R a n) := by
  obtain ⟨v, ps, h⟩ := h
  cases hf : R.findIdx? (hitR a n) with
  | none =>
    refine (ref_Bytes_none X B own b R v ps a n h hW hl ha0 ha1 hn0 hn1 hf).mono ?_
    rintro e X' ⟨he, hb⟩
    have hF : bytesF R a n = none := by unfold bytesF; rw [hf]
    exact ⟨hb, _, by rw [hF]; exact he, by rw [hF]; exact Kd.R_nil _ _ _ _ _⟩
  | some k =>
    obtain ⟨hk, hh, _⟩ := List.findIdx?_eq_some_iff_getElem.1 hf
    have hr : R[k]? = some R[k] := List.getElem?_eq_getElem hk
    obtain ⟨h1, h2, h3⟩ := hit_iff.1 hh
    obtain ⟨nn, rfl⟩ : ∃ nn : Nat, n = nn := ⟨n.toNat, by omega⟩
    have hsh := (hW _ (List.getElem_mem hk)).short
    refine (ref_Bytes_some X B own b R v ps a nn k R[k] h hW hl ha0 ha1 (by omega) hf hr hh).mono ?_
    rintro e X' ⟨⟨v', he, hro⟩, hb⟩
    have hF : bytesF R a nn = some ((R[k].data.drop (a - R[k].base).toNat).take nn) := by unfold bytesF; rw [hf]; dsimp only; rw [hr]; rfl
    exact ⟨hb, v', by rw [hF]; exact he, by rw [hF]; exact row_R hro⟩
theorem bytesF_wf {R : List Reg} (hW : ∀ r ∈ R, ∀ x ∈ r.data, 0 ≤ x ∧ x < 256) {a n : Int} {bs : List Int} (h : bytesF R a n = some bs) : bs.length = n.toNat ∧ ∀ x ∈ bs, 0 ≤ x ∧ x < 256 := by
  unfold bytesF at h
  cases hf : R.findIdx? (hitR a n) with
  | none => rw [hf] at h; cases h
  | some k =>
    rw [hf] at h
    dsimp only at h
    obtain ⟨hk, hh, _⟩ := List.findIdx?_eq_some_iff_getElem.1 hf
    rw [List.getElem?_eq_getElem hk] at h
    dsimp only at h
    obtain rfl := Option.some.inj h
    obtain ⟨h1, h2, h3⟩ := hit_iff.1 hh
    refine ⟨by rw [List.length_take, List.length_drop]; omega, fun x hx => hW _ (List.getElem_mem hk) x (List.mem_of_mem_drop (List.mem_of_mem_take hx))⟩
/-- What stands behind some rounds of Read. -/
def RdRel (bs : List Int) (k : Nat) (x : Int) : Prop := ∃ pre, backL bs.length bs = pre ++ backL k bs ∧ x = valB pre ∧ pre.length + k = bs.length
theorem RdRel.bound {bs : List Int} {k : Nat} {x : Int} (h : RdRel bs k x) (hw : ∀ x ∈ bs, 0 ≤ x ∧ x < 256) : 0 ≤ x ∧ x < 256 ^ (bs.length - k) := by
  obtain ⟨pre, h1, rfl, h3⟩ := h
  refine valB_range _ pre (by omega) (fun y hy => backL_mem bs hw bs.length (Nat.le_refl _) y (by rw [h1]; exact List.mem_append_left _ hy))
theorem RdRel.step {bs : List Int} {k : Nat} {x : Int} (h : RdRel bs (k + 1) x) : RdRel bs k (x * 256 + rd bs k) := by
  obtain ⟨pre, h1, rfl, h3⟩ := h
  exact ⟨pre ++ [((k : Int), rd bs k)], by rw [h1]; simp [backL], by rw [valB_snoc], by simp; omega⟩
theorem RdRel.done {bs : List Int} {x : Int} (h : RdRel bs 0 x) : x = leV bs := by
  obtain ⟨pre, h1, rfl, h3⟩ := h
  unfold leV
  rw [h1]
  simp [backL]
theorem Out.alloc {own : Nat → Prop} {X Y : World} (h : Out own X Y) (o : Obj) : Out own X (Y.alloc o) := h.trans (below_out (below_alloc (Below.refl _ _) _) own) (fun _ _ h => h)
end Go.Proofs.YtomnfkihieinbaaDoor.PAll
