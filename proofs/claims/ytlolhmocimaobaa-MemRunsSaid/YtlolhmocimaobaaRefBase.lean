/- The reference's memory: what lies in the heap. -/
import Derived.Test.YtlolhmocimaobaaMemAlive
import Derived.Maps.AppendAt
set_option linter.unusedVariables false
set_option linter.unusedSimpArgs false
namespace Go.Proofs.Ytlolhmocimaobaa.PAll
open Go.RowKit Go.Shelf Go.Proofs.YtlolhmocimaobaaW.PrintWords Go.Proofs.YtlolhmocimaobaaW.PrintLast Go.Proofs.YtlolhmocimaobaaW.PrintMore
/-- The two cells of a region whose bytes lie in block p.1 (capacity p.2). -/
def cell2 (r : Reg) (p : Nat × Nat) : List Value := [.int .u64 r.base, .slice (some ⟨p.1, 0, none⟩) r.data.length p.2]
def cells2 : List Reg → List (Nat × Nat) → List Value
  | r :: R, p :: ps => cell2 r p ++ cells2 R ps
  | _, _ => []
theorem cells2_len : ∀ (R : List Reg) (ps : List (Nat × Nat)), ps.length = R.length → (cells2 R ps).length = R.length * 2
  | [], [], _ => rfl
  | r :: R, p :: ps, h => by
    simp only [cells2, cell2, List.length_append, List.length_cons, List.length_nil]
    rw [cells2_len R ps (by simpa using h)]
    omega
  | [], _ :: _, h => by simp at h
  | _ :: _, [], h => by simp at h
theorem cells2_append : ∀ (R : List Reg) (ps : List (Nat × Nat)) (r : Reg) (p : Nat × Nat), ps.length = R.length → cells2 (R ++ [r]) (ps ++ [p]) = cells2 R ps ++ cell2 r p
  | [], [], _, _, _ => by simp [cells2]
  | r' :: R, p' :: ps, r, p, h => by
    simp only [List.cons_append, cells2, cells2_append R ps r p (by simpa using h), List.append_assoc]
  | [], _ :: _, _, _, h => by simp at h
  | _ :: _, [], _, _, h => by simp at h
theorem cells2_at : ∀ (R : List Reg) (ps : List (Nat × Nat)) (i : Nat) (r : Reg) (p : Nat × Nat), R[i]? = some r → ps[i]? = some p →
    (cells2 R ps)[i * 2]? = some (.int .u64 r.base) ∧ (cells2 R ps)[i * 2 + 1]? = some (.slice (some ⟨p.1, 0, none⟩) r.data.length p.2)
  | [], _, i, r, p, h, _ => by simp at h
  | _ :: _, [], i, r, p, _, h => by simp at h
  | r' :: R, p' :: ps, 0, r, p, h, k => by
    simp at h k
    subst h; subst k
    exact ⟨rfl, rfl⟩
  | r' :: R, p' :: ps, i + 1, r, p, h, k => by
    have := cells2_at R ps i r p (by simpa using h) (by simpa using k)
    have e : (cells2 (r' :: R) (p' :: ps)) = .int .u64 r'.base :: .slice (some ⟨p'.1, 0, none⟩) r'.data.length p'.2 :: cells2 R ps := rfl
    rw [e, show (i + 1) * 2 = i * 2 + 1 + 1 by omega, show i * 2 + 1 + 1 + 1 = (i * 2 + 1) + 1 + 1 by omega]
    simpa using this
/-- The reference's memory in block b: its list lies in v, the bytes of the i-th region in block ps[i].1. -/
structure RefIn (X : World) (B : Nat) (own : Nat → Prop) (b : Nat) (R : List Reg) (v : Value) (ps : List (Nat × Nat)) : Prop where
  blk : X.heap[b]? = some (.cells #[v] 30 (0, 0))
  ob : own b
  bb : B ≤ b
  row : X.ownsRow B 82 2 v R.length (cells2 R ps)
  orow : ∀ k, v.ownBlock = some k → own k
  len : ps.length = R.length
  reg : ∀ (i : Nat) (p : Nat × Nat) (r : Reg), ps[i]? = some p → R[i]? = some r → own p.1 ∧ X.ownsRow B 5 1 (.slice (some ⟨p.1, 0, none⟩) r.data.length p.2) r.data.length (nums .u8 r.data)
  nd : (ps.map (·.1)).Nodup
def RefAt (X : World) (B : Nat) (own : Nat → Prop) (b : Nat) (R : List Reg) : Prop := ∃ v ps, RefIn X B own b R v ps
theorem RefIn.keep {X X' : World} {B : Nat} {own : Nat → Prop} {b : Nat} {R : List Reg} {v : Value} {ps : List (Nat × Nat)} (h : RefIn X B own b R v ps) (hk : ∀ k, k < X.heap.size → own k → X'.heap[k]? = X.heap[k]?) : RefIn X' B own b R v ps :=
  ⟨(hk b (Array.getElem?_eq_some_iff.1 h.blk).1 h.ob).trans h.blk, h.ob, h.bb, row_keep h.row (fun k hk' => hk k (own_lt h.row k hk') (h.orow k hk')), h.orow, h.len,
    fun i p r hp hr => by
      obtain ⟨g1, g2⟩ := h.reg i p r hp hr
      exact ⟨g1, row_keep g2 (fun k hk' => by cases hk'; exact hk p.1 (own_lt g2 p.1 rfl) g1)⟩, h.nd⟩
theorem RefIn.mono {X : World} {B : Nat} {own own' : Nat → Prop} {b : Nat} {R : List Reg} {v : Value} {ps : List (Nat × Nat)} (h : RefIn X B own b R v ps) (ho : ∀ k, k < X.heap.size → own k → own' k) : RefIn X B own' b R v ps :=
  ⟨h.blk, ho b (Array.getElem?_eq_some_iff.1 h.blk).1 h.ob, h.bb, h.row, fun k hk => ho k (own_lt h.row k hk) (h.orow k hk), h.len,
    fun i p r hp hr => by
      obtain ⟨g1, g2⟩ := h.reg i p r hp hr
      exact ⟨ho p.1 (own_lt g2 p.1 rfl) g1, g2⟩, h.nd⟩
theorem RefAt.keep {X X' : World} {B : Nat} {own : Nat → Prop} {b : Nat} {R : List Reg} (h : RefAt X B own b R) (hk : ∀ k, k < X.heap.size → own k → X'.heap[k]? = X.heap[k]?) : RefAt X' B own b R := by
  obtain ⟨v, ps, h⟩ := h
  exact ⟨v, ps, h.keep hk⟩
theorem RefAt.mono {X : World} {B : Nat} {own own' : Nat → Prop} {b : Nat} {R : List Reg} (h : RefAt X B own b R) (ho : ∀ k, k < X.heap.size → own k → own' k) : RefAt X B own' b R := by
  obtain ⟨v, ps, h⟩ := h
  exact ⟨v, ps, h.mono ho⟩
theorem RefAt.below {X X' : World} {B : Nat} {own : Nat → Prop} {b : Nat} {R : List Reg} (h : RefAt X B own b R) (hb : Below X.heap.size X X') : RefAt X' B own b R := h.keep fun k hk _ => hb.block k hk
theorem RefIn.below {X X' : World} {B : Nat} {own : Nat → Prop} {b : Nat} {R : List Reg} {v : Value} {ps : List (Nat × Nat)} (h : RefIn X B own b R v ps) (hb : Below X.heap.size X X') : RefIn X' B own b R v ps := h.keep fun k hk _ => hb.block k hk
theorem RefAt.bound {X : World} {B : Nat} {own : Nat → Prop} {b : Nat} {R : List Reg} (h : RefAt X B own b R) : RefAt X B (fun k => own k ∧ k < X.heap.size) b R := h.mono fun k hk ho => ⟨ho, hk⟩
theorem RefAt.out {X X' : World} {B : Nat} {own own' : Nat → Prop} {b : Nat} {R : List Reg} (h : RefAt X B own b R) (ho : Out own' X X') (hd : ∀ k, k < X.heap.size → own k → ¬ own' k) : RefAt X' B own b R := h.keep fun k hk hk' => ho.block k hk (hd k hk hk')
theorem blk1 {X : World} {b : Nat} {u : Value} {T : TypeId} (h : X.heap[b]? = some (.cells #[u] T (0, 0))) : X.cell? ⟨b, 0, none⟩ = some u ∧ X.frozen? ⟨b, 0, none⟩ = false := by
  refine ⟨?_, ?_⟩ <;> simp [World.cell?, World.frozen?, h]
/-- The i-th region's cells. -/
theorem RefIn.get {X : World} {B : Nat} {own : Nat → Prop} {b : Nat} {R : List Reg} {v : Value} {ps : List (Nat × Nat)} (h : RefIn X B own b R v ps) {i : Nat} (hi : i < R.length) :
    ∃ p r g cap, ps[i]? = some p ∧ R[i]? = some r ∧ v = .slice (some ⟨g, 0, none⟩) R.length cap ∧ X.cell? ⟨g, i * 2, none⟩ = some (.int .u64 r.base) ∧ X.cell? ⟨g, i * 2 + 1, none⟩ = some (.slice (some ⟨p.1, 0, none⟩) r.data.length p.2) ∧ R.length ≤ cap ∧ cap ≤ maxLen ∧
      own p.1 ∧ X.ownsRow B 5 1 (.slice (some ⟨p.1, 0, none⟩) r.data.length p.2) r.data.length (nums .u8 r.data) := by
  have hip : i < ps.length := by rw [h.len]; exact hi
  have e1 : ps[i]? = some ps[i] := List.getElem?_eq_getElem hip
  have e2 : R[i]? = some R[i] := List.getElem?_eq_getElem hi
  obtain ⟨c0, c1⟩ := cells2_at R ps i _ _ e2 e1
  rcases h.row.2 with ⟨_, h0⟩ | ⟨g, cap, cur, rfl, hg, hh, h3, h4, h5, h6⟩
  · omega
  · have k0 := h.row.cells (g := g) rfl (i * 2) _ c0
    have k1 := h.row.cells (g := g) rfl (i * 2 + 1) _ c1
    rw [add_plain] at k0 k1
    obtain ⟨o1, o2⟩ := h.reg i _ _ e1 e2
    exact ⟨_, _, g, cap, e1, e2, rfl, k0, k1, h3, h4, o1, o2⟩
end Go.Proofs.Ytlolhmocimaobaa.PAll
