/- mem: slices.Insert of one region's pointer, in the words of the call's own rows. -/
import Derived.Test.YtlolhmocimaobaaMemIns
set_option linter.unusedVariables false
set_option linter.unusedSimpArgs false
namespace Go.Proofs.Ytlolhmocimaobaa.PAll
open Go.RowKit Go.Shelf Go.Lib Go.Proofs.YtlolhmocimaobaaW.PrintWords Go.Proofs.YtlolhmocimaobaaW.PrintLast Go.Proofs.YtlolhmocimaobaaW.PrintMore
def InsPost (X : World) (B : Nat) (v : Value) (n i : Nat) (xs : List Value) (u : Value) (e : Ending) (X' : World) : Prop :=
  ∃ v', e = .returned v' ∧ X'.ownsRow B 56 1 v' (n + 1) (xs.take i ++ [u] ++ xs.drop i) ∧ Out (fun k => v.ownBlock = some k) X X' ∧ ∀ k, v'.ownBlock = some k → v.ownBlock = some k ∨ X.heap.size ≤ k
theorem out_drew (own : Nat → Prop) (X : World) : Out own X X.drew := ⟨rfl, rfl, rfl, Nat.le_refl _, fun _ _ _ => rfl⟩
theorem zeros_size (z : Value) (n : Nat) (h : z.cells.size = 1) : (Builtin.zeroCells z.cells n).size = n := by
  simp [Builtin.zeroCells, h]
theorem lay_shift {cur xs : List Value} {n i : Nat} (u : Value) (hx : cur.take n = xs) (hn : n + 1 ≤ cur.length) (hi : i < n) (c1 c2 : List Value) (h1 : c1 = cur.take (i + 1) ++ xs.drop i ++ cur.drop (i + 1 + (xs.drop i).length)) (h2 : c2 = c1.take i ++ [u] ++ c1.drop (i + 1)) : c2.take (n + 1) = xs.take i ++ [u] ++ xs.drop i := by
  have hxl : xs.length = n := by rw [← hx, List.length_take]; omega
  have e1 : c1.take i = xs.take i := by
    rw [h1, List.take_append_of_le_length (by simp; omega), List.take_append_of_le_length (by simp; omega), List.take_take, Nat.min_eq_left (by omega), ← hx, List.take_take, Nat.min_eq_left (by omega)]
  have e2 : c1.drop (i + 1) = xs.drop i ++ cur.drop (i + 1 + (xs.drop i).length) := by
    rw [h1, List.append_assoc, List.drop_append, List.drop_of_length_le (by simp; omega)]
    rw [List.length_take, Nat.min_eq_left (by omega), Nat.sub_self, List.drop_zero, List.nil_append]
  rw [h2, e1, e2, ← List.append_assoc]
  refine List.take_left' ?_
  simp only [List.length_append, List.length_take, List.length_drop, List.length_cons, List.length_nil]
  omega
set_option maxHeartbeats 2000000 in
theorem ins_row (X : World) (B vb : Nat) (v u : Value) (xs : List Value) (n i : Nat) (t' : TypeId) (h : X.ownsRow B 56 1 v n xs) (hB : B ≤ X.heap.size) (hi : i ≤ n) (hn : n ≤ 1000000) (hu : X.heap[vb]? = some (.cells #[u] t' (0, 0))) (h1 : u.oneCell' = true) (hx1 : ∀ y ∈ xs, y.oneCell' = true) (hvb : v.ownBlock ≠ some vb) :
    Calls Try.prog 31 #[v, .int .i64 i, .slice (some ⟨vb, 0, none⟩) 1 1] X (InsPost X B v n i xs u) := by
  have hxl : xs.length = n := by rw [h.1, Nat.mul_one]
  have hvl : ([u] : List Value).length = 1 := rfl
  have hvs : ∀ j y, ([u] : List Value)[j]? = some y → X.cell? ⟨vb, 0 + j, none⟩ = some y := fun j y hj => by
    match j, hj with
    | 0, hj => obtain rfl := Option.some.inj hj; simp [World.cell?, hu]
    | _ + 1, hj => simp at hj
  have h1v : ∀ y ∈ ([u] : List Value), y.oneCell' = true := fun y hy => by rw [List.mem_singleton.1 hy]; exact h1
  rcases h.2 with ⟨rfl, rfl⟩ | ⟨g, cap, cur, rfl, hg, hh, hnc, hcm, hcs, hct⟩
  · obtain rfl : xs = [] := List.eq_nil_of_length_eq_zero hxl
    obtain rfl : i = 0 := by omega
    refine (slices_Insert_region.end_grow none 0 0 vb 0 1 1 [] [u] X (by decide) (by decide) (by decide) (by decide) rfl rfl (fun _ => rfl) (fun a h => by cases h) hvs h1v).mono ?_
    rintro e X' ⟨rfl, rfl⟩
    have hG := grownCap_ge X (0 + 1) 0 56
    have hGm := grownCap_le_maxLen X (0 + 1) 0 56 (by decide)
    refine ⟨_, rfl, ⟨rfl, .inr ⟨X.heap.size, _, _, rfl, hB, heap_alloc_new X.drew _, hG, hGm, ?_, ?_⟩⟩, ?_, fun k hk => .inr (by simp [Value.ownBlock] at hk; omega)⟩
    · rw [Array.size_append, zeros_size _ _ rfl, List.size_toArray, List.length_append, List.length_nil, List.length_singleton]
      omega
    · simp
    · exact (out_drew _ X).trans (below_out (Below.alloc (Below.refl _ X.drew) (Nat.le_refl _) _) _) (fun _ _ h => h)
  · rw [Nat.mul_one] at hct hcs
    have hcell : ∀ j y, xs[j]? = some y → X.cell? ⟨g, 0 + j, none⟩ = some y := fun j y hj => by
      have := h.cells (g := g) rfl j y hj
      rw [add_plain] at this
      rwa [Nat.zero_add]
    have hcl : cur.toList.length = cap := by rw [Array.length_toList, hcs]
    have hgv : vb ≠ g := fun e => hvb (by rw [e]; rfl)
    have hgl : g < X.heap.size := (Array.getElem?_eq_some_iff.1 hh).1
    have hsp : ∀ j, j < cap → (X.cell? ⟨g, 0 + j, none⟩).isSome = true := fun j hj => by
      simp [World.cell?, hh, hcs, hj]
    have hfz : ∀ j, X.frozen? ⟨g, j, none⟩ = false := fun j => by simp [World.frozen?, hh]
    have hcap : cap ≤ 9223372036854775807 := by unfold maxLen at hcm; omega
    rcases Nat.lt_or_ge i n with hin | hin
    · rcases Nat.lt_or_ge cap (n + 1) with hroom | hroom
      · refine (slices_Insert_region.grow g 0 n cap i vb 0 1 1 xs [u] X hin (by decide) hnc hroom (by omega) hxl rfl hcell hvs hx1 h1v).mono ?_
        rintro e X' ⟨rfl, rfl⟩
        have hG := grownCap_ge X (n + 1) cap 56
        have hGm := grownCap_le_maxLen X (n + 1) cap 56 (by unfold maxLen; omega)
        obtain ⟨G, hGe⟩ : ∃ G, G = grownCap X (n + 1) cap 56 := ⟨_, rfl⟩
        rw [← hGe] at hG hGm ⊢
        obtain ⟨ROW, hROW⟩ : ∃ ROW : Array Value, ROW = (xs.take i).toArray ++ Builtin.zeroCells (Value.pointer none).cells (n + 1 - i) ++ Builtin.zeroCells (Value.pointer none).cells (G - (n + 1)) := ⟨_, rfl⟩
        rw [← hROW]
        have hRs : ROW.size = G := by
          rw [hROW, Array.size_append, Array.size_append, zeros_size _ _ rfl, zeros_size _ _ rfl, List.size_toArray, List.length_take]
          omega
        have hRt : ROW.toList.take i = xs.take i := by
          rw [hROW, Array.toList_append, Array.toList_append, List.append_assoc]
          exact List.take_left' (by simp; omega)
        clear hROW hGe
        obtain ⟨c1, hc1, hs1, hl1⟩ := setCells_row [u] i (X.alloc (.cells ROW 56)).drew ROW (heap_alloc_new X _) (by rw [hRs]; simp; omega)
        obtain ⟨c2, hc2, hs2, hl2⟩ := setCells_row (g := X.heap.size) (xs.drop i) (i + 1) ((X.alloc (.cells ROW 56)).drew.setCells X.heap.size i [u]).drew c1 hc1 (by rw [hs1, hRs, List.length_drop]; omega)
        have o1 := setCells_same X.heap.size [u] i (X.alloc (.cells ROW 56)).drew
        have o2 := setCells_same X.heap.size (xs.drop i) (i + 1) ((X.alloc (.cells ROW 56)).drew.setCells X.heap.size i [u]).drew
        refine ⟨_, rfl, ⟨?_, .inr ⟨X.heap.size, G, c2, rfl, hB, hc2, hG, hGm, by rw [hs2, hs1, hRs, Nat.mul_one], ?_⟩⟩, ⟨o2.1.trans o1.1, o2.2.1.trans o1.2.1, o2.2.2.1.trans o1.2.2.1, ?_, fun k hk _ => ?_⟩, fun k hk => .inr (by simp [Value.ownBlock] at hk; omega)⟩
        · simp only [List.length_append, List.length_take, List.length_drop, List.length_cons, List.length_nil]; omega
        · rw [Nat.mul_one, hl2, hl1, hRt]
          have e1 : (xs.take i ++ [u] ++ ROW.toList.drop (i + [u].length)).take (i + 1) = xs.take i ++ [u] := List.take_left' (by simp; omega)
          rw [e1]
          exact List.take_left' (by simp; omega)
        · rw [o2.2.2.2]
          show _ ≤ ((X.alloc (.cells ROW 56)).drew.setCells X.heap.size i [u]).heap.size
          rw [o1.2.2.2]
          show _ ≤ (X.alloc _).heap.size
          simp
        · rw [setCells_far _ _ _ (by omega)]
          show ((X.alloc (.cells ROW 56)).drew.setCells X.heap.size i [u]).heap[k]? = _
          rw [setCells_far _ _ _ (by omega)]
          exact (below_out (Below.alloc (Below.refl _ X) (Nat.le_refl _) _) (fun _ => False)).block k hk (fun h => h)
      · refine (slices_Insert_region.shift g 0 n cap i vb 0 1 1 xs [u] X hin (by decide) hroom hcap hgv hxl rfl hcell (fun j hj => hsp j (by omega)) (fun j _ => hfz _) hvs hx1 h1v t' 56 1 cap (by simp [World.shape?, hu]) (by simp [World.shape?, hh, hcs]) (by omega) (by simp [World.frozen?, hu]) (by simp [World.frozen?, hu])).mono ?_
        rintro e X' ⟨rfl, rfl⟩
        obtain ⟨c1, hc1, hs1, hl1⟩ := setCells_row (xs.drop i) (0 + (i + 1)) X.drew cur hh (by rw [List.length_drop, hxl, hcs]; omega)
        obtain ⟨c2, hc2, hs2, hl2⟩ := setCells_row [u] (0 + i) _ c1 hc1 (by rw [hs1, hcs]; simp; omega)
        have o1 := setCells_same g (xs.drop i) (0 + (i + 1)) X.drew
        have o2 := setCells_same g [u] (0 + i) (X.drew.setCells g (0 + (i + 1)) (xs.drop i))
        refine ⟨_, rfl, ⟨?_, .inr ⟨g, cap, c2, rfl, hg, hc2, hroom, hcm, ?_, ?_⟩⟩, ⟨o2.1.trans o1.1, o2.2.1.trans o1.2.1, o2.2.2.1.trans o1.2.2.1, by rw [o2.2.2.2, o1.2.2.2]; exact Nat.le_refl _, fun k hk hne => ?_⟩, fun k hk => .inl hk⟩
        · simp only [List.length_append, List.length_take, List.length_drop, List.length_cons, List.length_nil]; omega
        · rw [hs2, hs1, hcs, Nat.mul_one]
        · rw [Nat.mul_one]
          rw [Nat.zero_add] at hl1 hl2
          exact lay_shift u hct (by omega) hin _ _ hl1 hl2
        · have hkg : k ≠ g := fun e => hne (by rw [e]; rfl)
          rw [setCells_far _ _ _ hkg, setCells_far _ _ _ hkg]
          rfl
    · obtain rfl : i = n := by omega
      have hres : xs.take i ++ [u] ++ xs.drop i = xs ++ [u] := by rw [List.take_of_length_le (by omega), List.drop_of_length_le (by omega), List.append_nil]
      rcases Nat.lt_or_ge cap (i + 1) with hroom | hroom
      · refine (slices_Insert_region.end_grow (some ⟨g, 0, none⟩) i cap vb 0 1 1 xs [u] X (by decide) hnc hroom (by omega) hxl rfl (fun h => by cases h) (fun a ha j y hj => by cases ha; rw [add_plain, ← Nat.zero_add j]; exact hcell j y hj) hvs h1v).mono ?_
        rintro e X' ⟨rfl, rfl⟩
        have hG := grownCap_ge X (i + 1) cap 56
        have hGm := grownCap_le_maxLen X (i + 1) cap 56 (by unfold maxLen; omega)
        refine ⟨_, rfl, ⟨by rw [hres]; simp; omega, .inr ⟨X.heap.size, _, _, rfl, hB, heap_alloc_new X.drew _, hG, hGm, ?_, ?_⟩⟩, ?_, fun k hk => .inr (by simp [Value.ownBlock] at hk; omega)⟩
        · rw [Array.size_append, zeros_size _ _ rfl, List.size_toArray, List.length_append, List.length_singleton]
          omega
        · rw [hres, Array.toList_append]
          exact List.take_left' (by simp; omega)
        · exact (out_drew _ X).trans (below_out (Below.alloc (Below.refl _ X.drew) (Nat.le_refl _) _) _) (fun _ _ h => h)
      · refine (slices_Insert_region.end_room g 0 i cap vb 0 1 1 [u] X (by decide) hroom hcap rfl (fun j hj => by rw [Nat.zero_add]; have := hsp (i + j) (by omega); rwa [Nat.zero_add] at this) (fun j _ => hfz _) hvs h1v).mono ?_
        rintro e X' ⟨rfl, rfl⟩
        obtain ⟨c1, hc1, hs1, hl1⟩ := setCells_row [u] (0 + i) X cur hh (by rw [hcs]; simp; omega)
        have o1 := setCells_same g [u] (0 + i) X
        refine ⟨_, rfl, ⟨by rw [hres]; simp; omega, .inr ⟨g, cap, c1, rfl, hg, hc1, hroom, hcm, by rw [hs1, hcs, Nat.mul_one], ?_⟩⟩, ⟨o1.1, o1.2.1, o1.2.2.1, by rw [o1.2.2.2]; exact Nat.le_refl _, fun k hk hne => setCells_far _ _ _ (fun e => hne (by rw [e]; rfl))⟩, fun k hk => .inl hk⟩
        rw [hres, Nat.mul_one, hl1, Nat.zero_add, hct]
        exact List.take_left' (by simp; omega)
end Go.Proofs.Ytlolhmocimaobaa.PAll
