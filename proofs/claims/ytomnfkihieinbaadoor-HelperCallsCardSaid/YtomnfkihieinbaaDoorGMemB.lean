/- The texts MemIns, MemIns2, MemAdd, MemDel, MemRem, MemNil, MemLaw, MemAlive of this claim, joined. -/
import Derived.Test.YtomnfkihieinbaaDoorGMemA
import Derived.Shelf.Spec.SlicesInsertGrow
import Derived.Shelf.SlGeneric
import Derived.Ground.SlgnProg
import Derived.Shelf.SlicesE.Delete
import Derived.Test.YtomnfkihieinbaaDoorPAllx1
import Derived.KernelRfl
/- mem: slices.Insert at []*mem.region: the four roads (turned from the shelf's text on slices.Insert at []string). -/
set_option linter.unusedVariables false
set_option linter.unusedSimpArgs false
namespace Go.Proofs.YtomnfkihieinbaaDoor.PAll
open Go.RowKit Go.Shelf Go.Lib Go.Proofs.YtomnfkihieinbaaDoorW.PrintWords Go.Proofs.YtomnfkihieinbaaDoorW.PrintLast Go.Proofs.YtomnfkihieinbaaDoorW.PrintMore
attribute [local go_sem] Oper.semAt_some
theorem mixed_here : Tryd.prog.follows .mixedOrders = true := by kernel_rfl
theorem info_region : (Tryd.prog.info? 128).map (fun i => (i.zero, i.size, i.bytes)) = some (some (Value.pointer none), 1, 8) := by kernel_rfl
set_option maxHeartbeats 4000000 in
set_option maxRecDepth 100000 in
theorem slices_Insert_region.shift (b off n c i vb voff m vc : Nat) (cs vs : List Value) (w : World) (hi : i < n) (hm : 0 < m) (hroom : n + m ≤ c) (hc63 : c ≤ 9223372036854775807) (hvb : vb ≠ b)
    (hcl : cs.length = n) (hvl : vs.length = m)
    (hcs : ∀ j v, cs[j]? = some v → w.cell? ⟨b, off + j, none⟩ = some v) (hsp : ∀ j, j < n + m → (w.cell? ⟨b, off + j, none⟩).isSome = true) (hfz : ∀ j, j < n + m → w.frozen? ⟨b, off + j, none⟩ = false)
    (hvs : ∀ j v, vs[j]? = some v → w.cell? ⟨vb, voff + j, none⟩ = some v) (h1c : ∀ v ∈ cs, v.oneCell' = true) (h1v : ∀ v ∈ vs, v.oneCell' = true)
    (tA tB : TypeId) (kA kB : Nat) (hsa : w.shape? vb = some (tA, kA)) (hsb : w.shape? b = some (tB, kB)) (hkB : kB ≠ 0) (hfa : w.frozen? ⟨vb, voff, none⟩ = false) (hfe : w.frozen? ⟨vb, kA, none⟩ = false) :
    Calls Tryd.prog 51 #[.slice (some ⟨b, off, none⟩) n c, .int .i64 i, .slice (some ⟨vb, voff, none⟩) m vc] w fun e w' =>
      e = .returned (.slice (some ⟨b, off, none⟩) (n + m) c) ∧ w' = (w.drew.setCells b (off + (i + m)) (cs.drop i)).setCells b (off + i) vs := by
  have mixed := mixed_here
  have hz1 : ¬ ((m : Int) = 0) := by omega
  have hz2 : ¬ ((i : Int) = (n : Int)) := by omega
  have hsz : (Tryd.prog.info? 128).map (·.size) = some 1 := by
    obtain ⟨i0, hi0, h0, h1, h2⟩ := info_parts (info_region)
    rw [hi0]; simp [h1]
  have hov : ∀ lb cb, (callFunc 66 #[.slice (some ⟨vb, voff, none⟩) m vc, .slice (some ⟨b, off + (i + m), none⟩) lb cb]).run Tryd.prog w = .ok (.value (.bool false)) w := fun lb cb => by
    rw [run_callFunc_extern Tryd.func66 (by kernel_rfl) (by kernel_rfl) (by kernel_rfl) (e := Extern.SlicesOverlaps.overlaps #[115, 115] #[4]) (by kernel_rfl),
      Lib.run_overlaps_apart w 115 4 128 Tryd.underlying115 1 Tryd.sizeOf128 ⟨vb, voff, none⟩ ⟨b, off + (i + m), none⟩ m vc lb cb hvb tA tB kA kB hsa hsb hkB hfa hfe]
    rfl
  have hdl : (cs.drop i).length = n - i := by rw [List.length_drop, hcl]
  have hw1 : IntKind.i64.wrap ((i : Int) + (m : Int)) = (i : Int) + (m : Int) := by rw [IntKind.wrap_i64]; omega
  have hb1 : (0 : Int) ≤ (i : Int) + (m : Int) := by omega
  have hin : i ≤ n := by omega
  have htn : ((i : Int) + (m : Int)).toNat = i + m := by omega
  have hb2 : ¬ (c = i + m) := by omega
  have hb3 : (i : Int) ≤ (n : Int) + (m : Int) := by omega
  have hb4 : ¬ (c = i) := by omega
  have hcp1 : ∀ ty dc sc, (Builtin.copy_ #[115, 115] ty #[.slice (some ⟨b, off + (i + m), none⟩) (n + m - (i + m)) dc, .slice (some ⟨b, off + i, none⟩) (n + m - i) sc]).run Tryd.prog w.drew = .ok (goInt (cs.drop i).length) (w.drew.setCells b (off + (i + m)) (cs.drop i)) := fun ty dc sc =>
    run_copy_cells w.drew _ _ ty 128 b (off + (i + m)) (n + m - (i + m)) dc ⟨b, off + i, none⟩ (n + m - i) sc (cs.drop i) Tryd.underlying115 hsz (by rw [hdl]; simp only [Nat.min_def]; split <;> omega)
      (fun j v hj => by rw [Addr.add_lit, Nat.add_assoc]; exact hcs (i + j) v (by rwa [List.getElem?_drop] at hj))
      (fun j hj => by rw [Nat.add_assoc]; exact hsp _ (by omega)) (fun j hj => by rw [Nat.add_assoc]; exact hfz _ (by omega)) (fun v hv => h1c v (List.mem_of_mem_drop hv))
  obtain ⟨W1, hW1⟩ : ∃ W1, W1 = w.drew.setCells b (off + (i + m)) (cs.drop i) := ⟨_, rfl⟩
  have hsp1 : ∀ k, k < n + m → (W1.cell? ⟨b, off + k, none⟩).isSome = true := fun k hk => by
    rw [hW1]
    exact isSome_setCells b _ _ _ (fun j hj => by rw [Nat.add_assoc]; exact hsp _ (by omega)) _ (hsp k hk)
  have hcp2 : ∀ (W : World), (∀ x, W.cell? x = W1.cell? x) → (∀ x, W.frozen? x = W1.frozen? x) → ∀ ty dc, (Builtin.copy_ #[115, 115] ty #[.slice (some ⟨b, off + i, none⟩) (n + m - i) dc, .slice (some ⟨vb, voff, none⟩) m vc]).run Tryd.prog W = .ok (goInt vs.length) (W.setCells b (off + i) vs) := fun W hWc hWf ty dc =>
    run_copy_cells W _ _ ty 128 b (off + i) (n + m - i) dc ⟨vb, voff, none⟩ m vc vs Tryd.underlying115 hsz (by rw [hvl]; simp only [Nat.min_def]; split <;> omega)
      (fun j v hj => by
        rw [Addr.add_lit, hWc, hW1, World.cell?_setCells_out b _ _ _ _ (fun h _ => absurd h hvb)]
        exact hvs j v hj)
      (fun j hj => by rw [hWc, Nat.add_assoc]; exact hsp1 _ (by omega)) (fun j hj => by rw [hWf, hW1, World.frozen?_setCells, Nat.add_assoc]; exact hfz _ (by omega)) h1v
  rw [← hW1] at hcp1
  go_enter Tryd.func51, Tryd.ntmps51
  go_wp2_with (simp only [hov])
  go_region_law_o (refine step_copy_runI rfl _ _ 115 115 rfl _ _ (by simp [Act.eval, Act.put]) (by simp [Act.eval, Act.put]) (hcp1 _ _ _) ?_)
  go_wp2_with (at_builtin; refine wpList_copy_runI _ rfl _ _ 115 115 rfl _ _ rfl rfl (hcp2 _ (fun _ => rfl) (fun _ => rfl) _ _) ?_)
  go_ret
  first | exact ⟨rfl, rfl⟩ | exact ⟨rfl, by rw [hW1]⟩

set_option maxHeartbeats 4000000 in
set_option maxRecDepth 100000 in
theorem slices_Insert_region.end_room (b off n c vb voff m vc : Nat) (vs : List Value) (w : World) (hm : 0 < m) (hroom : n + m ≤ c) (hc63 : c ≤ 9223372036854775807)
    (hvl : vs.length = m) (hsp : ∀ j, j < m → (w.cell? ⟨b, off + n + j, none⟩).isSome = true) (hfz : ∀ j, j < m → w.frozen? ⟨b, off + n + j, none⟩ = false)
    (hvs : ∀ j v, vs[j]? = some v → w.cell? ⟨vb, voff + j, none⟩ = some v) (h1v : ∀ v ∈ vs, v.oneCell' = true) :
    Calls Tryd.prog 51 #[.slice (some ⟨b, off, none⟩) n c, .int .i64 n, .slice (some ⟨vb, voff, none⟩) m vc] w fun e w' =>
      e = .returned (.slice (some ⟨b, off, none⟩) (n + m) c) ∧ w' = w.setCells b (off + n) vs := by
  have mixed := mixed_here
  have hz1 : ¬ ((m : Int) = 0) := by omega
  have hsrc : Src Tryd.prog 1 115 (.slice (some ⟨vb, voff, none⟩) m vc) m vs w := Src.ofSlice w Tryd.underlying115 ⟨vb, voff, none⟩ m vc vs (by omega) (fun j u hj => by rw [Addr.add_lit]; exact hvs j u hj) h1v
  go_enter Tryd.func51, Tryd.ntmps51
  go_wp2_with (at_builtin; refine wpList_append_room1 _ rfl _ _ 115 115 rfl 128 _ _ Tryd.underlying115 (info_region) b off n c rfl _ rfl m vs hsrc hroom (by rw [hvl]; exact hsp) (by rw [hvl]; exact hfz) ?_)
  go_ret
  exact ⟨rfl, rfl⟩

set_option maxHeartbeats 4000000 in
set_option maxRecDepth 100000 in
theorem slices_Insert_region.end_grow (base : Option Addr) (n c vb voff m vc : Nat) (cs vs : List Value) (w : World) (hm : 0 < m) (hnc : n ≤ c) (hroom : c < n + m) (hbig : (n + m) * 8 ≤ 140737488355328)
    (hcl : cs.length = n) (hvl : vs.length = m) (hnil : base = none → n = 0)
    (hcs : ∀ a, base = some a → ∀ j v, cs[j]? = some v → w.cell? (a.add j) = some v)
    (hvs : ∀ j v, vs[j]? = some v → w.cell? ⟨vb, voff + j, none⟩ = some v) (h1v : ∀ v ∈ vs, v.oneCell' = true) :
    Calls Tryd.prog 51 #[.slice base n c, .int .i64 n, .slice (some ⟨vb, voff, none⟩) m vc] w fun e w' =>
      e = .returned (.slice (some ⟨w.heap.size, 0, none⟩) (n + m) (grownCap w (n + m) c 128)) ∧
      w' = w.drew.alloc (.cells ((cs ++ vs).toArray ++ Builtin.zeroCells (Value.pointer none).cells (grownCap w (n + m) c 128 - (n + m))) 128) := by
  obtain ⟨i0, hi0, hz0, hzs, hzb⟩ := info_parts (info_region)
  have mixed := mixed_here
  have hz1 : ¬ ((m : Int) = 0) := by omega
  have hsrc : Src Tryd.prog i0.size 115 (.slice (some ⟨vb, voff, none⟩) m vc) m vs w := by
    rw [hzs]
    exact Src.ofSlice w Tryd.underlying115 ⟨vb, voff, none⟩ m vc vs (by omega) (fun j u hj => by rw [Addr.add_lit]; exact hvs j u hj) h1v
  have hold : (Builtin.firstCells i0.size n (.slice base n c)).run Tryd.prog w.drew = .ok cs.toArray w.drew := by
    rw [hzs]
    cases base with
    | none =>
      have h0 := hnil rfl
      subst h0
      rw [List.length_eq_zero_iff.1 hcl]
      exact run_firstCells_none w.drew 1 0 0 c
    | some a => exact run_firstCells_some w.drew 1 n a n c cs (by omega) (fun j v hj => hcs a rfl j v hj)
  have hrun : ∀ ty, (Builtin.append_ #[115, 115] ty #[.slice base n c, .slice (some ⟨vb, voff, none⟩) m vc]).run Tryd.prog w = _ := fun ty =>
    run_append_grow_src w 115 115 ty 128 i0 _ Tryd.underlying115 hi0 hz0 base n c cs hold _ m vs hsrc hroom (by omega) (by rw [hzb]; exact growslice_fits hroom hbig)
  go_enter Tryd.func51, Tryd.ntmps51
  cases base with
  | none =>
    have h0 := hnil rfl
    subst h0
    go_wp2_with (at_builtin; refine Lib.wpList_append_run _ rfl _ _ _ _ rfl _ _ rfl rfl _ _ (hrun _) ?_)
    go_ret
    exact ⟨rfl, rfl⟩
  | some a =>
    obtain ⟨ab, ao, asp⟩ := a
    go_wp2_with (at_builtin; refine Lib.wpList_append_run _ rfl _ _ _ _ rfl _ _ rfl rfl _ _ (hrun _) ?_)
    all_goals (go_ret; exact ⟨rfl, rfl⟩)

set_option maxHeartbeats 4000000 in
set_option maxRecDepth 100000 in
theorem slices_Insert_region.grow (b off n c i vb voff m vc : Nat) (cs vs : List Value) (w : World) (hi : i < n) (hm : 0 < m) (hnc : n ≤ c) (hroom : c < n + m) (hbig : (n + m) * 8 ≤ 140737488355328)
    (hcl : cs.length = n) (hvl : vs.length = m)
    (hcs : ∀ j v, cs[j]? = some v → w.cell? ⟨b, off + j, none⟩ = some v)
    (hvs : ∀ j v, vs[j]? = some v → w.cell? ⟨vb, voff + j, none⟩ = some v) (h1c : ∀ v ∈ cs, v.oneCell' = true) (h1v : ∀ v ∈ vs, v.oneCell' = true) :
    Calls Tryd.prog 51 #[.slice (some ⟨b, off, none⟩) n c, .int .i64 i, .slice (some ⟨vb, voff, none⟩) m vc] w fun e w' =>
      e = .returned (.slice (some ⟨w.heap.size, 0, none⟩) (n + m) (grownCap w (n + m) c 128)) ∧
      w' = (((w.alloc (.cells ((cs.take i).toArray ++ Builtin.zeroCells (Value.pointer none).cells (n + m - i) ++ Builtin.zeroCells (Value.pointer none).cells (grownCap w (n + m) c 128 - (n + m))) 128)).drew.setCells w.heap.size i vs).drew).setCells w.heap.size (i + m) (cs.drop i) := by
  obtain ⟨i0, hi0, hz0, hzs, hzb⟩ := info_parts (info_region)
  have mixed := mixed_here
  have hz1 : ¬ ((m : Int) = 0) := by omega
  have hz2 : ¬ ((i : Int) = (n : Int)) := by omega
  have hz3 : (c : Int) < (n : Int) + (m : Int) := by omega
  have hsz : (Tryd.prog.info? 128).map (·.size) = some 1 := by rw [hi0]; simp [hzs]
  have hbw : b < w.heap.size := block_lt_of_cell (hcs 0 _ (List.getElem?_eq_getElem (by omega)))
  have hvw : vb < w.heap.size := block_lt_of_cell (hvs 0 _ (List.getElem?_eq_getElem (by omega)))
  have hkk : (n : Int) + (m : Int) - (i : Int) = ((n + m - i : Nat) : Int) := by omega
  have hik : i + (n + m - i) = n + m := by omega
  have hold : (Builtin.firstCells i0.size i (.slice (some ⟨b, off, none⟩) i c)).run Tryd.prog w.drew = .ok (cs.take i).toArray w.drew := by
    rw [hzs]
    exact run_firstCells_some w.drew 1 i ⟨b, off, none⟩ i c (cs.take i) (by rw [List.length_take]; omega) (fun j v hj => by
      rw [Addr.add_lit]
      rw [List.getElem?_take] at hj
      split at hj
      · exact hcs j v hj
      · cases hj)
  have hrz : ∀ ty, (Builtin.append_ #[115, 3] ty #[.slice (some ⟨b, off, none⟩) i c, .int .i64 ((n : Int) + (m : Int) - (i : Int))]).run Tryd.prog w =
      .ok (.slice (some ⟨w.heap.size, 0, none⟩) (n + m) (grownCap w (n + m) c 128)) (w.drew.alloc (.cells ((cs.take i).toArray ++ Builtin.zeroCells (Value.pointer none).cells (n + m - i) ++ Builtin.zeroCells (Value.pointer none).cells (grownCap w (n + m) c 128 - (n + m))) 128)) := fun ty => by
    have h := Lib.run_append_grow_zeros w 115 3 ty 128 i0 _ .i64 .i64 Tryd.underlying115 Tryd.underlying3 hi0 hz0 (some ⟨b, off, none⟩) i c (cs.take i) hold (n + m - i) (by omega) (by omega) (by omega) (by omega) (by rw [hzb]; omega) (by rw [hzb, hik]; exact growslice_fits hroom hbig)
    rw [hik] at h
    rw [hkk]
    exact h
  obtain ⟨G, hG⟩ : ∃ G, G = grownCap w (n + m) c 128 := ⟨_, rfl⟩
  obtain ⟨ROW, hROW⟩ : ∃ ROW : Array Value, ROW = (cs.take i).toArray ++ Builtin.zeroCells (Value.pointer none).cells (n + m - i) ++ Builtin.zeroCells (Value.pointer none).cells (G - (n + m)) := ⟨_, rfl⟩
  rw [← hG] at hrz ⊢
  rw [← hROW] at hrz ⊢
  have hRl : n + m ≤ ROW.size := by
    rw [hROW]
    simp [Builtin.zeroCells, Value.cells]
    omega
  obtain ⟨W1, hW1⟩ : ∃ W1, W1 = w.drew.alloc (.cells ROW 128) := ⟨_, rfl⟩
  rw [← hW1] at hrz
  have hN : ∀ j, j < n + m → (W1.cell? ⟨w.heap.size, j, none⟩).isSome = true := fun j hj => by
    rw [hW1, World.cell?_alloc_at (w := w.drew) ROW _ w.heap.size j rfl, Array.getElem?_eq_getElem (by omega)]; rfl
  have hNf : ∀ j, W1.frozen? ⟨w.heap.size, j, none⟩ = false := fun j => by rw [hW1]; exact World.frozen?_alloc_at (w := w.drew) ROW _ w.heap.size j rfl
  have hOb : ∀ j v, w.cell? ⟨b, j, none⟩ = some v → W1.cell? ⟨b, j, none⟩ = some v := fun j v h => by rw [hW1, World.cell?_alloc_past (w := w.drew) _ b j hbw]; exact h
  have hOv : ∀ j v, w.cell? ⟨vb, j, none⟩ = some v → W1.cell? ⟨vb, j, none⟩ = some v := fun j v h => by rw [hW1, World.cell?_alloc_past (w := w.drew) _ vb j hvw]; exact h
  have hcpA : ∀ (W : World), (∀ x, W.cell? x = W1.cell? x) → (∀ x, W.frozen? x = W1.frozen? x) → ∀ ty dc, (Builtin.copy_ #[115, 115] ty #[.slice (some ⟨w.heap.size, i, none⟩) (n + m - i) dc, .slice (some ⟨vb, voff, none⟩) m vc]).run Tryd.prog W = .ok (goInt vs.length) (W.setCells w.heap.size i vs) := fun W hWc hWf ty dc =>
    run_copy_cells W _ _ ty 128 w.heap.size i (n + m - i) dc ⟨vb, voff, none⟩ m vc vs Tryd.underlying115 hsz (by rw [hvl]; simp only [Nat.min_def]; split <;> omega)
      (fun j v hj => by rw [Addr.add_lit, hWc]; exact hOv _ v (hvs j v hj))
      (fun j hj => by rw [hWc]; exact hN _ (by omega)) (fun j hj => by rw [hWf]; exact hNf _) h1v
  have hGn : n + m ≤ G := by rw [hG]; exact grownCap_ge w _ _ _
  have hG63 : G ≤ 9223372036854775807 := by
    have := grownCap_le_maxLen w (n + m) c 128 (by unfold maxLen; omega)
    rw [← hG] at this
    unfold maxLen at this
    omega
  have hGi : ¬ (G = i) := by omega
  have hGim : ¬ (G = i + m) := by omega
  have hci : ¬ (c = i) := by omega
  have hbN : b ≠ w.heap.size := by omega
  have hdl : (cs.drop i).length = n - i := by rw [List.length_drop, hcl]
  have hcpB : ∀ (W : World), (∀ x, W.cell? x = (W1.setCells w.heap.size i vs).cell? x) → (∀ x, W.frozen? x = (W1.setCells w.heap.size i vs).frozen? x) → ∀ ty dc sc, (Builtin.copy_ #[115, 115] ty #[.slice (some ⟨w.heap.size, i + m, none⟩) (n + m - (i + m)) dc, .slice (some ⟨b, off + i, none⟩) (n - i) sc]).run Tryd.prog W = .ok (goInt (cs.drop i).length) (W.setCells w.heap.size (i + m) (cs.drop i)) := fun W hWc hWf ty dc sc =>
    run_copy_cells W _ _ ty 128 w.heap.size (i + m) (n + m - (i + m)) dc ⟨b, off + i, none⟩ (n - i) sc (cs.drop i) Tryd.underlying115 hsz (by rw [hdl]; simp only [Nat.min_def]; split <;> omega)
      (fun j v hj => by
        rw [Addr.add_lit, hWc, World.cell?_setCells_out _ _ _ _ _ (fun h _ => absurd h hbN), Nat.add_assoc]
        exact hOb _ v (hcs (i + j) v (by rwa [List.getElem?_drop] at hj)))
      (fun j hj => by rw [hWc]; exact isSome_setCells _ _ _ _ (fun t ht => hN _ (by omega)) _ (hN _ (by omega)))
      (fun j hj => by rw [hWf, World.frozen?_setCells]; exact hNf _) (fun v hv => h1c v (List.mem_of_mem_drop hv))
  subst hW1
  have hE1 : ∀ x, ((w.alloc (.cells ROW 128)).drew).cell? x = (w.drew.alloc (.cells ROW 128)).cell? x := fun x => rfl
  have hE2 : ∀ x, ((w.alloc (.cells ROW 128)).drew).frozen? x = (w.drew.alloc (.cells ROW 128)).frozen? x := fun x => rfl
  have hF1 : ∀ x, (((w.alloc (.cells ROW 128)).drew.setCells w.heap.size i vs).drew).cell? x = ((w.drew.alloc (.cells ROW 128)).setCells w.heap.size i vs).cell? x := fun x => rfl
  have hF2 : ∀ x, (((w.alloc (.cells ROW 128)).drew.setCells w.heap.size i vs).drew).frozen? x = ((w.drew.alloc (.cells ROW 128)).setCells w.heap.size i vs).frozen? x := fun x => rfl
  have hw1 : IntKind.i64.wrap ((i : Int) + (m : Int)) = (i : Int) + (m : Int) := by rw [IntKind.wrap_i64]; omega
  have hb1 : (0 : Int) ≤ (i : Int) + (m : Int) := by omega
  have hin : i ≤ n := by omega
  have htn : ((i : Int) + (m : Int)).toNat = i + m := by omega
  have hb3 : (i : Int) ≤ (n : Int) := by omega
  clear hkk hik hold hROW hG hRl
  go_enter Tryd.func51, Tryd.ntmps51
  go_wp2_with (first
    | (at_builtin; refine Lib.wpList_append_run _ rfl _ _ _ _ rfl _ _ rfl rfl _ _ (hrz _) ?_)
    | (at_builtin; refine wpList_copy_runI _ rfl _ _ 115 115 rfl _ _ rfl rfl (hcpA _ hE1 hE2 _ _) ?_)
    | (at_builtin; refine wpList_copy_runI _ rfl _ _ 115 115 rfl _ _ rfl rfl (hcpB _ (fun _ => rfl) (fun _ => rfl) _ _ _) ?_))
  go_region_law_o (refine step_copy_runI rfl _ _ 115 115 rfl (.slice (some ⟨w.heap.size, i + m, none⟩) (n + m - (i + m)) (G - (i + m))) (.slice (some ⟨b, off + i, none⟩) (n - i) (c - i)) (by simp [Act.eval, Act.put]) (by simp [Act.eval, Act.put]) (hcpB _ hF1 hF2 3 (G - (i + m)) (c - i)) ?_)
  go_wp2
  go_ret
  exact ⟨rfl, rfl⟩
end Go.Proofs.YtomnfkihieinbaaDoor.PAll
/- mem: slices.Insert of one region's pointer, in the words of the call's own rows. -/
set_option linter.unusedVariables false
set_option linter.unusedSimpArgs false
namespace Go.Proofs.YtomnfkihieinbaaDoor.PAll
open Go.RowKit Go.Shelf Go.Lib Go.Proofs.YtomnfkihieinbaaDoorW.PrintWords Go.Proofs.YtomnfkihieinbaaDoorW.PrintLast Go.Proofs.YtomnfkihieinbaaDoorW.PrintMore
def InsPost (X : World) (B : Nat) (v : Value) (n i : Nat) (xs : List Value) (u : Value) (e : Ending) (X' : World) : Prop :=
  ∃ v', e = .returned v' ∧ X'.ownsRow B 128 1 v' (n + 1) (xs.take i ++ [u] ++ xs.drop i) ∧ Out (fun k => v.ownBlock = some k) X X' ∧ ∀ k, v'.ownBlock = some k → v.ownBlock = some k ∨ X.heap.size ≤ k
theorem out_drew (own : Nat → Prop) (X : World) : Out own X X.drew := ⟨rfl, rfl, rfl, Nat.le_refl _, fun _ _ _ => rfl⟩
theorem zeros_size (z : Value) (n : Nat) (h : z.cells.size = 1) : (Builtin.zeroCells z.cells n).size = n := by
  simp [Builtin.zeroCells, h]
theorem lay_shift {cur xs : List Value} {n i : Nat} (u : Value) (hx : cur.take n = xs) (hn : n + 1 ≤ cur.length) (hi : i < n) (c1 c2 : List Value) (h1 : c1 = cur.take (i + 1) ++ xs.drop i ++ cur.drop (i + 1 + (xs.drop i).length)) (h2 : c2 = c1.take i ++ [u] ++ c1.drop (i + 1)) : c2.take (n + 1) = xs.take i ++ [u] ++ xs.drop i := by
  have hxl : xs.length = n := by rw [← hx, List.length_take]; omega
  have e1 : c1.take i = xs.take i := by
    rw [h1, List.take_append_of_le_length (by simp; omega), List.take_append_of_le_length (by simp; omega), List.take_take, Nat.min_eq_left (by omega), ← hx, List.take_take, Nat.min_eq_left (by omega)]
  have e2 : c1.drop (i + 1) = xs.drop i ++ cur.drop (i + 1 + (xs.drop i).length) := by
    rw [h1, List.append_assoc, List.drop_append, List.drop_of_length_le (by simp; omega)]
    rw [List.length_take, Nat.min_eq_left (by omega), Nat.sub_self, List.drop_zero, List.nil_append]
  rw [h2, e1, e2, ← List.append_assoc]
  refine List.take_left' ?_
  simp only [List.length_append, List.length_take, List.length_drop, List.length_cons, List.length_nil]
  omega
set_option maxHeartbeats 2000000 in
theorem ins_row (X : World) (B vb : Nat) (v u : Value) (xs : List Value) (n i : Nat) (t' : TypeId) (h : X.ownsRow B 128 1 v n xs) (hB : B ≤ X.heap.size) (hi : i ≤ n) (hn : n ≤ 1000000) (hu : X.heap[vb]? = some (.cells #[u] t' (0, 0))) (h1 : u.oneCell' = true) (hx1 : ∀ y ∈ xs, y.oneCell' = true) (hvb : v.ownBlock ≠ some vb) :
    Calls Tryd.prog 51 #[v, .int .i64 i, .slice (some ⟨vb, 0, none⟩) 1 1] X (InsPost X B v n i xs u) := by
  have hxl : xs.length = n := by rw [h.1, Nat.mul_one]
  have hvl : ([u] : List Value).length = 1 := rfl
  have hvs : ∀ j y, ([u] : List Value)[j]? = some y → X.cell? ⟨vb, 0 + j, none⟩ = some y := fun j y hj => by
    match j, hj with
    | 0, hj => obtain rfl := Option.some.inj hj; simp [World.cell?, hu]
    | _ + 1, hj => simp at hj
  have h1v : ∀ y ∈ ([u] : List Value), y.oneCell' = true := fun y hy => by rw [List.mem_singleton.1 hy]; exact h1
  rcases h.2 with ⟨rfl, rfl⟩ | ⟨g, cap, cur, rfl, hg, hh, hnc, hcm, hcs, hct⟩
  · obtain rfl : xs = [] := List.eq_nil_of_length_eq_zero hxl
    obtain rfl : i = 0 := by omega
    refine (slices_Insert_region.end_grow none 0 0 vb 0 1 1 [] [u] X (by decide) (by decide) (by decide) (by decide) rfl rfl (fun _ => rfl) (fun a h => by cases h) hvs h1v).mono ?_
    rintro e X' ⟨rfl, rfl⟩
    have hG := grownCap_ge X (0 + 1) 0 128
    have hGm := grownCap_le_maxLen X (0 + 1) 0 128 (by decide)
    refine ⟨_, rfl, ⟨rfl, .inr ⟨X.heap.size, _, _, rfl, hB, heap_alloc_new X.drew _, hG, hGm, ?_, ?_⟩⟩, ?_, fun k hk => .inr (by simp [Value.ownBlock] at hk; omega)⟩
    · rw [Array.size_append, zeros_size _ _ rfl, List.size_toArray, List.length_append, List.length_nil, List.length_singleton]
      omega
    · simp
    · exact (out_drew _ X).trans (below_out (Below.alloc (Below.refl _ X.drew) (Nat.le_refl _) _) _) (fun _ _ h => h)
  · rw [Nat.mul_one] at hct hcs
    have hcell : ∀ j y, xs[j]? = some y → X.cell? ⟨g, 0 + j, none⟩ = some y := fun j y hj => by
      have := h.cells (g := g) rfl j y hj
      rw [add_plain] at this
      rwa [Nat.zero_add]
    have hcl : cur.toList.length = cap := by rw [Array.length_toList, hcs]
    have hgv : vb ≠ g := fun e => hvb (by rw [e]; rfl)
    have hgl : g < X.heap.size := (Array.getElem?_eq_some_iff.1 hh).1
    have hsp : ∀ j, j < cap → (X.cell? ⟨g, 0 + j, none⟩).isSome = true := fun j hj => by
      simp [World.cell?, hh, hcs, hj]
    have hfz : ∀ j, X.frozen? ⟨g, j, none⟩ = false := fun j => by simp [World.frozen?, hh]
    have hcap : cap ≤ 9223372036854775807 := by unfold maxLen at hcm; omega
    rcases Nat.lt_or_ge i n with hin | hin
    · rcases Nat.lt_or_ge cap (n + 1) with hroom | hroom
      · refine (slices_Insert_region.grow g 0 n cap i vb 0 1 1 xs [u] X hin (by decide) hnc hroom (by omega) hxl rfl hcell hvs hx1 h1v).mono ?_
        rintro e X' ⟨rfl, rfl⟩
        have hG := grownCap_ge X (n + 1) cap 128
        have hGm := grownCap_le_maxLen X (n + 1) cap 128 (by unfold maxLen; omega)
        obtain ⟨G, hGe⟩ : ∃ G, G = grownCap X (n + 1) cap 128 := ⟨_, rfl⟩
        rw [← hGe] at hG hGm ⊢
        obtain ⟨ROW, hROW⟩ : ∃ ROW : Array Value, ROW = (xs.take i).toArray ++ Builtin.zeroCells (Value.pointer none).cells (n + 1 - i) ++ Builtin.zeroCells (Value.pointer none).cells (G - (n + 1)) := ⟨_, rfl⟩
        rw [← hROW]
        have hRs : ROW.size = G := by
          rw [hROW, Array.size_append, Array.size_append, zeros_size _ _ rfl, zeros_size _ _ rfl, List.size_toArray, List.length_take]
          omega
        have hRt : ROW.toList.take i = xs.take i := by
          rw [hROW, Array.toList_append, Array.toList_append, List.append_assoc]
          exact List.take_left' (by simp; omega)
        clear hROW hGe
        obtain ⟨c1, hc1, hs1, hl1⟩ := setCells_row [u] i (X.alloc (.cells ROW 128)).drew ROW (heap_alloc_new X _) (by rw [hRs]; simp; omega)
        obtain ⟨c2, hc2, hs2, hl2⟩ := setCells_row (g := X.heap.size) (xs.drop i) (i + 1) ((X.alloc (.cells ROW 128)).drew.setCells X.heap.size i [u]).drew c1 hc1 (by rw [hs1, hRs, List.length_drop]; omega)
        have o1 := setCells_same X.heap.size [u] i (X.alloc (.cells ROW 128)).drew
        have o2 := setCells_same X.heap.size (xs.drop i) (i + 1) ((X.alloc (.cells ROW 128)).drew.setCells X.heap.size i [u]).drew
        refine ⟨_, rfl, ⟨?_, .inr ⟨X.heap.size, G, c2, rfl, hB, hc2, hG, hGm, by rw [hs2, hs1, hRs, Nat.mul_one], ?_⟩⟩, ⟨o2.1.trans o1.1, o2.2.1.trans o1.2.1, o2.2.2.1.trans o1.2.2.1, ?_, fun k hk _ => ?_⟩, fun k hk => .inr (by simp [Value.ownBlock] at hk; omega)⟩
        · simp only [List.length_append, List.length_take, List.length_drop, List.length_cons, List.length_nil]; omega
        · rw [Nat.mul_one, hl2, hl1, hRt]
          have e1 : (xs.take i ++ [u] ++ ROW.toList.drop (i + [u].length)).take (i + 1) = xs.take i ++ [u] := List.take_left' (by simp; omega)
          rw [e1]
          exact List.take_left' (by simp; omega)
        · rw [o2.2.2.2]
          show _ ≤ ((X.alloc (.cells ROW 128)).drew.setCells X.heap.size i [u]).heap.size
          rw [o1.2.2.2]
          show _ ≤ (X.alloc _).heap.size
          simp
        · rw [setCells_far _ _ _ (by omega)]
          show ((X.alloc (.cells ROW 128)).drew.setCells X.heap.size i [u]).heap[k]? = _
          rw [setCells_far _ _ _ (by omega)]
          exact (below_out (Below.alloc (Below.refl _ X) (Nat.le_refl _) _) (fun _ => False)).block k hk (fun h => h)
      · refine (slices_Insert_region.shift g 0 n cap i vb 0 1 1 xs [u] X hin (by decide) hroom hcap hgv hxl rfl hcell (fun j hj => hsp j (by omega)) (fun j _ => hfz _) hvs hx1 h1v t' 128 1 cap (by simp [World.shape?, hu]) (by simp [World.shape?, hh, hcs]) (by omega) (by simp [World.frozen?, hu]) (by simp [World.frozen?, hu])).mono ?_
        rintro e X' ⟨rfl, rfl⟩
        obtain ⟨c1, hc1, hs1, hl1⟩ := setCells_row (xs.drop i) (0 + (i + 1)) X.drew cur hh (by rw [List.length_drop, hxl, hcs]; omega)
        obtain ⟨c2, hc2, hs2, hl2⟩ := setCells_row [u] (0 + i) _ c1 hc1 (by rw [hs1, hcs]; simp; omega)
        have o1 := setCells_same g (xs.drop i) (0 + (i + 1)) X.drew
        have o2 := setCells_same g [u] (0 + i) (X.drew.setCells g (0 + (i + 1)) (xs.drop i))
        refine ⟨_, rfl, ⟨?_, .inr ⟨g, cap, c2, rfl, hg, hc2, hroom, hcm, ?_, ?_⟩⟩, ⟨o2.1.trans o1.1, o2.2.1.trans o1.2.1, o2.2.2.1.trans o1.2.2.1, by rw [o2.2.2.2, o1.2.2.2]; exact Nat.le_refl _, fun k hk hne => ?_⟩, fun k hk => .inl hk⟩
        · simp only [List.length_append, List.length_take, List.length_drop, List.length_cons, List.length_nil]; omega
        · rw [hs2, hs1, hcs, Nat.mul_one]
        · rw [Nat.mul_one]
          rw [Nat.zero_add] at hl1 hl2
          exact lay_shift u hct (by omega) hin _ _ hl1 hl2
        · have hkg : k ≠ g := fun e => hne (by rw [e]; rfl)
          rw [setCells_far _ _ _ hkg, setCells_far _ _ _ hkg]
          rfl
    · obtain rfl : i = n := by omega
      have hres : xs.take i ++ [u] ++ xs.drop i = xs ++ [u] := by rw [List.take_of_length_le (by omega), List.drop_of_length_le (by omega), List.append_nil]
      rcases Nat.lt_or_ge cap (i + 1) with hroom | hroom
      · refine (slices_Insert_region.end_grow (some ⟨g, 0, none⟩) i cap vb 0 1 1 xs [u] X (by decide) hnc hroom (by omega) hxl rfl (fun h => by cases h) (fun a ha j y hj => by cases ha; rw [add_plain, ← Nat.zero_add j]; exact hcell j y hj) hvs h1v).mono ?_
        rintro e X' ⟨rfl, rfl⟩
        have hG := grownCap_ge X (i + 1) cap 128
        have hGm := grownCap_le_maxLen X (i + 1) cap 128 (by unfold maxLen; omega)
        refine ⟨_, rfl, ⟨by rw [hres]; simp; omega, .inr ⟨X.heap.size, _, _, rfl, hB, heap_alloc_new X.drew _, hG, hGm, ?_, ?_⟩⟩, ?_, fun k hk => .inr (by simp [Value.ownBlock] at hk; omega)⟩
        · rw [Array.size_append, zeros_size _ _ rfl, List.size_toArray, List.length_append, List.length_singleton]
          omega
        · rw [hres, Array.toList_append]
          exact List.take_left' (by simp; omega)
        · exact (out_drew _ X).trans (below_out (Below.alloc (Below.refl _ X.drew) (Nat.le_refl _) _) _) (fun _ _ h => h)
      · refine (slices_Insert_region.end_room g 0 i cap vb 0 1 1 [u] X (by decide) hroom hcap rfl (fun j hj => by rw [Nat.zero_add]; have := hsp (i + j) (by omega); rwa [Nat.zero_add] at this) (fun j _ => hfz _) hvs h1v).mono ?_
        rintro e X' ⟨rfl, rfl⟩
        obtain ⟨c1, hc1, hs1, hl1⟩ := setCells_row [u] (0 + i) X cur hh (by rw [hcs]; simp; omega)
        have o1 := setCells_same g [u] (0 + i) X
        refine ⟨_, rfl, ⟨by rw [hres]; simp; omega, .inr ⟨g, cap, c1, rfl, hg, hc1, hroom, hcm, by rw [hs1, hcs, Nat.mul_one], ?_⟩⟩, ⟨o1.1, o1.2.1, o1.2.2.1, by rw [o1.2.2.2]; exact Nat.le_refl _, fun k hk hne => setCells_far _ _ _ (fun e => hne (by rw [e]; rfl))⟩, fun k hk => .inl hk⟩
        rw [hres, Nat.mul_one, hl1, Nat.zero_add, hct]
        exact List.take_left' (by simp; omega)
end Go.Proofs.YtomnfkihieinbaaDoor.PAll
/- mem: Add. -/
set_option linter.unusedVariables false
set_option linter.unusedSimpArgs false
namespace Go.Proofs.YtomnfkihieinbaaDoor.PAll
open Go.RowKit Go.Shelf Go.Proofs.YtomnfkihieinbaaDoorW.PrintWords Go.Proofs.YtomnfkihieinbaaDoorW.PrintLast Go.Proofs.YtomnfkihieinbaaDoorW.PrintMore
theorem ins_get {α : Type} (l : List α) (i : Nat) (x : α) (hi : i ≤ l.length) (j : Nat) : (l.take i ++ [x] ++ l.drop i)[j]? = if j < i then l[j]? else if j = i then some x else l[j - 1]? := by
  have hl : (l.take i).length = i := by rw [List.length_take]; omega
  by_cases h1 : j < i
  · rw [if_pos h1, List.append_assoc, List.getElem?_append_left (by omega), List.getElem?_take, if_pos h1]
  · rw [if_neg h1, List.append_assoc, List.getElem?_append_right (by omega), hl]
    by_cases h2 : j = i
    · subst h2; rw [if_pos rfl, Nat.sub_self]; rfl
    · rw [if_neg h2, List.getElem?_append_right (by simp; omega), List.getElem?_drop]
      congr 1
      simp
      omega
/-- A region is laid between the others. -/
theorem MemIn.insert {X Y : World} {B : Nat} {own own' : Nat → Prop} {m : Nat} {L : List Reg} {v v' : Value} {ps : List (Nat × Nat)} (h : MemIn X B own m L v ps) (i : Nat) (hi : i ≤ L.length) (s : Reg) (rb g1 : Nat) (hown : ∀ k, own k → own' k)
    (hk : ∀ k, k < X.heap.size → k ≠ m → v.ownBlock ≠ some k → Y.heap[k]? = X.heap[k]?) (hm : Y.heap[m]? = some (memBlock v')) (hrow : Y.ownsRow B 128 1 v' (L.length + 1) ((ps.map fun p => ptr p.1).take i ++ [ptr rb] ++ (ps.map fun p => ptr p.1).drop i))
    (hvo : ∀ k, v'.ownBlock = some k → own' k) (hreg : RegAt Y B own' (rb, g1) s) (hg1 : X.heap.size ≤ g1) : MemIn Y B own' m (L.take i ++ [s] ++ L.drop i) v' (ps.take i ++ [(rb, g1)] ++ ps.drop i) := by
  have hil : i ≤ ps.length := by rw [h.len]; exact hi
  have hlen : (L.take i ++ [s] ++ L.drop i).length = L.length + 1 := by simp; omega
  have hold : ∀ (j : Nat) (p : Nat × Nat) (r : Reg), ps[j]? = some p → L[j]? = some r → RegAt Y B own' p r := fun j p r hp hr => by
    have g := h.reg j p r hp hr
    obtain ⟨cap, hb, hro⟩ := g.lies
    obtain ⟨cur, hcur⟩ := row_block hro rfl
    have n1 : p.1 ≠ m := fun e => two_blocks hb h.blk (by decide) e
    have n2 : p.2 ≠ m := fun e => two_blocks hcur h.blk (by decide) e
    refine (g.keep (hk p.1 g.lt.1 n1 (fun e => ?_)) (hk p.2 g.lt.2 n2 (fun e => ?_))).mono (hown _) (hown _)
    · obtain ⟨c2, hc2⟩ := row_block h.row e
      exact two_blocks hb hc2 (by decide) rfl
    · obtain ⟨c2, hc2⟩ := row_block h.row e
      exact two_blocks hcur hc2 (by decide) rfl
  refine ⟨hm, hown _ h.om, h.bm, ?_, hvo, ?_, ?_, ?_⟩
  · rw [hlen]
    simpa [List.map_take, List.map_drop] using hrow
  · rw [hlen, List.length_append, List.length_append, List.length_take, List.length_drop, List.length_singleton]; have := h.len; omega
  · intro j p r hp hr
    rw [ins_get _ _ _ hil] at hp
    rw [ins_get _ _ _ hi] at hr
    by_cases h1 : j < i
    · rw [if_pos h1] at hp hr
      exact hold j p r hp hr
    · rw [if_neg h1] at hp hr
      by_cases h2 : j = i
      · rw [if_pos h2] at hp hr
        cases hp; cases hr
        exact hreg
      · rw [if_neg h2] at hp hr
        exact hold (j - 1) p r hp hr
  · have hlt : ∀ q ∈ ps, q.2 < X.heap.size := fun q hq => by
      obtain ⟨j, hj⟩ := List.mem_iff_getElem?.1 hq
      have hjl := (List.getElem?_eq_some_iff.1 hj).1
      exact (h.reg j q _ hj (List.getElem?_eq_getElem (by rw [← h.len]; exact hjl))).lt.2
    have hnd : ((ps.take i ++ ps.drop i).map (·.2)).Nodup := by rw [List.take_append_drop]; exact h.nd
    have hp : ((ps.take i ++ [(rb, g1)] ++ ps.drop i).map (·.2)).Perm (g1 :: (ps.take i ++ ps.drop i).map (·.2)) := by
      rw [List.append_assoc, List.map_append, List.map_append, List.map_append]
      exact List.perm_middle
    refine hp.nodup_iff.2 (List.nodup_cons.2 ⟨fun hg => ?_, hnd⟩)
    obtain ⟨q, hq, e⟩ := List.mem_map.1 hg
    rw [List.take_append_drop] at hq
    have := hlt q hq
    omega
def addOk (L : List Reg) (base : Int) (n : Nat) : Bool := decide (0 < n ∧ base + n ≤ 18446744073709551616 ∧ ∀ r ∈ L, r.base + r.data.length ≤ base ∨ base + n ≤ r.base)
def AddPost (X : World) (B : Nat) (own : Nat → Prop) (m : Nat) (L : List Reg) (base : Int) (bs : List Int) (e : Ending) (X' : World) : Prop :=
  if addOk L base bs.length = true then e = .returned (.bool true) ∧ (∃ i, IsAt L (base + bs.length - 1) i ∧ MemAt X' B (orNew own X) m (L.take i ++ [⟨base, bs⟩] ++ L.drop i)) ∧ Out own X X'
  else e = .returned (.bool false) ∧ Below X.heap.size X X'
set_option maxHeartbeats 4000000 in
set_option maxRecDepth 100000 in
theorem mem_Add (X : World) (B : Nat) (own : Nat → Prop) (m : Nat) (L : List Reg) (base : Int) (A0 : Option Addr) (c0 : Nat) (bs : List Int) (h : MemAt X B own m L) (hI : Inv L) (hl : L.length ≤ 999999) (hBX : B ≤ X.heap.size) (ha0 : 0 ≤ base) (ha1 : base < 18446744073709551616) (hr0 : Kd.C (Kd.int .u8) X A0 bs.length bs) (hc0 : bs.length ≤ c0) (hbl : bs.length ≤ 4294967296) :
    Calls Tryd.prog 30 #[.pointer (some ⟨m, 0, none⟩), .int .u64 base, .slice A0 bs.length c0] X (AddPost X B own m L base bs) := by
  obtain ⟨v, ps, hM⟩ := h
  have HM := Aside0.mk hM
  have HI := Aside0.mk hI
  have HC := Aside0.mk (slices_Clone_byte_byte.calls A0 c0 bs bs X hr0 hc0 (by unfold slices_Clone_byte_byte.f; rw [if_pos (by omega)]))
  have hu : IntKind.u64.wrap (bs.length : Int) = bs.length := by rw [u64_mod]; exact Int.emod_eq_of_lt (by omega) (by omega)
  by_cases h0 : bs.length = 0
  · have hF : addOk L base bs.length = false := by unfold addOk; simp [h0]
    have HF : Aside0 (AddPost X B own m L base bs (.returned (.bool false)) X) := ⟨by unfold AddPost; rw [hF]; exact ⟨rfl, Below.refl _ _⟩⟩
    rw [h0]
    clear hF hu ha0 ha1 hbl hc0 h0 hM hI hr0
    go_enter Tryd.func30, Tryd.ntmps30
    go_wp2_with fail
    go_ret
    exact HF.out
  have hl0 : ((bs.length : Int) == 0) = false := beq_eq_false_iff_ne.mpr (by omega)
  obtain ⟨s, hs⟩ : ∃ s, IntKind.u64.wrap (base + bs.length) = s := ⟨_, rfl⟩
  obtain ⟨t, ht⟩ : ∃ t, IntKind.u64.wrap (s - 1) = t := ⟨_, rfl⟩
  rw [u64_mod] at hs ht
  by_cases h2 : base + bs.length ≤ 18446744073709551616
  case neg =>
    have hF : addOk L base bs.length = false := by unfold addOk; simp; intro _ h; exact absurd h (by omega)
    have HF : Aside0 (AddPost X B own m L base bs (.returned (.bool false)) X) := ⟨by unfold AddPost; rw [hF]; exact ⟨rfl, Below.refl _ _⟩⟩
    have hlt : decide (t < base) = true := decide_eq_true (by omega)
    rw [← u64_mod] at hs ht
    clear hF h2 ha0 ha1 hbl hc0 h0 hM hI hr0
    go_enter Tryd.func30, Tryd.ntmps30
    go_wp2_with fail
    go_ret
    exact HF.out
  have htv : t = base + bs.length - 1 := by omega
  have hlt : decide (t < base) = false := decide_eq_false (by omega)
  rw [← u64_mod] at hs ht
  obtain ⟨A, c, rfl⟩ := own_slice hM.row
  have HL0 : Aside0 (0 < bs.length) := ⟨by omega⟩
  have HB2 := Aside0.mk h2
  have HBL := Aside0.mk hbl
  have HA0 := Aside0.mk ha0
  have HTV := Aside0.mk htv
  clear ha0 ha1 hbl hc0 h0 h2 hM hI hr0 htv
  go_enter Tryd.func30, Tryd.ntmps30
  go_wp2_with fail
  refine HC.out.mono ?_
  rintro e w1 ⟨v1, rfl, hr1, hb1⟩
  obtain ⟨g1, cap1, rfl, hg1, hg1l, cells, hcells⟩ := Kd.R_form hr1 HL0.out
  have hrow1 : w1.ownsRow X.heap.size 5 1 (.slice (some ⟨g1, 0, none⟩) bs.length cap1) bs.length (nums .u8 bs) := by simpa [encs, nums] using Kd.own_of_R hr1
  have HROW1 := Aside0.mk hrow1
  have HB1 := Aside0.mk hb1
  have HG1 := Aside0.mk hg1
  clear hr1 hb1 hcells hrow1 hg1 hg1l
  go_wp2_with fail
  obtain ⟨W1, hW1⟩ : ∃ W1, w1.alloc (.cells #[.int .u64 base, .slice (some ⟨g1, 0, none⟩) bs.length cap1] 130) = W1 := ⟨_, rfl⟩
  obtain ⟨rb, hrb⟩ : ∃ rb, w1.heap.size = rb := ⟨_, rfl⟩
  have HR : Aside0 (W1.heap[rb]? = some (.cells #[.int .u64 base, .slice (some ⟨g1, 0, none⟩) bs.length cap1] 130 (0, 0))) := ⟨by rw [← hW1, ← hrb]; exact heap_alloc_new w1 _⟩
  have HBW : Aside0 (Below w1.heap.size w1 W1) := ⟨by rw [← hW1]; exact Below.alloc (Below.refl _ _) (Nat.le_refl _) _⟩
  have HXW : Aside0 (Below X.heap.size X W1) := ⟨HB1.out.trans (HBW.out.mono HB1.out.size)⟩
  have HEND : Aside0 (∀ W : World, Below W1.heap.size W1 W → Calls Tryd.prog 50 #[.pointer (some ⟨rb, 0, none⟩)] W fun e X' => e = .returned (.int .u64 t) ∧ ∃ k, X' = W.drewN k) := ⟨fun W hb => by
    have hb2 := (hb.block rb (Array.getElem?_eq_some_iff.1 HR.out).1).trans HR.out
    have := mem_end W rb base (some ⟨g1, 0, none⟩) bs.length cap1 (blk2 hb2).1 (blk2 hb2).2.1 HA0.out HL0.out HB2.out HBL.out
    rwa [← HTV.out] at this⟩
  have HAT : Aside0 (∀ W : World, Below W1.heap.size W1 W → Calls Tryd.prog 49 #[.pointer (some ⟨m, 0, none⟩), .int .u64 t] W fun e X' => (∃ i : Nat, IsAt L t i ∧ e = .returned (.int .i64 ((i : Int) - 1))) ∧ Below W1.heap.size W1 X') := ⟨fun W hb => by
    refine (mem_at W B own m L _ ps t (HM.out.below (HXW.out.trans (hb.mono HXW.out.size))) HI.out (by omega)).mono ?_
    rintro e X' ⟨h, hb'⟩
    exact ⟨h, below_then hb hb.size hb'⟩⟩
  rw [hW1, hrb]
  clear hW1
  go_region_with (first | (go_at_call 50; refine (HEND.out _ ?hb).mono ?_; (case hb => exact below_drew (Below.refl _ _)); rintro e w3 ⟨rfl, k, rfl⟩) | (go_at_call 49; refine (HAT.out _ ?hb).mono ?_; (case hb => exact pw_below_drewN (Below.refl _ _) _); rintro e w4 ⟨⟨i, hi, rfl⟩, hb4⟩))
  clear HEND HAT
  have hblk4 := (blk2 ((HM.out.below HXW.out).below hb4).blk).1
  cases i with
  | zero =>
    have HOK : Aside0 (addOk L base bs.length = true) := ⟨decide_eq_true ⟨HL0.out, HB2.out, fun r hr => .inr (by
      obtain ⟨j, hj⟩ := List.mem_iff_getElem?.1 hr
      have := hi.2.2 j r (Nat.zero_le _) hj
      have := HTV.out
      omega)⟩⟩
    go_wp2_with fail
    have HB5 : Aside0 (Below X.heap.size X w4) := ⟨HXW.out.trans (hb4.mono HXW.out.size)⟩
    have HM5 := Aside0.mk (HM.out.below HB5.out)
    have hm0 := (blk2 HM5.out.blk).1
    obtain ⟨W6, hW6⟩ : ∃ W6, w4.alloc (.cells #[.pointer (some ⟨rb, 0, none⟩)] 128) = W6 := ⟨_, rfl⟩
    obtain ⟨vb, hvb⟩ : ∃ vb, w4.heap.size = vb := ⟨_, rfl⟩
    have HV : Aside0 (W6.heap[vb]? = some (.cells #[.pointer (some ⟨rb, 0, none⟩)] 128 (0, 0))) := ⟨by rw [← hW6, ← hvb]; exact heap_alloc_new w4 _⟩
    have HBV : Aside0 (Below w4.heap.size w4 W6) := ⟨by rw [← hW6]; exact Below.alloc (Below.refl _ _) (Nat.le_refl _) _⟩
    have HM6 := Aside0.mk (HM5.out.below HBV.out)
    have HINS := Aside0.mk (ins_row W6 B vb _ (ptr rb) _ L.length 0 128 HM6.out.row (Nat.le_trans (Nat.le_trans hBX HB5.out.size) HBV.out.size) hi.1 (by omega) HV.out rfl (fun y hy => by obtain ⟨q, _, rfl⟩ := List.mem_map.1 hy; rfl) (fun e => by have := own_lt HM5.out.row _ e; omega))
    rw [hW6, hvb]
    refine HINS.out.mono ?_
    rintro e W7 ⟨v', rfl, hrow7, hout7, hvo7⟩
    obtain ⟨A', c', rfl⟩ := own_slice hrow7
    have hnm : (Value.slice A L.length c).ownBlock ≠ some m := fun e => by
      obtain ⟨c2, hc2⟩ := row_block HM6.out.row e
      exact two_blocks hc2 HM6.out.blk (by decide) rfl
    have hml := (Array.getElem?_eq_some_iff.1 HM6.out.blk).1
    have HM7 : Aside0 (W7.heap[m]? = some (memBlock (.slice A L.length c))) := ⟨(hout7.block m hml hnm).trans HM6.out.blk⟩
    have hm7 := (blk2 HM7.out).1
    have hf7 := (blk2 HM7.out).2.2.1
    have HP : Aside0 (AddPost X B own m L base bs (.returned (.bool true)) (W7.setCell ⟨m, 0, none⟩ (Value.slice A' (L.length + 1) c'))) := by
      refine ⟨?_⟩
      unfold AddPost
      rw [if_pos HOK.out]
      have hX6 : Below X.heap.size X W6 := HB5.out.trans (HBV.out.mono HB5.out.size)
      have hk7 : ∀ k, k < X.heap.size → (Value.slice A L.length c).ownBlock ≠ some k → W7.heap[k]? = X.heap[k]? := fun k hk hn => (hout7.block k (Nat.lt_of_lt_of_le hk hX6.size) hn).trans (hX6.block k hk)
      have hv'm : (Value.slice A' (L.length + 1) c').ownBlock ≠ some m := fun e => by
        obtain ⟨c2, hc2⟩ := row_block hrow7 e
        exact two_blocks hc2 HM7.out (by decide) rfl
      have hset : ∀ k, k ≠ m → (W7.setCell ⟨m, 0, none⟩ (Value.slice A' (L.length + 1) c')).heap[k]? = W7.heap[k]? := fun k hk => Below.heap_setCell W7 ⟨m, 0, none⟩ (Value.slice A' (L.length + 1) c') k hk
      have hw1W6 : Below w1.heap.size w1 W6 := HBW.out.trans ((hb4.mono HBW.out.size).trans (HBV.out.mono (Nat.le_trans HBW.out.size hb4.size)))
      have hrbl : rb < W1.heap.size := (Array.getElem?_eq_some_iff.1 HR.out).1
      have hrb6 : W6.heap[rb]? = some (.cells #[.int .u64 base, .slice (some ⟨g1, 0, none⟩) bs.length cap1] 130 (0, 0)) := (HBV.out.block rb (Nat.lt_of_lt_of_le hrbl hb4.size)).trans ((hb4.block rb hrbl).trans HR.out)
      have hnr : (Value.slice A L.length c).ownBlock ≠ some rb := fun e => by
        obtain ⟨c2, hc2⟩ := row_block HM6.out.row e
        exact two_blocks hc2 hrb6 (by decide) rfl
      have hrb7 := (hout7.block rb (Array.getElem?_eq_some_iff.1 hrb6).1 hnr).trans hrb6
      have hrm : rb ≠ m := fun e => two_blocks hrb6 HM6.out.blk (by decide) e
      have hrow6 := row_keep HROW1.out (X' := W6) (fun k hk => by cases hk; exact hw1W6.block g1 (own_lt HROW1.out g1 rfl))
      obtain ⟨cg, hcg⟩ := row_block hrow6 rfl
      have hng : (Value.slice A L.length c).ownBlock ≠ some g1 := fun e => by
        obtain ⟨c2, hc2⟩ := row_block HM6.out.row e
        exact two_blocks hc2 hcg (by decide) rfl
      have hgm : g1 ≠ m := fun e => two_blocks hcg HM6.out.blk (by decide) e
      refine ⟨rfl, ⟨0, by rw [← HTV.out]; exact hi, (Value.slice A' (L.length + 1) c'), _, HM.out.insert 0 hi.1 ⟨base, bs⟩ rb g1 (fun k hk => .inl hk) (fun k hk hkm hkv => (hset k hkm).trans (hk7 k hk hkv)) ?_ ?_ ?_ ⟨?_, ?_, ?_, cap1, ?_, ?_⟩ HG1.out⟩, ?_⟩
      · exact blk_put HM7.out 0 (Value.slice A' (L.length + 1) c') rfl
      · exact row_keep hrow7 (fun k hk => hset k (fun e => hv'm (by rw [hk, e])))
      · intro k hk
        rcases hvo7 k hk with h | h
        · exact .inl (HM.out.orow k h)
        · exact .inr (Nat.le_trans hX6.size h)
      · exact .inr (by rw [← hrb]; exact HB1.out.size)
      · exact .inr HG1.out
      · exact Nat.le_trans hBX (by rw [← hrb]; exact HB1.out.size)
      · exact (hset rb hrm).trans hrb7
      · refine own_weaken (row_keep (row_keep hrow6 (fun k hk => by cases hk; exact hout7.block g1 (Array.getElem?_eq_some_iff.1 hcg).1 hng)) (fun k hk => by cases hk; exact hset g1 hgm)) hBX
      · exact ((below_out hX6 own).trans hout7 (fun k _ hk => HM.out.orow k hk)).trans (set_out W7 m 0 (Value.slice A' (L.length + 1) c')) (fun k _ hk => by rw [hk]; exact HM.out.om)
    clear hrow7 hout7 hvo7
    go_wp2
    go_ret
    exact HP.out
  | succ i =>
    have HM4 := Aside0.mk ((HM.out.below HXW.out).below hb4)
    have hil := hi.1
    obtain ⟨p, r, gg, cap, hp, hr, hv, hc, hcap, hcm, hra⟩ := HM4.out.get (i := i) (by omega)
    cases hv
    obtain ⟨cr, hrb2, _⟩ := hra.lies
    obtain ⟨y, hy⟩ : ∃ y, r.base + r.data.length - 1 = y := ⟨_, rfl⟩
    have hrm := List.mem_of_getElem? hr
    have HE := Aside0.mk (mem_end w4 p.1 r.base (some ⟨p.2, 0, none⟩) r.data.length cr (blk2 hrb2).1 (blk2 hrb2).2.1 (HI.out.lo r hrm) (HI.out.pos r hrm) (HI.out.hi r hrm) (HI.out.short r hrm))
    rw [hy] at HE
    have HY := Aside0.mk hy
    have HRI := Aside0.mk hr
    rw [show (((i + 1 : Nat) : Int) - 1) = (i : Int) by omega]
    by_cases hov : base ≤ y
    · have hF : addOk L base bs.length = false := by
        refine decide_eq_false (fun h => ?_)
        have h1 := h.2.2 r hrm
        have h2 := hi.2.1 i r (by omega) hr
        have h3 := HTV.out
        have h4 := HI.out.pos r hrm
        omega
      have HF : Aside0 (∀ W, Below X.heap.size X W → AddPost X B own m L base bs (.returned (.bool false)) W) := ⟨fun W hb => by unfold AddPost; rw [hF]; exact ⟨rfl, hb⟩⟩
      have HX4 : Aside0 (Below X.heap.size X w4) := ⟨HXW.out.trans (hb4.mono HXW.out.size)⟩
      clear hF hb4 hy hr hrm hra hrb2 hi hp
      go_wp2_with (go_at_call 50; refine HE.out.mono ?_; rintro e w5 ⟨rfl, k, rfl⟩)
      go_ret
      exact HF.out _ (pw_below_drewN HX4.out _)
    · have HOK : Aside0 (addOk L base bs.length = true) := ⟨decide_eq_true ⟨HL0.out, HB2.out, fun q hq => by
        obtain ⟨j, hj⟩ := List.mem_iff_getElem?.1 hq
        have h3 := HTV.out
        rcases Nat.lt_trichotomy j i with h | h | h
        · have := HI.out.apart j i q r h hj hr
          have := HI.out.pos r hrm
          left; omega
        · subst h; rw [hr] at hj; cases hj; left; omega
        · have := hi.2.2 j q (by omega) hj
          right; omega⟩⟩
      have hlt2 : y < base := by omega
      clear hov hy hr hrm hra hrb2 hp
      go_wp2_with (go_at_call 50; refine HE.out.mono ?_; rintro e w5 ⟨rfl, k, rfl⟩; obtain ⟨W5, hW5⟩ : ∃ W5, w4.drewN k = W5 := ⟨_, rfl⟩; have hb5 : Below W1.heap.size W1 W5 := (by rw [← hW5]; exact pw_below_drewN hb4 _); rw [hW5]; clear hW5; have hm0 := (blk2 ((HM.out.below HXW.out).below hb5).blk).1)
      have HB5 : Aside0 (Below X.heap.size X W5) := ⟨HXW.out.trans (hb5.mono HXW.out.size)⟩
      have HM5 := Aside0.mk (HM.out.below HB5.out)
      obtain ⟨W6, hW6⟩ : ∃ W6, W5.alloc (.cells #[.pointer (some ⟨rb, 0, none⟩)] 128) = W6 := ⟨_, rfl⟩
      obtain ⟨vb, hvb⟩ : ∃ vb, W5.heap.size = vb := ⟨_, rfl⟩
      have HV : Aside0 (W6.heap[vb]? = some (.cells #[.pointer (some ⟨rb, 0, none⟩)] 128 (0, 0))) := ⟨by rw [← hW6, ← hvb]; exact heap_alloc_new W5 _⟩
      have HBV : Aside0 (Below W5.heap.size W5 W6) := ⟨by rw [← hW6]; exact Below.alloc (Below.refl _ _) (Nat.le_refl _) _⟩
      have HM6 := Aside0.mk (HM5.out.below HBV.out)
      have HINS := Aside0.mk (ins_row W6 B vb _ (ptr rb) _ L.length (i + 1) 128 HM6.out.row (Nat.le_trans (Nat.le_trans hBX HB5.out.size) HBV.out.size) hi.1 (by omega) HV.out rfl (fun y hy => by obtain ⟨q, _, rfl⟩ := List.mem_map.1 hy; rfl) (fun e => by have := own_lt HM5.out.row _ e; omega))
      rw [hW6, hvb]
      refine HINS.out.mono ?_
      rintro e W7 ⟨v', rfl, hrow7, hout7, hvo7⟩
      obtain ⟨A', c', rfl⟩ := own_slice hrow7
      have hnm : (Value.slice (some ⟨gg, 0, none⟩) L.length c).ownBlock ≠ some m := fun e => by
        obtain ⟨c2, hc2⟩ := row_block HM6.out.row e
        exact two_blocks hc2 HM6.out.blk (by decide) rfl
      have hml := (Array.getElem?_eq_some_iff.1 HM6.out.blk).1
      have HM7 : Aside0 (W7.heap[m]? = some (memBlock (.slice (some ⟨gg, 0, none⟩) L.length c))) := ⟨(hout7.block m hml hnm).trans HM6.out.blk⟩
      have hm7 := (blk2 HM7.out).1
      have hf7 := (blk2 HM7.out).2.2.1
      have HP : Aside0 (AddPost X B own m L base bs (.returned (.bool true)) (W7.setCell ⟨m, 0, none⟩ (Value.slice A' (L.length + 1) c'))) := by
        refine ⟨?_⟩
        unfold AddPost
        rw [if_pos HOK.out]
        have hX6 : Below X.heap.size X W6 := HB5.out.trans (HBV.out.mono HB5.out.size)
        have hk7 : ∀ k, k < X.heap.size → (Value.slice (some ⟨gg, 0, none⟩) L.length c).ownBlock ≠ some k → W7.heap[k]? = X.heap[k]? := fun k hk hn => (hout7.block k (Nat.lt_of_lt_of_le hk hX6.size) hn).trans (hX6.block k hk)
        have hv'm : (Value.slice A' (L.length + 1) c').ownBlock ≠ some m := fun e => by
          obtain ⟨c2, hc2⟩ := row_block hrow7 e
          exact two_blocks hc2 HM7.out (by decide) rfl
        have hset : ∀ k, k ≠ m → (W7.setCell ⟨m, 0, none⟩ (Value.slice A' (L.length + 1) c')).heap[k]? = W7.heap[k]? := fun k hk => Below.heap_setCell W7 ⟨m, 0, none⟩ (Value.slice A' (L.length + 1) c') k hk
        have hw1W6 : Below w1.heap.size w1 W6 := HBW.out.trans ((hb5.mono HBW.out.size).trans (HBV.out.mono (Nat.le_trans HBW.out.size hb5.size)))
        have hrbl : rb < W1.heap.size := (Array.getElem?_eq_some_iff.1 HR.out).1
        have hrb6 : W6.heap[rb]? = some (.cells #[.int .u64 base, .slice (some ⟨g1, 0, none⟩) bs.length cap1] 130 (0, 0)) := (HBV.out.block rb (Nat.lt_of_lt_of_le hrbl hb5.size)).trans ((hb5.block rb hrbl).trans HR.out)
        have hnr : (Value.slice (some ⟨gg, 0, none⟩) L.length c).ownBlock ≠ some rb := fun e => by
          obtain ⟨c2, hc2⟩ := row_block HM6.out.row e
          exact two_blocks hc2 hrb6 (by decide) rfl
        have hrb7 := (hout7.block rb (Array.getElem?_eq_some_iff.1 hrb6).1 hnr).trans hrb6
        have hrm : rb ≠ m := fun e => two_blocks hrb6 HM6.out.blk (by decide) e
        have hrow6 := row_keep HROW1.out (X' := W6) (fun k hk => by cases hk; exact hw1W6.block g1 (own_lt HROW1.out g1 rfl))
        obtain ⟨cg, hcg⟩ := row_block hrow6 rfl
        have hng : (Value.slice (some ⟨gg, 0, none⟩) L.length c).ownBlock ≠ some g1 := fun e => by
          obtain ⟨c2, hc2⟩ := row_block HM6.out.row e
          exact two_blocks hc2 hcg (by decide) rfl
        have hgm : g1 ≠ m := fun e => two_blocks hcg HM6.out.blk (by decide) e
        refine ⟨rfl, ⟨i + 1, by rw [← HTV.out]; exact hi, (Value.slice A' (L.length + 1) c'), _, HM.out.insert (i + 1) hi.1 ⟨base, bs⟩ rb g1 (fun k hk => .inl hk) (fun k hk hkm hkv => (hset k hkm).trans (hk7 k hk hkv)) ?_ ?_ ?_ ⟨?_, ?_, ?_, cap1, ?_, ?_⟩ HG1.out⟩, ?_⟩
        · exact blk_put HM7.out 0 (Value.slice A' (L.length + 1) c') rfl
        · exact row_keep hrow7 (fun k hk => hset k (fun e => hv'm (by rw [hk, e])))
        · intro k hk
          rcases hvo7 k hk with h | h
          · exact .inl (HM.out.orow k h)
          · exact .inr (Nat.le_trans hX6.size h)
        · exact .inr (by rw [← hrb]; exact HB1.out.size)
        · exact .inr HG1.out
        · exact Nat.le_trans hBX (by rw [← hrb]; exact HB1.out.size)
        · exact (hset rb hrm).trans hrb7
        · refine own_weaken (row_keep (row_keep hrow6 (fun k hk => by cases hk; exact hout7.block g1 (Array.getElem?_eq_some_iff.1 hcg).1 hng)) (fun k hk => by cases hk; exact hset g1 hgm)) hBX
        · exact ((below_out hX6 own).trans hout7 (fun k _ hk => HM.out.orow k hk)).trans (set_out W7 m 0 (Value.slice A' (L.length + 1) c')) (fun k _ hk => by rw [hk]; exact HM.out.om)
      clear hrow7 hout7 hvo7
      go_wp2
      go_ret
      exact HP.out

end Go.Proofs.YtomnfkihieinbaaDoor.PAll
/- mem: slices.Delete at []*mem.region (the shelf's contract laid at this program). -/
set_option linter.unusedVariables false
set_option linter.unusedSimpArgs false
namespace Go.Proofs
open Go.Shelf
def Tryd.laysDel_ren : Go.Shelf.Ren := ⟨fun | 45 => 89 | n => n, fun | 22 => 115 | 23 => 128 | 3 => 3 | 4 => 4 | 0 => 0 | n => n, fun | n => n⟩
theorem Tryd.laysDel : Go.Proofs.SlLaysE.n45 Tryd.prog Tryd.laysDel_ren := {
  mixed := by kernel_rfl
  f45 := ⟨Tryd.f89.name, by decide, Tryd.func89.trans (congrArg some (by kernel_rfl))⟩
  t0 := Tryd.underlying0
  a0 := Tryd.isAgg0
  z0 := Tryd.sizeOf0
  v0 := Tryd.zeroValue0
  t3 := Tryd.underlying3
  a3 := Tryd.isAgg3
  z3 := Tryd.sizeOf3
  v3 := Tryd.zeroValue3
  t4 := Tryd.underlying4
  a4 := Tryd.isAgg4
  z4 := Tryd.sizeOf4
  v4 := Tryd.zeroValue4
  t22 := Tryd.underlying115
  a22 := Tryd.isAgg115
  z22 := Tryd.sizeOf115
  v22 := Tryd.zeroValue115
  a23 := Tryd.isAgg128
  z23 := Tryd.sizeOf128 }
end Go.Proofs
namespace Go.Proofs.YtomnfkihieinbaaDoor.PAll
open Go.RowKit Go.Shelf Go.Lib Go.Sort Go.Proofs.YtomnfkihieinbaaDoorW.PrintWords Go.Proofs.YtomnfkihieinbaaDoorW.PrintLast Go.Proofs.YtomnfkihieinbaaDoorW.PrintMore
theorem del_row (blk cap i j : Nat) (d : Array (Option Addr)) (w : World) (hH : Holds Value.pointer w blk 0 d) (hcap : d.size ≤ cap) (hm : cap ≤ 9223372036854775807) (hij : i ≤ j) (hj : j ≤ d.size) :
    Calls Tryd.prog 89 #[.slice (some ⟨blk, 0, none⟩) d.size cap, .int .i64 i, .int .i64 j] w fun e w' => e = .returned (.slice (some ⟨blk, 0, none⟩) (d.size - (j - i)) cap) ∧ ∃ q, w' = putRow Value.pointer (Sort.ahead w q) blk 0 (d.toList.take i ++ d.toList.drop j ++ List.replicate (j - i) none).toArray := by
  obtain ⟨i0, hi0, hz0, hzs, hzb⟩ := info_parts info_region
  exact AnyE.slices_Delete Tryd.laysDel Value.pointer (fun _ => rfl) none Tryd.zeroValue128 i0 hi0 hzs blk 0 cap i j d w hH hcap hm hij hj
theorem putRow_heap {enc : Option Addr → Value} {w : World} {blk off : Nat} {D : Array (Option Addr)} {c : Array Value} {t : TypeId} {f : Nat × Nat} (h : w.heap[blk]? = some (.cells c t f)) : (putRow enc w blk off D).heap[blk]? = some (.cells (putCells enc off D c) t f) := by
  simp [putRow, mapBlock, Array.getElem?_modify, h, onCells]
theorem putRow_other (enc : Option Addr → Value) (w : World) (blk off : Nat) (D : Array (Option Addr)) (k : Nat) (h : k ≠ blk) : (putRow enc w blk off D).heap[k]? = w.heap[k]? := by
  simp [putRow, mapBlock, Array.getElem?_modify, Ne.symm h]
theorem putCells_take (xs : List (Option Addr)) (D : Array (Option Addr)) (c : Array Value) (n : Nat) (hD : D.toList.take n = xs) (hn : n ≤ D.size) (hc : n ≤ c.size) : (putCells Value.pointer 0 D c).toList.take n = xs.map Value.pointer := by
  have hxl : xs.length = n := by rw [← hD, List.length_take, Array.length_toList]; omega
  refine List.ext_getElem (by simp [putCells, hxl]; omega) (fun j h1 h2 => ?_)
  have hj : j < n := by rw [List.length_map, hxl] at h2; exact h2
  have e1 : D[j]! = xs[j]'(by omega) := by
    have : xs[j]? = D.toList[j]? := by rw [← hD, List.getElem?_take, if_pos hj]
    rw [getElem!_pos D j (by omega)]
    rw [List.getElem?_eq_getElem (by omega), List.getElem?_eq_getElem (by rw [Array.length_toList]; omega)] at this
    have := Option.some.inj this
    rw [this]
    rfl
  simp [putCells, e1]
  omega
theorem del_one (X : World) (B : Nat) (v : Value) (n i : Nat) (xs : List (Option Addr)) (h : X.ownsRow B 128 1 v n (xs.map Value.pointer)) (hi : i < n) :
    Calls Tryd.prog 89 #[v, .int .i64 i, .int .i64 ((i + 1 : Nat) : Int)] X fun e X' => ∃ v', e = .returned v' ∧ X'.ownsRow B 128 1 v' (n - 1) ((xs.take i ++ xs.drop (i + 1)).map Value.pointer) ∧ Out (fun k => v.ownBlock = some k) X X' ∧ v'.ownBlock = v.ownBlock := by
  have hxl : xs.length = n := by have := h.1; rw [List.length_map] at this; omega
  rcases h.2 with ⟨rfl, h0⟩ | ⟨g, cap, cur, rfl, hg, hh, hnc, hcm, hcs, hct⟩
  · omega
  · rw [Nat.mul_one] at hct hcs
    have hH : Holds Value.pointer X g 0 xs.toArray := fun j hj => by
      have hj' : j < xs.length := by simpa using hj
      refine ⟨?_, by simp [World.frozen?, hh]⟩
      have := h.cells (g := g) rfl j (.pointer (xs[j])) (by rw [List.getElem?_map, List.getElem?_eq_getElem hj']; rfl)
      rw [add_plain] at this
      rw [Nat.zero_add, this, getElem!_pos xs.toArray j hj]
      simp
    have hd := del_row g cap i (i + 1) xs.toArray X hH (by simp; omega) (by unfold maxLen at hcm; omega) (by omega) (by simp; omega)
    rw [show xs.toArray.size = n by simp [hxl]] at hd
    refine hd.mono ?_
    rintro e X' ⟨rfl, q, rfl⟩
    have hah : (Sort.ahead X q).heap[g]? = some (.cells cur 128 (0, 0)) := hh
    refine ⟨_, rfl, ⟨by rw [List.length_map, List.length_append, List.length_take, List.length_drop]; omega, .inr ⟨g, cap, _, by rw [show n - (i + 1 - i) = n - 1 by omega], hg, putRow_heap hah, by omega, hcm, ?_, ?_⟩⟩, ⟨rfl, rfl, rfl, ?_, fun k hk hn => putRow_other _ _ _ _ _ k (fun e => hn (by rw [e]; rfl))⟩, rfl⟩
    · simp [putCells, hcs]
    · rw [Nat.mul_one]
      refine putCells_take _ _ _ _ ?_ ?_ (by omega)
      · exact List.take_left' (by simp; omega)
      · simp; omega
    · simp [putRow, mapBlock, Sort.ahead]
end Go.Proofs.YtomnfkihieinbaaDoor.PAll
/- mem: Remove; the nil memory. -/
set_option linter.unusedVariables false
set_option linter.unusedSimpArgs false
namespace Go.Proofs.YtomnfkihieinbaaDoor.PAll
open Go.RowKit Go.Shelf Go.Proofs.YtomnfkihieinbaaDoorW.PrintWords Go.Proofs.YtomnfkihieinbaaDoorW.PrintLast Go.Proofs.YtomnfkihieinbaaDoorW.PrintMore
theorem del_get {α : Type} (l : List α) (i : Nat) (hi : i < l.length) (j : Nat) : (l.take i ++ l.drop (i + 1))[j]? = if j < i then l[j]? else l[j + 1]? := by
  have hl : (l.take i).length = i := by rw [List.length_take]; omega
  by_cases h1 : j < i
  · rw [if_pos h1, List.getElem?_append_left (by omega), List.getElem?_take, if_pos h1]
  · rw [if_neg h1, List.getElem?_append_right (by omega), hl, List.getElem?_drop]
    congr 1
    omega
/-- A region is taken out. -/
theorem MemIn.remove {X Y : World} {B : Nat} {own : Nat → Prop} {m : Nat} {L : List Reg} {v v' : Value} {ps : List (Nat × Nat)} (h : MemIn X B own m L v ps) (i : Nat) (hi : i < L.length)
    (hk : ∀ k, k < X.heap.size → k ≠ m → v.ownBlock ≠ some k → Y.heap[k]? = X.heap[k]?) (hm : Y.heap[m]? = some (memBlock v')) (hrow : Y.ownsRow B 128 1 v' (L.length - 1) ((ps.take i ++ ps.drop (i + 1)).map fun p => ptr p.1))
    (hvo : ∀ k, v'.ownBlock = some k → own k) : MemIn Y B own m (L.take i ++ L.drop (i + 1)) v' (ps.take i ++ ps.drop (i + 1)) := by
  have hil : i < ps.length := by rw [h.len]; exact hi
  have hlen : (L.take i ++ L.drop (i + 1)).length = L.length - 1 := by rw [List.length_append, List.length_take, List.length_drop]; omega
  have hold : ∀ (j : Nat) (p : Nat × Nat) (r : Reg), ps[j]? = some p → L[j]? = some r → RegAt Y B own p r := fun j p r hp hr => by
    have g := h.reg j p r hp hr
    obtain ⟨cap, hb, hro⟩ := g.lies
    obtain ⟨cur, hcur⟩ := row_block hro rfl
    have n1 : p.1 ≠ m := fun e => two_blocks hb h.blk (by decide) e
    have n2 : p.2 ≠ m := fun e => two_blocks hcur h.blk (by decide) e
    refine g.keep (hk p.1 g.lt.1 n1 (fun e => ?_)) (hk p.2 g.lt.2 n2 (fun e => ?_))
    · obtain ⟨c2, hc2⟩ := row_block h.row e
      exact two_blocks hb hc2 (by decide) rfl
    · obtain ⟨c2, hc2⟩ := row_block h.row e
      exact two_blocks hcur hc2 (by decide) rfl
  refine ⟨hm, h.om, h.bm, ?_, hvo, ?_, ?_, ?_⟩
  · rw [hlen]
    exact hrow
  · rw [hlen, List.length_append, List.length_take, List.length_drop]; have := h.len; omega
  · intro j p r hp hr
    rw [del_get _ _ hil] at hp
    rw [del_get _ _ hi] at hr
    by_cases h1 : j < i
    · rw [if_pos h1] at hp hr
      exact hold j p r hp hr
    · rw [if_neg h1] at hp hr
      exact hold (j + 1) p r hp hr
  · refine List.Sublist.nodup (List.Sublist.map _ ?_) h.nd
    have h1 : (ps.take i ++ ps.drop (i + 1)).Sublist (ps.take i ++ ps.drop i) := List.Sublist.append (List.Sublist.refl _) (by rw [List.drop_add_one_eq_tail_drop]; exact List.tail_sublist _)
    rwa [List.take_append_drop] at h1
def remF (L : List Reg) (a : Int) : Option (List Reg) :=
  match L.findIdx? (fun r => r.base == a) with
  | none => none
  | some k => some (L.take k ++ L.drop (k + 1))
def RemPost (X : World) (B : Nat) (own : Nat → Prop) (m : Nat) (L : List Reg) (a : Int) (e : Ending) (X' : World) : Prop :=
  match remF L a with
  | none => e = .returned (.bool false) ∧ Below X.heap.size X X'
  | some L' => e = .returned (.bool true) ∧ MemAt X' B own m L' ∧ Out own X X'
theorem remF_none {L : List Reg} {a : Int} (h : ∀ r ∈ L, r.base ≠ a) : remF L a = none := by
  unfold remF
  have : L.findIdx? (fun r => r.base == a) = none := List.findIdx?_eq_none_iff.2 (fun r hr => by simpa using h r hr)
  rw [this]
theorem remF_some {L : List Reg} {a : Int} (hI : Inv L) {k : Nat} {r : Reg} (hr : L[k]? = some r) (hb : r.base = a) : remF L a = some (L.take k ++ L.drop (k + 1)) := by
  unfold remF
  have hk := (List.getElem?_eq_some_iff.1 hr).1
  have : L.findIdx? (fun r => r.base == a) = some k := by
    rw [List.findIdx?_eq_some_iff_getElem]
    obtain ⟨h1, h2⟩ := List.getElem?_eq_some_iff.1 hr
    refine ⟨h1, by rw [h2]; simpa using hb, fun j hj => ?_⟩
    have h3 := hI.apart j k _ r hj (List.getElem?_eq_getElem (by omega)) hr
    have h4 := hI.pos _ (List.getElem_mem (l := L) (n := j) (by omega))
    simp
    omega
  rw [this]
set_option maxHeartbeats 4000000 in
set_option maxRecDepth 100000 in
theorem mem_Remove (X : World) (B : Nat) (own : Nat → Prop) (m : Nat) (L : List Reg) (a : Int) (h : MemAt X B own m L) (hI : Inv L) (hl : L.length ≤ 1000000) (ha0 : 0 ≤ a) (ha1 : a < 18446744073709551616) :
    Calls Tryd.prog 82 #[.pointer (some ⟨m, 0, none⟩), .int .u64 a] X (RemPost X B own m L a) := by
  obtain ⟨v, ps, hM⟩ := h
  obtain ⟨A, c, rfl⟩ := own_slice hM.row
  have HM := Aside0.mk hM
  have HI := Aside0.mk hI
  have HAT := Aside0.mk (mem_at X B own m L _ ps a hM hI hl)
  clear hM hI ha0 ha1
  go_enter Tryd.func82, Tryd.ntmps82
  go_wp2_with fail
  refine HAT.out.mono ?_
  rintro e W ⟨⟨i, hi, rfl⟩, hb⟩
  have HB := Aside0.mk hb
  have HM4 := Aside0.mk (HM.out.below hb)
  have hm0 := (blk2 HM4.out.blk).1
  cases i with
  | zero =>
    have HF : Aside0 (RemPost X B own m L a (.returned (.bool false)) W) := ⟨by
      unfold RemPost
      rw [remF_none (fun r hr => by
        obtain ⟨j, hj⟩ := List.mem_iff_getElem?.1 hr
        have := hi.2.2 j r (Nat.zero_le _) hj
        omega)]
      exact ⟨rfl, hb⟩⟩
    clear hi hb
    go_wp2_with fail
    go_ret
    exact HF.out
  | succ i =>
    have hil := hi.1
    obtain ⟨p, r, gg, cap, hp, hr, hv, hc, hcap, hcm, hra⟩ := HM4.out.get (i := i) (by omega)
    cases hv
    obtain ⟨cr, hrb2, _⟩ := hra.lies
    have hp0 := (blk2 hrb2).1
    rw [show (((i + 1 : Nat) : Int) - 1) = (i : Int) by omega]
    by_cases hba : r.base = a
    · have HF := Aside0.mk (remF_some HI.out hr hba)
      subst hba
      clear hi hb
      have HDEL := Aside0.mk (del_one W B _ L.length i (ps.map fun p => some ⟨p.1, 0, none⟩) (by rw [List.map_map]; exact HM4.out.row) (by omega))
      go_wp2_with fail
      refine HDEL.out.mono ?_
      rintro e W7 ⟨v', rfl, hrow7, hout7, hvo7⟩
      obtain ⟨A', c', rfl⟩ := own_slice hrow7
      have hnm : (Value.slice (some ⟨gg, 0, none⟩) L.length c).ownBlock ≠ some m := fun e => by
        obtain ⟨c2, hc2⟩ := row_block HM4.out.row e
        exact two_blocks hc2 HM4.out.blk (by decide) rfl
      have HM7 : Aside0 (W7.heap[m]? = some (memBlock (.slice (some ⟨gg, 0, none⟩) L.length c))) := ⟨(hout7.block m (Array.getElem?_eq_some_iff.1 HM4.out.blk).1 hnm).trans HM4.out.blk⟩
      have hm7 := (blk2 HM7.out).1
      have hf7 := (blk2 HM7.out).2.2.1
      have HP : Aside0 (RemPost X B own m L r.base (.returned (.bool true)) (W7.setCell ⟨m, 0, none⟩ (.slice A' (L.length - 1) c'))) := by
        refine ⟨?_⟩
        unfold RemPost
        rw [HF.out]
        have hset : ∀ k, k ≠ m → (W7.setCell ⟨m, 0, none⟩ (.slice A' (L.length - 1) c')).heap[k]? = W7.heap[k]? := fun k hk => Below.heap_setCell W7 ⟨m, 0, none⟩ _ k hk
        have hv'm : (Value.slice A' (L.length - 1) c').ownBlock ≠ some m := by rw [hvo7]; exact hnm
        refine ⟨rfl, ⟨_, _, HM4.out.remove i (by omega) (fun k hk hkm hkv => (hset k hkm).trans (hout7.block k hk hkv)) ?_ ?_ (fun k hk => HM4.out.orow k (by rw [← hvo7]; exact hk))⟩, ?_⟩
        · exact blk_put HM7.out 0 _ rfl
        · refine row_keep (v := .slice A' (L.length - 1) c') ?_ (fun k hk => hset k (fun e => hv'm (by rw [hk, e])))
          simpa [List.map_take, List.map_drop, List.map_map, Function.comp_def, ptr] using hrow7
        · exact ((below_out HB.out own).trans hout7 (fun k _ hk => HM4.out.orow k hk)).trans (set_out W7 m 0 _) (fun k _ hk => by rw [hk]; exact HM.out.om)
      clear hrow7 hout7 hvo7
      go_wp2
      go_ret
      exact HP.out
    · have HF : Aside0 (RemPost X B own m L a (.returned (.bool false)) W) := ⟨by
        unfold RemPost
        rw [remF_none (fun q hq e => by
          obtain ⟨j, hj⟩ := List.mem_iff_getElem?.1 hq
          have h1 := hi.2.1 i r (by omega) hr
          rcases Nat.lt_trichotomy j i with h | h | h
          · have := HI.out.apart j i q r h hj hr
            have := HI.out.pos q hq
            omega
          · subst h; rw [hr] at hj; cases hj; exact hba e
          · have := hi.2.2 j q (by omega) hj
            omega)]
        exact ⟨rfl, hb⟩⟩
      have hne : (r.base == a) = false := beq_eq_false_iff_ne.mpr hba
      have hne2 : (r.base != a) = true := bne_iff_ne.mpr hba
      clear hi hb
      go_wp2_with fail
      go_ret
      exact HF.out
end Go.Proofs.YtomnfkihieinbaaDoor.PAll
/- mem: the nil memory. -/
set_option linter.unusedVariables false
set_option linter.unusedSimpArgs false
namespace Go.Proofs.YtomnfkihieinbaaDoor.PAll
open Go.RowKit Go.Shelf Go.Proofs.YtomnfkihieinbaaDoorW.PrintWords Go.Proofs.YtomnfkihieinbaaDoorW.PrintLast Go.Proofs.YtomnfkihieinbaaDoorW.PrintMore
attribute [local go_sem] Oper.semAt_some
end Go.Proofs.YtomnfkihieinbaaDoor.PAll
/- mem: the operations with all that is new behind one place; alive; MemNil. -/
set_option linter.unusedVariables false
set_option linter.unusedSimpArgs false
namespace Go.Proofs.YtomnfkihieinbaaDoor.PAll
open Go.RowKit Go.Shelf Go.Proofs.YtomnfkihieinbaaDoorW.PrintWords Go.Proofs.YtomnfkihieinbaaDoorW.PrintLast Go.Proofs.YtomnfkihieinbaaDoorW.PrintMore
theorem w64 (x : Int) (h0 : -9223372036854775808 ≤ x) (h1 : x < 9223372036854775808) : wrap64 x = x := by unfold wrap64; omega
theorem rd_at (l : List Int) (i : Nat) (s : Int) (r : List Int) (h : l.drop i = s :: r) : rd l (i : Int) = s := by
  have : l[i]? = some s := by rw [← List.head?_drop, h]; rfl
  simp [rd, List.getD_eq_getElem?_getD, this]
theorem drop_next {α : Type} {l : List α} {i : Nat} {s : α} {r : List α} (h : l.drop i = s :: r) : l.drop (i + 1) = r ∧ i < l.length ∧ l.length = i + 1 + r.length := by
  have hl : (l.drop i).length = r.length + 1 := by rw [h]; rfl
  rw [List.length_drop] at hl
  refine ⟨?_, by omega, by omega⟩
  rw [← List.drop_drop, h]; rfl
theorem same_l0 (a b : List Int) (hl : a.length = b.length) (hm : a.length ≤ 1099511627776) (t : List Int) : ∀ (i k : Nat), a.drop i = t → t.length < k → i ≤ a.length →
    slotcoderef01_Same.l0 k a b (i : Int) = some (decide (t = b.drop i)) := by
  induction t with
  | nil =>
    intro i k ht hk hi
    obtain ⟨k, rfl⟩ : ∃ m, k = m + 1 := ⟨k - 1, by omega⟩
    have : a.length ≤ i := List.drop_eq_nil_iff.mp ht
    simp only [slotcoderef01_Same.l0]; rw [if_neg (by omega)]
    have hbn : b.drop i = [] := List.drop_eq_nil_iff.mpr (by omega)
    rw [hbn]; simp
  | cons s r ih =>
    intro i k ht hk hi
    obtain ⟨k, rfl⟩ : ∃ m, k = m + 1 := ⟨k - 1, by omega⟩
    obtain ⟨hd, hlt, hl2⟩ := drop_next ht
    obtain ⟨q, r2, hq⟩ : ∃ q r2, b.drop i = q :: r2 := by
      cases h : b.drop i with
      | nil => have := List.drop_eq_nil_iff.mp h; omega
      | cons q r2 => exact ⟨q, r2, rfl⟩
    obtain ⟨hd2, _, _⟩ := drop_next hq
    simp only [List.length_cons] at hk
    simp only [slotcoderef01_Same.l0]; rw [if_pos (by omega), if_pos (by omega), if_pos (by omega), rd_at a i s r ht, rd_at b i q r2 hq]
    by_cases c : s = q
    · rw [if_pos c, w64 _ (by omega) (by omega), show (i : Int) + 1 = ((i + 1 : Nat) : Int) by omega, ih (i + 1) k hd (by omega) (by omega), hd2, hq]
      simp [c]
    · rw [if_neg c, hq]; simp [c]
theorem same_f (a b : List Int) (hm : a.length ≤ 1099511627776) (k : Nat) (hk : a.length < k) : slotcoderef01_Same.f k a b = some (decide (a = b)) := by
  unfold slotcoderef01_Same.f
  by_cases c : a.length = b.length
  · rw [if_pos (by omega)]
    have := same_l0 a b c hm a 0 k rfl hk (Nat.zero_le _)
    simpa using this
  · rw [if_neg (by omega)]
    have : a ≠ b := fun h => c (by rw [h])
    simp [this]
/-- A memory whose blocks all lie behind a place. -/
def Mem (X : World) (n0 m : Nat) (L : List Reg) : Prop := n0 ≤ X.heap.size ∧ Inv L ∧ MemAt X n0 (fun k => n0 ≤ k) m L
theorem Mem.below {X X' : World} {n0 m : Nat} {L : List Reg} (h : Mem X n0 m L) (hb : Below X.heap.size X X') : Mem X' n0 m L := ⟨Nat.le_trans h.1 hb.size, h.2.1, h.2.2.below hb⟩
theorem inv_nil : Inv [] := ⟨by simp, by simp, by simp, by simp, by simp, by simp⟩
theorem same_c (A0 : Option Addr) (c0 : Nat) (l0 : List Int) (A1 : Option Addr) (c1 : Nat) (l1 : List Int) (w : World) (hr0 : Kd.C (Kd.int .u8) w A0 l0.length l0) (hc0 : l0.length ≤ c0) (hr1 : Kd.C (Kd.int .u8) w A1 l1.length l1) (hc1 : l1.length ≤ c1) (hm : l0.length ≤ 1099511627776) (r : Bool) (hr : decide (l0 = l1) = r) :
    Calls Tryd.prog 23 #[.slice A0 l0.length c0, .slice A1 l1.length c1] w fun e w' => e = .returned (.bool r) ∧ ∃ k, w' = w.drewN k :=
  (slotcoderef01_Same.calls (l0.length + 1) A0 c0 l0 A1 c1 l1 r w hr0 hc0 hr1 hc1 (by rw [same_f l0 l1 hm _ (by omega), hr])).mono fun e w' h => by
    obtain ⟨rfl, ⟨nd, rfl⟩⟩ := h
    exact ⟨rfl, nd, rfl⟩
/-- A literal of bytes in a new block. -/
theorem lit_C (X : World) (bs : List Int) (cs : Array Value) (h : cs = (nums .u8 bs).toArray) (hl : bs.length ≤ maxLen) : Kd.C (Kd.int .u8) (X.alloc (.cells cs 5 (0, 0))) (some ⟨X.heap.size, 0, none⟩) bs.length bs := by
  subst h
  exact C_of_row (heap_alloc_new X _) hl
end Go.Proofs.YtomnfkihieinbaaDoor.PAll
/- mem: the example of the chapter. -/
set_option linter.unusedVariables false
set_option linter.unusedSimpArgs false
namespace Go.Proofs.YtomnfkihieinbaaDoor.PAll
open Go.RowKit Go.Shelf Go.Proofs.YtomnfkihieinbaaDoorW.PrintWords Go.Proofs.YtomnfkihieinbaaDoorW.PrintLast Go.Proofs.YtomnfkihieinbaaDoorW.PrintMore
end Go.Proofs.YtomnfkihieinbaaDoor.PAll
