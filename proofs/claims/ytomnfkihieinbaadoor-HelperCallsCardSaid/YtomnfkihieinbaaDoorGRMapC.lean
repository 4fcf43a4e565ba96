/- The texts RMapW8, RMapW9 of this claim, joined. -/
import Derived.Test.YtomnfkihieinbaaDoorGRMapB
import Derived.Deep.RegionLaw
/- maps: the reference's Update of a new key; Update whole. -/
set_option linter.unusedVariables false
set_option linter.unusedSimpArgs false
namespace Go.Proofs.YtomnfkihieinbaaDoor.PAll
open Go.RowKit Go.Shelf Go.Maps Go.Proofs.YtomnfkihieinbaaDoorW.PrintWords Go.Proofs.YtomnfkihieinbaaDoorW.PrintLast Go.Proofs.YtomnfkihieinbaaDoorW.PrintMore
theorem rown_empty {w : World} {B g : Nat} (h : w.heap[g]? = some (.cells #[] 5 (0, 0))) (hB : B ≤ g) : w.ownsRow B 5 1 (.slice (some ⟨g, 0, none⟩) 0 0) 0 [] :=
  ⟨rfl, .inr ⟨g, 0, #[], rfl, hB, h, Nat.le_refl _, by decide, rfl, rfl⟩⟩
theorem rnums_one (l : List Int) : ∀ u ∈ nums .u8 l, u.oneCell' = true := fun u hu => by
  obtain ⟨x, _, rfl⟩ := List.mem_map.1 hu
  rfl
theorem rcell_below {w W : World} (hb : Below w.heap.size w W) {a : Addr} {v : Value} (h : w.cell? a = some v) : W.cell? a = some v := by
  have hl := World.block_lt_of_cell? w a h
  unfold World.cell? at h ⊢
  rw [hb.block a.block hl]
  exact h
theorem rC_some {X : World} {A : Option Addr} {l : List Int} (h : Kd.C (Kd.int .u8) X A l.length l) (hl : 1 ≤ l.length) : ∃ a, A = some a ∧ ∀ w, Below X.heap.size X w → ∀ j u, (nums .u8 l)[j]? = some u → w.cell? (a.add j) = some u := by
  have hr := Kd.reads_of_C (enc := Value.int .u8) (d := (0 : Int)) (h1 := fun _ => rfl) h
  obtain ⟨ad, e, hc⟩ := hr.2.2 hl
  refine ⟨ad, e, fun w hb j u hu => ?_⟩
  have hj : j < l.length := by
    have := (List.getElem?_eq_some_iff.1 hu).1
    simpa [nums] using this
  have h1 := rcell_below hb (hc j hj)
  rw [h1, ← hu]
  simp [nums, hj, List.getD_eq_getElem?_getD]
set_option maxHeartbeats 4000000 in
set_option maxRecDepth 100000 in
theorem rupd_new (X : World) (fr : Nat → Prop) (b mb : Nat) (v : Value) (lvs : List Value) (qss : List (List (Nat × Nat))) (S : List MapS) (R : List Reg) (n : Nat) (s : MapS) (A0 A2 : Option Addr) (c0 c2 : Nat) (key value : List Int) (h : Has X fr ((RP b mb v lvs qss S).and (RM mb R))) (hS : RGood S) (hR : R.length ≤ 99999) (hs : S[n]? = some s)
    (hk : ∀ X', Kept fr X X' → Kd.C (Kd.int .u8) X' A0 key.length key) (hkc : key.length ≤ c0) (hkl : key.length ≤ 65536) (hk1 : 1 ≤ key.length) (hb : rightB S n key = true) (hv : (value.length : Int) = s.value) (hj : findE s.ents key = none) (hf : ¬ (s.ents.length : Int) ≥ s.entries)
    (hvk : ∀ X', Kept fr X X' → Kd.C (Kd.int .u8) X' A2 value.length value) (hvb : IsBytes value) (hvs : value.length ≤ 65536) (hvc : value.length ≤ c2) :
    Calls Tryd.prog 42 #[.pointer (some ⟨b, 0, none⟩), .int .i64 n, .slice A0 key.length c0, .slice A2 value.length c2] X fun e9 X' => e9 = .returned (.int .i64 0) ∧ Aside0 (RMM X' fr b mb (S.set n { s with ents := s.ents ++ [(key, addrF n s.next)], next := IntKind.u64.wrap (s.next + 1) }) (raddG R (addrF n s.next) value) ∧ Kept fr X X') := by
  obtain ⟨o1, f1, hRP, hRM⟩ := h.swap.part
  have hk0 := hk X (Kept.refl _ _)
  have HRT := Aside0.mk (right_c X o1 b mb v lvs qss S n A0 c0 key hRP hS.1 hkl)
  rw [hb] at HRT
  have hgd := hS.2 s (List.mem_of_getElem? hs)
  have HFD := Aside0.mk (find_c X o1 b mb v lvs qss S n s A0 c0 key hRP hs hS.1 hgd.1 hgd.2 hk0 hkc)
  unfold findV at HFD
  rw [hj] at HFD
  dsimp only at HFD
  obtain ⟨lv, qs, hP0⟩ := rp_part hRP hs
  obtain ⟨g, c, A, lc, rfl, rfl, hRA, hRE, hRF, hgo, hgb⟩ := rpart_at hP0 hs
  have hn1 : (n : Int) < (S.length : Int) := by have := (List.getElem?_eq_some_iff.1 hs).1; omega
  have hn0 : (0 : Int) ≤ (n : Int) := by omega
  have c1 := hRA.c1
  have cv := hRA.value
  have cx := hRA.next
  have cf := hRF (n * 6 + 5)
  have hnv : ((value.length : Int) != s.value) = false := by simp [hv]
  have hge : decide ((s.ents.length : Int) ≥ s.entries) = false := decide_eq_false hf
  have hge2 : decide (s.entries ≤ (s.ents.length : Int)) = false := decide_eq_false hf
  have HC : Aside0 (∀ w, Below X.heap.size X w → w.cell? ⟨b, 1, none⟩ = some (.slice (some ⟨g, 0, none⟩) S.length c) ∧ w.cell? ⟨g, n * 6 + 4, none⟩ = some (.slice A s.ents.length lc) ∧ w.cell? ⟨g, n * 6 + 3, none⟩ = some (.int .i64 s.entries)) := ⟨fun w hb => ⟨pw_cell_below hb hRA.c1, pw_cell_below hb hRA.list, pw_cell_below hb hRA.entries⟩⟩
  obtain ⟨a0, rfl, _⟩ := rC_some hk0 hk1
  have HP := Aside0.mk hP0
  have HRP := Aside0.mk hRP
  have HRM := Aside0.mk hRM
  have HO := Aside0.mk f1
  have HS := Aside0.mk hs
  have HK := Aside0.mk hk
  have HVK := Aside0.mk hvk
  have HGG := Aside0.mk (And.intro hRF (And.intro hgo hgb))
  have HLL := Aside0.mk (And.intro hkl (And.intro hk1 (And.intro hvs hgd.1)))
  have HVB := Aside0.mk hvb
  obtain ⟨ad, had⟩ : ∃ ad, addrF n s.next = ad := ⟨_, rfl⟩
  obtain ⟨nx, hnx⟩ : ∃ nx, IntKind.u64.wrap (s.next + 1) = nx := ⟨_, rfl⟩
  rw [had, hnx]
  clear h hS hk hkc hkl hk0 hk1 hb hs hgd hj hRP hRM f1 hP0 hRA hRE hRF hgo hgb hv hvk hvb hvs hf
  go_enter Tryd.func42, Tryd.ntmps42
  go_wp2_with fail
  refine HRT.out.mono ?_
  rintro e X' ⟨rfl, rfl⟩
  go_wp2_with fail
  refine HFD.out.mono ?_
  rintro e X' ⟨rfl, k1, rfl⟩
  go_wp2_with fail
  go_region_held3 (fun w => w.cell? ⟨b, 1, none⟩ = some (.slice (some ⟨g, 0, none⟩) S.length c) ∧ w.cell? ⟨g, n * 6 + 4, none⟩ = some (.slice A s.ents.length lc) ∧ w.cell? ⟨g, n * 6 + 3, none⟩ = some (.int .i64 s.entries)) (first | assumption | exact HC.out _ (by repeat (first | exact Below.refl _ _ | apply below_drew | apply pw_below_drewN))) (fail)
  go_upto_region 10 with (fail)
  have had' : IntKind.u64.wrap (IntKind.u64.wrap (4611686018427387904 + IntKind.u64.wrap (IntKind.u64.wrap (n : Int) * 281474976710656)) + IntKind.u64.wrap (s.next * 65536)) = ad := had
  rw [had']
  have HAD : Aside0 (0 ≤ ad ∧ ad < 18446744073709551616) := ⟨by rw [← had]; exact addr_range _ _⟩
  clear had had'
  have cx' : (X.drewN (k1 + 1)).cell? ⟨g, n * 6 + 5, none⟩ = some (.int .u64 s.next) := cx
  have cf' : (X.drewN (k1 + 1)).frozen? ⟨g, n * 6 + 5, none⟩ = false := cf
  have c1' : (X.drewN (k1 + 1)).cell? ⟨b, 1, none⟩ = some (.slice (some ⟨g, 0, none⟩) S.length c) := c1
  go_upto_region 11 with (fail)
  clear hnx cx cf cx' cf' c1 c1'
  obtain ⟨W1, hW1⟩ : ∃ W, (X.drewN (k1 + 1)).setCell ⟨g, n * 6 + 5, none⟩ (.int .u64 nx) = W := ⟨_, rfl⟩
  have hO1 : Out (fun k => k = g) X W1 := by
    rw [← hW1]
    exact (below_out (pw_below_drewN (Below.refl _ _) _) _).trans (set_out _ g _ _) (fun _ _ h => h)
  have hrow1 : W1.ownsRow 0 106 6 (.slice (some ⟨g, 0, none⟩) S.length c) S.length (rcells (S.set n { s with next := nx }) lvs) := by
    have h0 : (X.drewN (k1 + 1)).ownsRow 0 106 6 (.slice (some ⟨g, 0, none⟩) S.length c) S.length (rcells S lvs) := row_keep HP.out.row (fun k hk => rfl)
    have h1 := (h0.stored (n * 6 + 5) (.int .u64 nx)).1
    rw [rcells_next S lvs n s nx HS.out HP.out.ll, hW1] at h1
    exact h1
  rw [hW1]
  clear hW1
  have hKW1 : Kept fr X W1 := hO1.mono (fun k _ hk hf => by rw [hk] at hf; exact (HO.out g HGG.out.2.1).1 hf)
  have hbX : b < X.heap.size := (HO.out b HP.out.ob).2
  have hb1 : W1.heap[b]? = X.heap[b]? := hO1.block b hbX (fun e => HGG.out.2.2 e.symm)
  have hc1 : W1.cell? ⟨b, 1, none⟩ = some (.slice (some ⟨g, 0, none⟩) S.length c) := cell_keep (blk2 HP.out.blk).2.1 hb1
  have hcl : W1.cell? ⟨g, n * 6 + 4, none⟩ = some (.slice A s.ents.length lc) := by
    have hn : n < S.length := (List.getElem?_eq_some_iff.1 HS.out).1
    rw [hrow1.cellAt _ (by omega)]
    exact rcells_at (S.set n { s with next := nx }) lvs n { s with next := nx } _ (by rw [List.getElem?_set_self hn]) HP.out.hlv 4 (by decide)
  have hlv : ∀ k, (Value.slice A s.ents.length lc).ownBlock = some k → k < X.heap.size ∧ k ≠ g ∧ k ≠ b := fun k hk => by
    obtain ⟨cl, hcl⟩ := row_blkN HP.out.ents hk
    obtain ⟨cg, hcg⟩ := row_blkN HP.out.row rfl
    exact ⟨(HO.out k (HP.out.ol k hk)).2, two_blocks hcl hcg (by decide), two_blocks hcl HP.out.blk (by decide)⟩
  have hents1 : W1.ownsRow 0 122 2 (.slice A s.ents.length lc) s.ents.length (lcells s.ents qs) := row_keep HP.out.ents (fun k hk => hO1.block k (hlv k hk).1 (hlv k hk).2.1)
  have HCELL : Aside0 (∀ w, Below W1.heap.size W1 w → w.cell? ⟨b, 1, none⟩ = some (.slice (some ⟨g, 0, none⟩) S.length c) ∧ w.cell? ⟨g, n * 6 + 4, none⟩ = some (.slice A s.ents.length lc)) := ⟨fun w hb => ⟨pw_cell_below hb hc1, pw_cell_below hb hcl⟩⟩
  have HROWL : Aside0 (∀ w, Below W1.heap.size W1 w → w.ownsRow 0 122 2 (.slice A s.ents.length lc) s.ents.length (lcells s.ents qs)) := ⟨fun w hb => row_keep hents1 (fun k hk => hb.block k (Nat.lt_of_lt_of_le (hlv k hk).1 hO1.size))⟩
  have HW7 : Aside0 (∀ (o : Obj) (w5 w7 : World), Below W1.heap.size W1 w5 → (w5.alloc o).grownBy w7 (Value.slice A s.ents.length lc).ownBlock → w7.cell? ⟨b, 1, none⟩ = some (.slice (some ⟨g, 0, none⟩) S.length c) ∧ w7.frozen? ⟨g, n * 6 + 4, none⟩ = false ∧ w7.cell? ⟨g, n * 6 + 4, none⟩ = some (.slice A s.ents.length lc)) := ⟨fun o w5 w7 hb hg => by
    have hba : Below w5.heap.size w5 (w5.alloc o) := below_alloc (Below.refl _ _) o
    have h1 := hO1.size
    have h2 := hb.size
    have h3 := hba.size
    have hgX := (HO.out g HGG.out.2.1).2
    have hk : ∀ k, k < X.heap.size → (Value.slice A s.ents.length lc).ownBlock ≠ some k → w7.heap[k]? = W1.heap[k]? := fun k hk hne => by
      rw [hg.block k (by omega) (fun e => hne e.symm), hba.block k (by omega), hb.block k (by omega)]
    exact ⟨cell_keep hc1 (hk b hbX (fun e => (hlv b e).2.2 rfl)), frozen_keep (hrow1.frozenAt _) (hk g hgX (fun e => (hlv g e).2.1 rfl)), cell_keep hcl (hk g hgX (fun e => (hlv g e).2.1 rfl))⟩⟩
  have hkW1 := HK.out W1 hKW1
  obtain ⟨a0', ha0, hnk⟩ := rC_some hkW1 HLL.out.2.1
  obtain rfl : a0 = a0' := Option.some.inj ha0
  have HNK := Aside0.mk hnk
  have HFIN : Aside0 (∀ (o : Obj) (w5 w7 : World) (g2 cap2 g8 cap8 : Nat), Below W1.heap.size W1 w5 → w5.ownsRow W1.heap.size 5 1 (.slice (some ⟨g8, 0, none⟩) key.length cap8) key.length (nums .u8 key) → (w5.alloc o).grownBy w7 (Value.slice A s.ents.length lc).ownBlock →
      w7.ownsRow 0 122 2 (.slice (some ⟨g2, 0, none⟩) (s.ents.length + 1) cap2) (s.ents.length + 1) (lcells s.ents qs ++ [.slice (some ⟨g8, 0, none⟩) key.length cap8, .int .u64 ad]) → ((Value.slice A s.ents.length lc).ownBlock = some g2 ∨ g2 = (w5.alloc o).heap.size) →
      (w7.setCell ⟨g, n * 6 + 4, none⟩ (.slice (some ⟨g2, 0, none⟩) (s.ents.length + 1) cap2)).cell? ⟨b, 0, none⟩ = some (.pointer (some ⟨mb, 0, none⟩)) ∧
      Aside0 (RMM (w7.setCell ⟨g, n * 6 + 4, none⟩ (.slice (some ⟨g2, 0, none⟩) (s.ents.length + 1) cap2)) fr b mb (S.set n { s with ents := s.ents ++ [(key, ad)], next := nx }) R ∧ Kept fr X (w7.setCell ⟨g, n * 6 + 4, none⟩ (.slice (some ⟨g2, 0, none⟩) (s.ents.length + 1) cap2)))) := ⟨fun o w5 w7 g2 cap2 g8 cap8 hb5 hown5 hgr hown7 hat => by
    obtain ⟨own', hRP', hown', hOut⟩ := rp_new HRP.out (fun k hk => (HO.out k hk).2) HS.out HP.out hO1 hrow1 hb5 hown5 hgr hown7 hat
    obtain ⟨_, _, _, hcb, _, _, _⟩ := rp_head hRP'
    obtain ⟨h6f, o6, h6, hRM6⟩ := HRM.out
    obtain ⟨r1, r2⟩ := rmm_turn (own := fun k => o1 k ∨ o6 k) (fun k hk => h6f k (.inl hk)) (by
      rintro k (hk | hk)
      · exact HO.out k hk
      · exact ⟨fun hf => (h6 k hk).1 (.inl hf), (h6 k hk).2⟩) (fun k => Iff.rfl) (fun k hk hk' => (h6 k hk').1 (.inr hk)) hRM6 hRP' hown' hOut
    exact ⟨hcb, ⟨r1, r2⟩⟩⟩
  have HADD : Aside0 (∀ (W8 : World), RMM W8 fr b mb (S.set n { s with ents := s.ents ++ [(key, ad)], next := nx }) R → Kept fr X W8 → Calls Tryd.prog 18 #[.pointer (some ⟨mb, 0, none⟩), .int .u64 ad, .slice A2 value.length c2] W8 fun e9 w' => (∃ b, e9 = .returned (.bool b)) ∧ Aside0 (RMM w' fr b mb (S.set n { s with ents := s.ents ++ [(key, ad)], next := nx }) (raddG R ad value) ∧ Kept fr X w')) := ⟨fun W8 ⟨v9, lvs9, qss9, hH9⟩ hK9 => by
    refine (frameC hH9.swap (fun fr' hf hR' => rm_add W8 fr' mb R ad A2 c2 value hR' (by omega) HAD.out.1 HAD.out.2 (HVK.out W8 hK9) hvc (by have := HLL.out; omega) HVB.out)).mono ?_
    rintro e9 w' ⟨he, hH, hKp⟩
    exact ⟨⟨_, he⟩, ⟨v9, lvs9, qss9, hH.swap⟩, hK9.trans hKp⟩⟩
  obtain ⟨iu, hiu, hu0, hu1, hu2⟩ := info_parts infoU8
  obtain ⟨i0, hi, hz0, hz1, hz2⟩ := info_parts infoEnt1
  have hbC : Below W1.heap.size W1 (W1.alloc (.cells #[] 5)).drew := below_drew (below_alloc (Below.refl _ _) _)
  have hEC : (W1.alloc (.cells #[] 5)).drew.heap[W1.heap.size]? = some (.cells #[] 5 (0, 0)) := heap_alloc_new W1 _
  have HEC := Aside0.mk (And.intro hbC hEC)
  obtain ⟨y0, y1⟩ := HCELL.out _ hbC
  obtain ⟨u0, u1⟩ := HCELL.out W1.drew (below_drew (Below.refl _ _))
  have HLK : Aside0 ((nums .u8 key).length = key.length * 1 ∧ 0 < key.length ∧ 0 + key.length ≤ maxLen ∧ (0 + key.length) * 1 ≤ 140737488355328 ∧ s.ents.length + 1 ≤ maxLen ∧ (s.ents.length + 1) * 32 ≤ 140737488355328) := ⟨by
    have h := HLL.out
    unfold maxLen
    rw [nums_length]
    omega⟩
  clear hO1 hrow1 hKW1 hbX hb1 hc1 hcl hlv hents1 hkW1 ha0 hnk hbC hEC
  have HSET : Aside0 (∀ (w : World) (u : Value), w.cell? ⟨b, 1, none⟩ = some (.slice (some ⟨g, 0, none⟩) S.length c) → (w.setCell ⟨g, n * 6 + 4, none⟩ u).cell? ⟨b, 1, none⟩ = some (.slice (some ⟨g, 0, none⟩) S.length c)) := ⟨fun w u h => cell_keep h (Below.heap_setCell w ⟨g, n * 6 + 4, none⟩ u b (fun e => HGG.out.2.2 e.symm))⟩
  -- region 11
  refine wp_region_held_drew (S := (fun w => w.cell? ⟨b, 1, none⟩ = some (.slice (some ⟨g, 0, none⟩) S.length c))) (by kernel_rfl) u0 (fun hHeld => ?_)
  refine wpAnyH_take (i := 0) (oi := { dst := some 98, op := Op.move (Operand.tmp 0), type := 46, pos := "ref.go:112", after := #[], guard := none }) (v := ?vqa0) rfl (by kernel_rfl) (by kernel_rfl) (by kernel_rfl) (fun _ _ _ h => h) (Or.inl ⟨by rfl, ?hyqa0⟩) (by assumption) ?restqa0
  case hyqa0 => (intro w hSw; (try dsimp only at hSw); first | (go_simp; done) | (go_simp; with_reducible rfl))
  try simp only [Act.put, List.setIfInBounds_toArray, List.set_cons_zero, List.set_cons_succ]
  refine wpAnyH_take (i := 1) (oi := { dst := some 99, op := Op.nilCheck (Operand.tmp 98), type := 0, pos := "ref.go:112", after := #[{ on := 0, ground := Ground.data }], guard := none }) (v := ?vqa1) rfl (by kernel_rfl) (by kernel_rfl) (by kernel_rfl) (fun _ _ _ h => h) (Or.inl ⟨by rfl, ?hyqa1⟩) (by assumption) ?restqa1
  case hyqa1 => (intro w hSw; (try dsimp only at hSw); first | (go_simp; done) | (go_simp; with_reducible rfl))
  try simp only [Act.put, List.setIfInBounds_toArray, List.set_cons_zero, List.set_cons_succ]
  refine wpAnyH_take (i := 2) (oi := { dst := some 100, op := Op.fieldAddr 55 (Operand.tmp 99) 1, type := 0, pos := "ref.go:112", after := #[{ on := 1, ground := Ground.data }], guard := none }) (v := ?vqa2) rfl (by kernel_rfl) (by kernel_rfl) (by kernel_rfl) (fun _ _ _ h => h) (Or.inl ⟨by rfl, ?hyqa2⟩) (by assumption) ?restqa2
  case hyqa2 => (intro w hSw; (try dsimp only at hSw); first | (go_simp; done) | (go_simp; with_reducible rfl))
  try simp only [Act.put, List.setIfInBounds_toArray, List.set_cons_zero, List.set_cons_succ]
  refine wpAnyH_take (i := 3) (oi := { dst := some 101, op := Op.load 53 (Operand.tmp 100), type := 53, pos := "ref.go:112", after := #[{ on := 2, ground := Ground.data }], guard := none }) (v := ?vqa3) rfl (by kernel_rfl) (by kernel_rfl) (by kernel_rfl) (fun _ _ _ h => h) (Or.inl ⟨by rfl, ?hyqa3⟩) (by assumption) ?restqa3
  case hyqa3 => (intro w hSw; (try dsimp only at hSw); first | (go_simp; done) | (go_simp; with_reducible rfl))
  try simp only [Act.put, List.setIfInBounds_toArray, List.set_cons_zero, List.set_cons_succ]
  refine wpAnyH_take (i := 4) (oi := { dst := some 102, op := Op.move (Operand.tmp 1), type := 3, pos := "ref.go:112", after := #[], guard := none }) (v := ?vqa4) rfl (by kernel_rfl) (by kernel_rfl) (by kernel_rfl) (fun _ _ _ h => h) (Or.inl ⟨by rfl, ?hyqa4⟩) (by assumption) ?restqa4
  case hyqa4 => (intro w hSw; (try dsimp only at hSw); first | (go_simp; done) | (go_simp; with_reducible rfl))
  try simp only [Act.put, List.setIfInBounds_toArray, List.set_cons_zero, List.set_cons_succ]
  refine wpAnyH_take (i := 5) (oi := { dst := some 103, op := Op.move (Operand.tmp 0), type := 46, pos := "ref.go:112", after := #[], guard := none }) (v := ?vqa5) rfl (by kernel_rfl) (by kernel_rfl) (by kernel_rfl) (fun _ _ _ h => h) (Or.inl ⟨by rfl, ?hyqa5⟩) (by assumption) ?restqa5
  case hyqa5 => (intro w hSw; (try dsimp only at hSw); first | (go_simp; done) | (go_simp; with_reducible rfl))
  try simp only [Act.put, List.setIfInBounds_toArray, List.set_cons_zero, List.set_cons_succ]
  refine wpAnyH_take (i := 6) (oi := { dst := some 104, op := Op.nilCheck (Operand.tmp 103), type := 0, pos := "ref.go:112", after := #[{ on := 5, ground := Ground.data }], guard := none }) (v := ?vqa6) rfl (by kernel_rfl) (by kernel_rfl) (by kernel_rfl) (fun _ _ _ h => h) (Or.inl ⟨by rfl, ?hyqa6⟩) (by assumption) ?restqa6
  case hyqa6 => (intro w hSw; (try dsimp only at hSw); first | (go_simp; done) | (go_simp; with_reducible rfl))
  try simp only [Act.put, List.setIfInBounds_toArray, List.set_cons_zero, List.set_cons_succ]
  refine wpAnyH_take (i := 7) (oi := { dst := some 105, op := Op.fieldAddr 55 (Operand.tmp 104) 1, type := 0, pos := "ref.go:112", after := #[{ on := 6, ground := Ground.data }], guard := none }) (v := ?vqa7) rfl (by kernel_rfl) (by kernel_rfl) (by kernel_rfl) (fun _ _ _ h => h) (Or.inl ⟨by rfl, ?hyqa7⟩) (by assumption) ?restqa7
  case hyqa7 => (intro w hSw; (try dsimp only at hSw); first | (go_simp; done) | (go_simp; with_reducible rfl))
  try simp only [Act.put, List.setIfInBounds_toArray, List.set_cons_zero, List.set_cons_succ]
  refine wpAnyH_take (i := 8) (oi := { dst := some 106, op := Op.load 53 (Operand.tmp 105), type := 53, pos := "ref.go:112", after := #[{ on := 7, ground := Ground.data }], guard := none }) (v := ?vqa8) rfl (by kernel_rfl) (by kernel_rfl) (by kernel_rfl) (fun _ _ _ h => h) (Or.inl ⟨by rfl, ?hyqa8⟩) (by assumption) ?restqa8
  case hyqa8 => (intro w hSw; (try dsimp only at hSw); first | (go_simp; done) | (go_simp; with_reducible rfl))
  try simp only [Act.put, List.setIfInBounds_toArray, List.set_cons_zero, List.set_cons_succ]
  refine wpAnyH_take (i := 9) (oi := { dst := some 107, op := Op.move (Operand.tmp 1), type := 3, pos := "ref.go:112", after := #[], guard := none }) (v := ?vqa9) rfl (by kernel_rfl) (by kernel_rfl) (by kernel_rfl) (fun _ _ _ h => h) (Or.inl ⟨by rfl, ?hyqa9⟩) (by assumption) ?restqa9
  case hyqa9 => (intro w hSw; (try dsimp only at hSw); first | (go_simp; done) | (go_simp; with_reducible rfl))
  try simp only [Act.put, List.setIfInBounds_toArray, List.set_cons_zero, List.set_cons_succ]
  refine wpAnyH_take (i := 10) (oi := { dst := some 108, op := Op.indexAddr 53 (Operand.tmp 106) (Operand.tmp 107), type := 0, pos := "ref.go:112", after := #[{ on := 8, ground := Ground.data }, { on := 9, ground := Ground.data }], guard := none }) (v := ?vqa10) rfl (by kernel_rfl) (by kernel_rfl) (by kernel_rfl) (fun _ _ _ h => h) (Or.inl ⟨by rfl, ?hyqa10⟩) (by assumption) ?restqa10
  case hyqa10 => (intro w hSw; (try dsimp only at hSw); first | (go_simp; done) | (go_simp; with_reducible rfl))
  try simp only [Act.put, List.setIfInBounds_toArray, List.set_cons_zero, List.set_cons_succ]
  refine wpAnyH_take (i := 11) (oi := { dst := some 109, op := Op.fieldAddr 106 (Operand.tmp 108) 1, type := 0, pos := "ref.go:112", after := #[{ on := 10, ground := Ground.data }], guard := none }) (v := ?vqa11) rfl (by kernel_rfl) (by kernel_rfl) (by kernel_rfl) (fun _ _ _ h => h) (Or.inl ⟨by rfl, ?hyqa11⟩) (by assumption) ?restqa11
  case hyqa11 => (intro w hSw; (try dsimp only at hSw); first | (go_simp; done) | (go_simp; with_reducible rfl))
  try simp only [Act.put, List.setIfInBounds_toArray, List.set_cons_zero, List.set_cons_succ]
  refine wpAnyH_take (i := 14) (oi := { dst := some 112, op := Op.move (Operand.tmp 2), type := 26, pos := "ref.go:112", after := #[], guard := none }) (v := ?vqa14) rfl (by kernel_rfl) (by kernel_rfl) (by kernel_rfl) (fun _ _ _ h => h) (Or.inl ⟨by rfl, ?hyqa14⟩) (by assumption) ?restqa14
  case hyqa14 => (intro w hSw; (try dsimp only at hSw); first | (go_simp; done) | (go_simp; with_reducible rfl))
  try simp only [Act.put, List.setIfInBounds_toArray, List.set_cons_zero, List.set_cons_succ]
  refine wpAnyH_take (i := 16) (oi := { dst := some 114, op := Op.move (Operand.tmp 10), type := 30, pos := "ref.go:112", after := #[], guard := none }) (v := ?vqa16) rfl (by kernel_rfl) (by kernel_rfl) (by kernel_rfl) (fun _ _ _ h => h) (Or.inl ⟨by rfl, ?hyqa16⟩) (by assumption) ?restqa16
  case hyqa16 => (intro w hSw; (try dsimp only at hSw); first | (go_simp; done) | (go_simp; with_reducible rfl))
  try simp only [Act.put, List.setIfInBounds_toArray, List.set_cons_zero, List.set_cons_succ]
  refine wpAnyH_ready (rs := [12, 13]) (by kernel_rfl) (by simp) (AllReadyH.cons (o := { dst := some 110, op := Op.load 104 (Operand.tmp 109), type := 104, pos := "ref.go:112", after := #[{ on := 11, ground := Ground.data }], guard := none }) rfl (fun K hK => ?sA1) (AllReadyH.cons (o := { dst := some 111, op := Op.buildSlice 26 0 #[], type := 26, pos := "ref.go:112", after := #[], guard := none }) rfl (fun K hK => ?sB1) AllReadyH.nil))
  case sA1 =>
    go_simp
    try dsimp only
    refine hK.out _ _ (by first | assumption | exact HSET.out _ _ (by assumption)) (fun hHeld => ?_)
    clear hK K
    try simp only [Act.put, List.setIfInBounds_toArray, List.set_cons_zero, List.set_cons_succ]
    refine wpAnyH_ready (rs := [13]) (by kernel_rfl) (by simp) (AllReadyH.cons (o := { dst := some 111, op := Op.buildSlice 26 0 #[], type := 26, pos := "ref.go:112", after := #[], guard := none }) rfl (fun K hK => ?_) AllReadyH.nil)
    go_simp
    try dsimp only
    refine hK.out _ _ (by first | assumption | exact HSET.out _ _ (by assumption)) (fun hHeld => ?_)
    clear hK K
    try simp only [Act.put, List.setIfInBounds_toArray, List.set_cons_zero, List.set_cons_succ]
    refine wpAnyH_ready (rs := [15]) (by kernel_rfl) (by simp) (AllReadyH.cons (o := { dst := some 113, op := Op.call { callee := Callee.builtin Builtin.append, args := #[Operand.tmp 111, Operand.tmp 112], argTypes := #[26, 26] }, type := 26, pos := "ref.go:112", after := #[{ on := 13, ground := Ground.data }, { on := 14, ground := Ground.data }], guard := none }) rfl (fun K hK => ?_) AllReadyH.nil)
    refine step_append_lies _ rfl _ _ 26 rfl W1.heap.size 5 iu _ 1 1 Tryd.underlying26 hiu hu0 hu1 hu2 rfl (by decide) (.slice (some ⟨W1.heap.size, 0, none⟩) 0 0) 0 [] rfl (rown_empty HEC.out.2 (Nat.le_refl _)) a0 key.length c0 (nums .u8 key) rfl HLK.out.1 (HNK.out _ HEC.out.1) (rnums_one _) HLK.out.2.1 HLK.out.2.2.1 HLK.out.2.2.2.1 HEC.out.1.size _ rfl ?_
    intro g8 cap8 w5 hown5 hgrow5 hat5 hlt5
    have hb5 := HEC.out.1.grown hgrow5 HEC.out.1.size (fun k hk => by cases hk; exact Nat.le_refl _)
    rw [Nat.zero_add, List.nil_append] at hown5
    obtain ⟨x0, x1⟩ := HCELL.out _ hb5
    obtain ⟨x2, x3⟩ := HCELL.out _ (below_alloc hb5 (.cells #[.slice (some ⟨g8, 0, none⟩) key.length cap8, .int .u64 ad] 122))
    have HO5 := Aside0.mk (And.intro hb5 hown5)
    clear hb5 hown5 hat5 hgrow5 hlt5
    try dsimp only
    refine hK.out _ _ (by first | assumption | exact HSET.out _ _ (by assumption)) (fun hHeld => ?_)
    clear hK K
    try simp only [Act.put, List.setIfInBounds_toArray, List.set_cons_zero, List.set_cons_succ]
    refine wpAnyH_take (i := 17) (oi := { dst := some 115, op := Op.build 122 #[(0, Operand.tmp 113), (1, Operand.tmp 114)], type := 122, pos := "ref.go:112", after := #[{ on := 15, ground := Ground.data }, { on := 16, ground := Ground.data }], guard := none }) (v := ?vq217) rfl (by kernel_rfl) (by kernel_rfl) (by kernel_rfl) (fun _ _ _ h => h) (Or.inl ⟨by rfl, ?hyq217⟩) (by assumption) ?restq217
    case hyq217 => (intro w hSw; (try dsimp only at hSw); first | (go_simp; done) | (go_simp; with_reducible rfl))
    try simp only [Act.put, List.setIfInBounds_toArray, List.set_cons_zero, List.set_cons_succ]
    refine wpAnyH_ready (rs := [18]) (by kernel_rfl) (by simp) (AllReadyH.cons (o := { dst := some 116, op := Op.buildSlice 104 1 #[(0, Operand.tmp 115)], type := 104, pos := "ref.go:112", after := #[{ on := 17, ground := Ground.data }], guard := none }) rfl (fun K hK => ?_) AllReadyH.nil)
    go_simp
    try dsimp only
    refine hK.out _ _ (by first | assumption | exact HSET.out _ _ (by assumption)) (fun hHeld => ?_)
    clear hK K
    try simp only [Act.put, List.setIfInBounds_toArray, List.set_cons_zero, List.set_cons_succ]
    refine wpAnyH_ready (rs := [19]) (by kernel_rfl) (by simp) (AllReadyH.cons (o := { dst := some 117, op := Op.call { callee := Callee.builtin Builtin.append, args := #[Operand.tmp 110, Operand.tmp 116], argTypes := #[104, 104] }, type := 104, pos := "ref.go:112", after := #[{ on := 12, ground := Ground.data }, { on := 18, ground := Ground.data }, { on := 15, ground := Ground.chain }], guard := none }) rfl (fun K hK => ?_) AllReadyH.nil)
    refine step_append_lies _ rfl _ _ 104 rfl 0 122 i0 _ 2 32 Tryd.underlying104 hi hz0 hz1 hz2 rfl (by decide) (.slice A s.ents.length lc) s.ents.length (lcells s.ents qs) rfl ((HROWL.out w5 HO5.out.1).alloc _) ⟨w5.heap.size, 0, none⟩ 1 1 [.slice (some ⟨g8, 0, none⟩) key.length cap8, .int .u64 ad] rfl rfl (World.news_of_block (heap_alloc_new w5 _)) (lcell_one (q := (g8, cap8))) (by decide) HLK.out.2.2.2.2.1 HLK.out.2.2.2.2.2 (Nat.zero_le _) _ rfl ?_
    intro g2 cap2 w7 hown7 hgrow7 hat7 hlt7
    obtain ⟨z0, z1, z2⟩ := HW7.out _ w5 w7 HO5.out.1 hgrow7
    have HO7 := Aside0.mk (And.intro hown7 (And.intro hgrow7 hat7))
    clear hown7 hgrow7 hat7 hlt7
    try dsimp only
    refine hK.out _ _ (by first | assumption | exact HSET.out _ _ (by assumption)) (fun hHeld => ?_)
    clear hK K
    try simp only [Act.put, List.setIfInBounds_toArray, List.set_cons_zero, List.set_cons_succ]
    refine wpAnyH_take (i := 20) (oi := { dst := some 118, op := Op.indexAddr 53 (Operand.tmp 101) (Operand.tmp 102), type := 0, pos := "ref.go:112", after := #[{ on := 3, ground := Ground.data }, { on := 4, ground := Ground.data }, { on := 0, ground := Ground.phase }, { on := 1, ground := Ground.phase }, { on := 2, ground := Ground.phase }, { on := 3, ground := Ground.phase }, { on := 4, ground := Ground.phase }, { on := 5, ground := Ground.phase }, { on := 6, ground := Ground.phase }, { on := 7, ground := Ground.phase }, { on := 8, ground := Ground.phase }, { on := 9, ground := Ground.phase }, { on := 10, ground := Ground.phase }, { on := 11, ground := Ground.phase }, { on := 12, ground := Ground.phase }, { on := 13, ground := Ground.phase }, { on := 14, ground := Ground.phase }, { on := 15, ground := Ground.phase }, { on := 16, ground := Ground.phase }, { on := 17, ground := Ground.phase }, { on := 18, ground := Ground.phase }, { on := 19, ground := Ground.phase }], guard := none }) (v := ?vq320) rfl (by kernel_rfl) (by kernel_rfl) (by kernel_rfl) (fun _ _ _ h => h) (Or.inl ⟨by rfl, ?hyq320⟩) (by assumption) ?restq320
    case hyq320 => (intro w hSw; (try dsimp only at hSw); first | (go_simp; done) | (go_simp; with_reducible rfl))
    try simp only [Act.put, List.setIfInBounds_toArray, List.set_cons_zero, List.set_cons_succ]
    refine wpAnyH_take (i := 21) (oi := { dst := some 119, op := Op.fieldAddr 106 (Operand.tmp 118) 1, type := 0, pos := "ref.go:112", after := #[{ on := 20, ground := Ground.data }, { on := 0, ground := Ground.phase }, { on := 1, ground := Ground.phase }, { on := 2, ground := Ground.phase }, { on := 3, ground := Ground.phase }, { on := 4, ground := Ground.phase }, { on := 5, ground := Ground.phase }, { on := 6, ground := Ground.phase }, { on := 7, ground := Ground.phase }, { on := 8, ground := Ground.phase }, { on := 9, ground := Ground.phase }, { on := 10, ground := Ground.phase }, { on := 11, ground := Ground.phase }, { on := 12, ground := Ground.phase }, { on := 13, ground := Ground.phase }, { on := 14, ground := Ground.phase }, { on := 15, ground := Ground.phase }, { on := 16, ground := Ground.phase }, { on := 17, ground := Ground.phase }, { on := 18, ground := Ground.phase }, { on := 19, ground := Ground.phase }], guard := none }) (v := ?vq321) rfl (by kernel_rfl) (by kernel_rfl) (by kernel_rfl) (fun _ _ _ h => h) (Or.inl ⟨by rfl, ?hyq321⟩) (by assumption) ?restq321
    case hyq321 => (intro w hSw; (try dsimp only at hSw); first | (go_simp; done) | (go_simp; with_reducible rfl))
    try simp only [Act.put, List.setIfInBounds_toArray, List.set_cons_zero, List.set_cons_succ]
    refine wpAnyH_ready (rs := [22]) (by kernel_rfl) (by simp) (AllReadyH.cons (o := { dst := none, op := Op.store 104 (Operand.tmp 119) (Operand.tmp 117), type := 0, pos := "ref.go:112", after := #[{ on := 21, ground := Ground.data }, { on := 19, ground := Ground.data }, { on := 19, ground := Ground.chain }, { on := 0, ground := Ground.phase }, { on := 1, ground := Ground.phase }, { on := 2, ground := Ground.phase }, { on := 3, ground := Ground.phase }, { on := 4, ground := Ground.phase }, { on := 5, ground := Ground.phase }, { on := 6, ground := Ground.phase }, { on := 7, ground := Ground.phase }, { on := 8, ground := Ground.phase }, { on := 9, ground := Ground.phase }, { on := 10, ground := Ground.phase }, { on := 11, ground := Ground.phase }, { on := 12, ground := Ground.phase }, { on := 13, ground := Ground.phase }, { on := 14, ground := Ground.phase }, { on := 15, ground := Ground.phase }, { on := 16, ground := Ground.phase }, { on := 17, ground := Ground.phase }, { on := 18, ground := Ground.phase }, { on := 19, ground := Ground.phase }], guard := none }) rfl (fun K hK => ?_) AllReadyH.nil)
    go_simp
    try dsimp only
    refine hK.out _ _ (by first | assumption | exact HSET.out _ _ (by assumption)) (fun hHeld => ?_)
    clear hK K
    try simp only [Act.put, List.setIfInBounds_toArray, List.set_cons_zero, List.set_cons_succ]
    refine wpAnyH_done (by kernel_rfl) ?_ _
    have HQ := HFIN.out _ _ _ _ _ _ _ HO5.out.1 HO5.out.2 HO7.out.2.1 HO7.out.1 HO7.out.2.2
    have hq1 := HQ.1
    go_wp2_with fail
    refine (HADD.out _ HQ.2.out.1 HQ.2.out.2).mono ?_
    rintro e9 w9 ⟨⟨b9, rfl⟩, HF9⟩
    go_wp2_with fail
    go_ret
    exact ⟨rfl, HF9⟩
  case sB1 =>
    go_simp
    try dsimp only
    refine hK.out _ _ (by first | assumption | exact HSET.out _ _ (by assumption)) (fun hHeld => ?_)
    clear hK K
    try simp only [Act.put, List.setIfInBounds_toArray, List.set_cons_zero, List.set_cons_succ]
    refine wpAnyH_ready (rs := [12, 15]) (by kernel_rfl) (by simp) (AllReadyH.cons (o := { dst := some 110, op := Op.load 104 (Operand.tmp 109), type := 104, pos := "ref.go:112", after := #[{ on := 11, ground := Ground.data }], guard := none }) rfl (fun K hK => ?sA4) (AllReadyH.cons (o := { dst := some 113, op := Op.call { callee := Callee.builtin Builtin.append, args := #[Operand.tmp 111, Operand.tmp 112], argTypes := #[26, 26] }, type := 26, pos := "ref.go:112", after := #[{ on := 13, ground := Ground.data }, { on := 14, ground := Ground.data }], guard := none }) rfl (fun K hK => ?sB4) AllReadyH.nil))
    case sA4 =>
      go_simp
      try dsimp only
      refine hK.out _ _ (by first | assumption | exact HSET.out _ _ (by assumption)) (fun hHeld => ?_)
      clear hK K
      try simp only [Act.put, List.setIfInBounds_toArray, List.set_cons_zero, List.set_cons_succ]
      refine wpAnyH_ready (rs := [15]) (by kernel_rfl) (by simp) (AllReadyH.cons (o := { dst := some 113, op := Op.call { callee := Callee.builtin Builtin.append, args := #[Operand.tmp 111, Operand.tmp 112], argTypes := #[26, 26] }, type := 26, pos := "ref.go:112", after := #[{ on := 13, ground := Ground.data }, { on := 14, ground := Ground.data }], guard := none }) rfl (fun K hK => ?_) AllReadyH.nil)
      refine step_append_lies _ rfl _ _ 26 rfl W1.heap.size 5 iu _ 1 1 Tryd.underlying26 hiu hu0 hu1 hu2 rfl (by decide) (.slice (some ⟨W1.heap.size, 0, none⟩) 0 0) 0 [] rfl (rown_empty HEC.out.2 (Nat.le_refl _)) a0 key.length c0 (nums .u8 key) rfl HLK.out.1 (HNK.out _ HEC.out.1) (rnums_one _) HLK.out.2.1 HLK.out.2.2.1 HLK.out.2.2.2.1 HEC.out.1.size _ rfl ?_
      intro g8 cap8 w5 hown5 hgrow5 hat5 hlt5
      have hb5 := HEC.out.1.grown hgrow5 HEC.out.1.size (fun k hk => by cases hk; exact Nat.le_refl _)
      rw [Nat.zero_add, List.nil_append] at hown5
      obtain ⟨x0, x1⟩ := HCELL.out _ hb5
      obtain ⟨x2, x3⟩ := HCELL.out _ (below_alloc hb5 (.cells #[.slice (some ⟨g8, 0, none⟩) key.length cap8, .int .u64 ad] 122))
      have HO5 := Aside0.mk (And.intro hb5 hown5)
      clear hb5 hown5 hat5 hgrow5 hlt5
      try dsimp only
      refine hK.out _ _ (by first | assumption | exact HSET.out _ _ (by assumption)) (fun hHeld => ?_)
      clear hK K
      try simp only [Act.put, List.setIfInBounds_toArray, List.set_cons_zero, List.set_cons_succ]
      refine wpAnyH_take (i := 17) (oi := { dst := some 115, op := Op.build 122 #[(0, Operand.tmp 113), (1, Operand.tmp 114)], type := 122, pos := "ref.go:112", after := #[{ on := 15, ground := Ground.data }, { on := 16, ground := Ground.data }], guard := none }) (v := ?vq517) rfl (by kernel_rfl) (by kernel_rfl) (by kernel_rfl) (fun _ _ _ h => h) (Or.inl ⟨by rfl, ?hyq517⟩) (by assumption) ?restq517
      case hyq517 => (intro w hSw; (try dsimp only at hSw); first | (go_simp; done) | (go_simp; with_reducible rfl))
      try simp only [Act.put, List.setIfInBounds_toArray, List.set_cons_zero, List.set_cons_succ]
      refine wpAnyH_ready (rs := [18]) (by kernel_rfl) (by simp) (AllReadyH.cons (o := { dst := some 116, op := Op.buildSlice 104 1 #[(0, Operand.tmp 115)], type := 104, pos := "ref.go:112", after := #[{ on := 17, ground := Ground.data }], guard := none }) rfl (fun K hK => ?_) AllReadyH.nil)
      go_simp
      try dsimp only
      refine hK.out _ _ (by first | assumption | exact HSET.out _ _ (by assumption)) (fun hHeld => ?_)
      clear hK K
      try simp only [Act.put, List.setIfInBounds_toArray, List.set_cons_zero, List.set_cons_succ]
      refine wpAnyH_ready (rs := [19]) (by kernel_rfl) (by simp) (AllReadyH.cons (o := { dst := some 117, op := Op.call { callee := Callee.builtin Builtin.append, args := #[Operand.tmp 110, Operand.tmp 116], argTypes := #[104, 104] }, type := 104, pos := "ref.go:112", after := #[{ on := 12, ground := Ground.data }, { on := 18, ground := Ground.data }, { on := 15, ground := Ground.chain }], guard := none }) rfl (fun K hK => ?_) AllReadyH.nil)
      refine step_append_lies _ rfl _ _ 104 rfl 0 122 i0 _ 2 32 Tryd.underlying104 hi hz0 hz1 hz2 rfl (by decide) (.slice A s.ents.length lc) s.ents.length (lcells s.ents qs) rfl ((HROWL.out w5 HO5.out.1).alloc _) ⟨w5.heap.size, 0, none⟩ 1 1 [.slice (some ⟨g8, 0, none⟩) key.length cap8, .int .u64 ad] rfl rfl (World.news_of_block (heap_alloc_new w5 _)) (lcell_one (q := (g8, cap8))) (by decide) HLK.out.2.2.2.2.1 HLK.out.2.2.2.2.2 (Nat.zero_le _) _ rfl ?_
      intro g2 cap2 w7 hown7 hgrow7 hat7 hlt7
      obtain ⟨z0, z1, z2⟩ := HW7.out _ w5 w7 HO5.out.1 hgrow7
      have HO7 := Aside0.mk (And.intro hown7 (And.intro hgrow7 hat7))
      clear hown7 hgrow7 hat7 hlt7
      try dsimp only
      refine hK.out _ _ (by first | assumption | exact HSET.out _ _ (by assumption)) (fun hHeld => ?_)
      clear hK K
      try simp only [Act.put, List.setIfInBounds_toArray, List.set_cons_zero, List.set_cons_succ]
      refine wpAnyH_take (i := 20) (oi := { dst := some 118, op := Op.indexAddr 53 (Operand.tmp 101) (Operand.tmp 102), type := 0, pos := "ref.go:112", after := #[{ on := 3, ground := Ground.data }, { on := 4, ground := Ground.data }, { on := 0, ground := Ground.phase }, { on := 1, ground := Ground.phase }, { on := 2, ground := Ground.phase }, { on := 3, ground := Ground.phase }, { on := 4, ground := Ground.phase }, { on := 5, ground := Ground.phase }, { on := 6, ground := Ground.phase }, { on := 7, ground := Ground.phase }, { on := 8, ground := Ground.phase }, { on := 9, ground := Ground.phase }, { on := 10, ground := Ground.phase }, { on := 11, ground := Ground.phase }, { on := 12, ground := Ground.phase }, { on := 13, ground := Ground.phase }, { on := 14, ground := Ground.phase }, { on := 15, ground := Ground.phase }, { on := 16, ground := Ground.phase }, { on := 17, ground := Ground.phase }, { on := 18, ground := Ground.phase }, { on := 19, ground := Ground.phase }], guard := none }) (v := ?vq620) rfl (by kernel_rfl) (by kernel_rfl) (by kernel_rfl) (fun _ _ _ h => h) (Or.inl ⟨by rfl, ?hyq620⟩) (by assumption) ?restq620
      case hyq620 => (intro w hSw; (try dsimp only at hSw); first | (go_simp; done) | (go_simp; with_reducible rfl))
      try simp only [Act.put, List.setIfInBounds_toArray, List.set_cons_zero, List.set_cons_succ]
      refine wpAnyH_take (i := 21) (oi := { dst := some 119, op := Op.fieldAddr 106 (Operand.tmp 118) 1, type := 0, pos := "ref.go:112", after := #[{ on := 20, ground := Ground.data }, { on := 0, ground := Ground.phase }, { on := 1, ground := Ground.phase }, { on := 2, ground := Ground.phase }, { on := 3, ground := Ground.phase }, { on := 4, ground := Ground.phase }, { on := 5, ground := Ground.phase }, { on := 6, ground := Ground.phase }, { on := 7, ground := Ground.phase }, { on := 8, ground := Ground.phase }, { on := 9, ground := Ground.phase }, { on := 10, ground := Ground.phase }, { on := 11, ground := Ground.phase }, { on := 12, ground := Ground.phase }, { on := 13, ground := Ground.phase }, { on := 14, ground := Ground.phase }, { on := 15, ground := Ground.phase }, { on := 16, ground := Ground.phase }, { on := 17, ground := Ground.phase }, { on := 18, ground := Ground.phase }, { on := 19, ground := Ground.phase }], guard := none }) (v := ?vq621) rfl (by kernel_rfl) (by kernel_rfl) (by kernel_rfl) (fun _ _ _ h => h) (Or.inl ⟨by rfl, ?hyq621⟩) (by assumption) ?restq621
      case hyq621 => (intro w hSw; (try dsimp only at hSw); first | (go_simp; done) | (go_simp; with_reducible rfl))
      try simp only [Act.put, List.setIfInBounds_toArray, List.set_cons_zero, List.set_cons_succ]
      refine wpAnyH_ready (rs := [22]) (by kernel_rfl) (by simp) (AllReadyH.cons (o := { dst := none, op := Op.store 104 (Operand.tmp 119) (Operand.tmp 117), type := 0, pos := "ref.go:112", after := #[{ on := 21, ground := Ground.data }, { on := 19, ground := Ground.data }, { on := 19, ground := Ground.chain }, { on := 0, ground := Ground.phase }, { on := 1, ground := Ground.phase }, { on := 2, ground := Ground.phase }, { on := 3, ground := Ground.phase }, { on := 4, ground := Ground.phase }, { on := 5, ground := Ground.phase }, { on := 6, ground := Ground.phase }, { on := 7, ground := Ground.phase }, { on := 8, ground := Ground.phase }, { on := 9, ground := Ground.phase }, { on := 10, ground := Ground.phase }, { on := 11, ground := Ground.phase }, { on := 12, ground := Ground.phase }, { on := 13, ground := Ground.phase }, { on := 14, ground := Ground.phase }, { on := 15, ground := Ground.phase }, { on := 16, ground := Ground.phase }, { on := 17, ground := Ground.phase }, { on := 18, ground := Ground.phase }, { on := 19, ground := Ground.phase }], guard := none }) rfl (fun K hK => ?_) AllReadyH.nil)
      go_simp
      try dsimp only
      refine hK.out _ _ (by first | assumption | exact HSET.out _ _ (by assumption)) (fun hHeld => ?_)
      clear hK K
      try simp only [Act.put, List.setIfInBounds_toArray, List.set_cons_zero, List.set_cons_succ]
      refine wpAnyH_done (by kernel_rfl) ?_ _
      have HQ := HFIN.out _ _ _ _ _ _ _ HO5.out.1 HO5.out.2 HO7.out.2.1 HO7.out.1 HO7.out.2.2
      have hq1 := HQ.1
      go_wp2_with fail
      refine (HADD.out _ HQ.2.out.1 HQ.2.out.2).mono ?_
      rintro e9 w9 ⟨⟨b9, rfl⟩, HF9⟩
      go_wp2_with fail
      go_ret
      exact ⟨rfl, HF9⟩
    case sB4 =>
      refine step_append_lies _ rfl _ _ 26 rfl W1.heap.size 5 iu _ 1 1 Tryd.underlying26 hiu hu0 hu1 hu2 rfl (by decide) (.slice (some ⟨W1.heap.size, 0, none⟩) 0 0) 0 [] rfl (rown_empty HEC.out.2 (Nat.le_refl _)) a0 key.length c0 (nums .u8 key) rfl HLK.out.1 (HNK.out _ HEC.out.1) (rnums_one _) HLK.out.2.1 HLK.out.2.2.1 HLK.out.2.2.2.1 HEC.out.1.size _ rfl ?_
      intro g8 cap8 w5 hown5 hgrow5 hat5 hlt5
      have hb5 := HEC.out.1.grown hgrow5 HEC.out.1.size (fun k hk => by cases hk; exact Nat.le_refl _)
      rw [Nat.zero_add, List.nil_append] at hown5
      obtain ⟨x0, x1⟩ := HCELL.out _ hb5
      obtain ⟨x2, x3⟩ := HCELL.out _ (below_alloc hb5 (.cells #[.slice (some ⟨g8, 0, none⟩) key.length cap8, .int .u64 ad] 122))
      have HO5 := Aside0.mk (And.intro hb5 hown5)
      clear hb5 hown5 hat5 hgrow5 hlt5
      try dsimp only
      refine hK.out _ _ (by first | assumption | exact HSET.out _ _ (by assumption)) (fun hHeld => ?_)
      clear hK K
      try simp only [Act.put, List.setIfInBounds_toArray, List.set_cons_zero, List.set_cons_succ]
      refine wpAnyH_take (i := 17) (oi := { dst := some 115, op := Op.build 122 #[(0, Operand.tmp 113), (1, Operand.tmp 114)], type := 122, pos := "ref.go:112", after := #[{ on := 15, ground := Ground.data }, { on := 16, ground := Ground.data }], guard := none }) (v := ?vq717) rfl (by kernel_rfl) (by kernel_rfl) (by kernel_rfl) (fun _ _ _ h => h) (Or.inl ⟨by rfl, ?hyq717⟩) (by assumption) ?restq717
      case hyq717 => (intro w hSw; (try dsimp only at hSw); first | (go_simp; done) | (go_simp; with_reducible rfl))
      try simp only [Act.put, List.setIfInBounds_toArray, List.set_cons_zero, List.set_cons_succ]
      refine wpAnyH_ready (rs := [12, 18]) (by kernel_rfl) (by simp) (AllReadyH.cons (o := { dst := some 110, op := Op.load 104 (Operand.tmp 109), type := 104, pos := "ref.go:112", after := #[{ on := 11, ground := Ground.data }], guard := none }) rfl (fun K hK => ?sA8) (AllReadyH.cons (o := { dst := some 116, op := Op.buildSlice 104 1 #[(0, Operand.tmp 115)], type := 104, pos := "ref.go:112", after := #[{ on := 17, ground := Ground.data }], guard := none }) rfl (fun K hK => ?sB8) AllReadyH.nil))
      case sA8 =>
        go_simp
        try dsimp only
        refine hK.out _ _ (by first | assumption | exact HSET.out _ _ (by assumption)) (fun hHeld => ?_)
        clear hK K
        try simp only [Act.put, List.setIfInBounds_toArray, List.set_cons_zero, List.set_cons_succ]
        refine wpAnyH_ready (rs := [18]) (by kernel_rfl) (by simp) (AllReadyH.cons (o := { dst := some 116, op := Op.buildSlice 104 1 #[(0, Operand.tmp 115)], type := 104, pos := "ref.go:112", after := #[{ on := 17, ground := Ground.data }], guard := none }) rfl (fun K hK => ?_) AllReadyH.nil)
        go_simp
        try dsimp only
        refine hK.out _ _ (by first | assumption | exact HSET.out _ _ (by assumption)) (fun hHeld => ?_)
        clear hK K
        try simp only [Act.put, List.setIfInBounds_toArray, List.set_cons_zero, List.set_cons_succ]
        refine wpAnyH_ready (rs := [19]) (by kernel_rfl) (by simp) (AllReadyH.cons (o := { dst := some 117, op := Op.call { callee := Callee.builtin Builtin.append, args := #[Operand.tmp 110, Operand.tmp 116], argTypes := #[104, 104] }, type := 104, pos := "ref.go:112", after := #[{ on := 12, ground := Ground.data }, { on := 18, ground := Ground.data }, { on := 15, ground := Ground.chain }], guard := none }) rfl (fun K hK => ?_) AllReadyH.nil)
        refine step_append_lies _ rfl _ _ 104 rfl 0 122 i0 _ 2 32 Tryd.underlying104 hi hz0 hz1 hz2 rfl (by decide) (.slice A s.ents.length lc) s.ents.length (lcells s.ents qs) rfl ((HROWL.out w5 HO5.out.1).alloc _) ⟨w5.heap.size, 0, none⟩ 1 1 [.slice (some ⟨g8, 0, none⟩) key.length cap8, .int .u64 ad] rfl rfl (World.news_of_block (heap_alloc_new w5 _)) (lcell_one (q := (g8, cap8))) (by decide) HLK.out.2.2.2.2.1 HLK.out.2.2.2.2.2 (Nat.zero_le _) _ rfl ?_
        intro g2 cap2 w7 hown7 hgrow7 hat7 hlt7
        obtain ⟨z0, z1, z2⟩ := HW7.out _ w5 w7 HO5.out.1 hgrow7
        have HO7 := Aside0.mk (And.intro hown7 (And.intro hgrow7 hat7))
        clear hown7 hgrow7 hat7 hlt7
        try dsimp only
        refine hK.out _ _ (by first | assumption | exact HSET.out _ _ (by assumption)) (fun hHeld => ?_)
        clear hK K
        try simp only [Act.put, List.setIfInBounds_toArray, List.set_cons_zero, List.set_cons_succ]
        refine wpAnyH_take (i := 20) (oi := { dst := some 118, op := Op.indexAddr 53 (Operand.tmp 101) (Operand.tmp 102), type := 0, pos := "ref.go:112", after := #[{ on := 3, ground := Ground.data }, { on := 4, ground := Ground.data }, { on := 0, ground := Ground.phase }, { on := 1, ground := Ground.phase }, { on := 2, ground := Ground.phase }, { on := 3, ground := Ground.phase }, { on := 4, ground := Ground.phase }, { on := 5, ground := Ground.phase }, { on := 6, ground := Ground.phase }, { on := 7, ground := Ground.phase }, { on := 8, ground := Ground.phase }, { on := 9, ground := Ground.phase }, { on := 10, ground := Ground.phase }, { on := 11, ground := Ground.phase }, { on := 12, ground := Ground.phase }, { on := 13, ground := Ground.phase }, { on := 14, ground := Ground.phase }, { on := 15, ground := Ground.phase }, { on := 16, ground := Ground.phase }, { on := 17, ground := Ground.phase }, { on := 18, ground := Ground.phase }, { on := 19, ground := Ground.phase }], guard := none }) (v := ?vq920) rfl (by kernel_rfl) (by kernel_rfl) (by kernel_rfl) (fun _ _ _ h => h) (Or.inl ⟨by rfl, ?hyq920⟩) (by assumption) ?restq920
        case hyq920 => (intro w hSw; (try dsimp only at hSw); first | (go_simp; done) | (go_simp; with_reducible rfl))
        try simp only [Act.put, List.setIfInBounds_toArray, List.set_cons_zero, List.set_cons_succ]
        refine wpAnyH_take (i := 21) (oi := { dst := some 119, op := Op.fieldAddr 106 (Operand.tmp 118) 1, type := 0, pos := "ref.go:112", after := #[{ on := 20, ground := Ground.data }, { on := 0, ground := Ground.phase }, { on := 1, ground := Ground.phase }, { on := 2, ground := Ground.phase }, { on := 3, ground := Ground.phase }, { on := 4, ground := Ground.phase }, { on := 5, ground := Ground.phase }, { on := 6, ground := Ground.phase }, { on := 7, ground := Ground.phase }, { on := 8, ground := Ground.phase }, { on := 9, ground := Ground.phase }, { on := 10, ground := Ground.phase }, { on := 11, ground := Ground.phase }, { on := 12, ground := Ground.phase }, { on := 13, ground := Ground.phase }, { on := 14, ground := Ground.phase }, { on := 15, ground := Ground.phase }, { on := 16, ground := Ground.phase }, { on := 17, ground := Ground.phase }, { on := 18, ground := Ground.phase }, { on := 19, ground := Ground.phase }], guard := none }) (v := ?vq921) rfl (by kernel_rfl) (by kernel_rfl) (by kernel_rfl) (fun _ _ _ h => h) (Or.inl ⟨by rfl, ?hyq921⟩) (by assumption) ?restq921
        case hyq921 => (intro w hSw; (try dsimp only at hSw); first | (go_simp; done) | (go_simp; with_reducible rfl))
        try simp only [Act.put, List.setIfInBounds_toArray, List.set_cons_zero, List.set_cons_succ]
        refine wpAnyH_ready (rs := [22]) (by kernel_rfl) (by simp) (AllReadyH.cons (o := { dst := none, op := Op.store 104 (Operand.tmp 119) (Operand.tmp 117), type := 0, pos := "ref.go:112", after := #[{ on := 21, ground := Ground.data }, { on := 19, ground := Ground.data }, { on := 19, ground := Ground.chain }, { on := 0, ground := Ground.phase }, { on := 1, ground := Ground.phase }, { on := 2, ground := Ground.phase }, { on := 3, ground := Ground.phase }, { on := 4, ground := Ground.phase }, { on := 5, ground := Ground.phase }, { on := 6, ground := Ground.phase }, { on := 7, ground := Ground.phase }, { on := 8, ground := Ground.phase }, { on := 9, ground := Ground.phase }, { on := 10, ground := Ground.phase }, { on := 11, ground := Ground.phase }, { on := 12, ground := Ground.phase }, { on := 13, ground := Ground.phase }, { on := 14, ground := Ground.phase }, { on := 15, ground := Ground.phase }, { on := 16, ground := Ground.phase }, { on := 17, ground := Ground.phase }, { on := 18, ground := Ground.phase }, { on := 19, ground := Ground.phase }], guard := none }) rfl (fun K hK => ?_) AllReadyH.nil)
        go_simp
        try dsimp only
        refine hK.out _ _ (by first | assumption | exact HSET.out _ _ (by assumption)) (fun hHeld => ?_)
        clear hK K
        try simp only [Act.put, List.setIfInBounds_toArray, List.set_cons_zero, List.set_cons_succ]
        refine wpAnyH_done (by kernel_rfl) ?_ _
        have HQ := HFIN.out _ _ _ _ _ _ _ HO5.out.1 HO5.out.2 HO7.out.2.1 HO7.out.1 HO7.out.2.2
        have hq1 := HQ.1
        go_wp2_with fail
        refine (HADD.out _ HQ.2.out.1 HQ.2.out.2).mono ?_
        rintro e9 w9 ⟨⟨b9, rfl⟩, HF9⟩
        go_wp2_with fail
        go_ret
        exact ⟨rfl, HF9⟩
      case sB8 =>
        go_simp
        try dsimp only
        refine hK.out _ _ (by first | assumption | exact HSET.out _ _ (by assumption)) (fun hHeld => ?_)
        clear hK K
        try simp only [Act.put, List.setIfInBounds_toArray, List.set_cons_zero, List.set_cons_succ]
        refine wpAnyH_ready (rs := [12]) (by kernel_rfl) (by simp) (AllReadyH.cons (o := { dst := some 110, op := Op.load 104 (Operand.tmp 109), type := 104, pos := "ref.go:112", after := #[{ on := 11, ground := Ground.data }], guard := none }) rfl (fun K hK => ?_) AllReadyH.nil)
        go_simp
        try dsimp only
        refine hK.out _ _ (by first | assumption | exact HSET.out _ _ (by assumption)) (fun hHeld => ?_)
        clear hK K
        try simp only [Act.put, List.setIfInBounds_toArray, List.set_cons_zero, List.set_cons_succ]
        refine wpAnyH_ready (rs := [19]) (by kernel_rfl) (by simp) (AllReadyH.cons (o := { dst := some 117, op := Op.call { callee := Callee.builtin Builtin.append, args := #[Operand.tmp 110, Operand.tmp 116], argTypes := #[104, 104] }, type := 104, pos := "ref.go:112", after := #[{ on := 12, ground := Ground.data }, { on := 18, ground := Ground.data }, { on := 15, ground := Ground.chain }], guard := none }) rfl (fun K hK => ?_) AllReadyH.nil)
        refine step_append_lies _ rfl _ _ 104 rfl 0 122 i0 _ 2 32 Tryd.underlying104 hi hz0 hz1 hz2 rfl (by decide) (.slice A s.ents.length lc) s.ents.length (lcells s.ents qs) rfl ((HROWL.out w5 HO5.out.1).alloc _) ⟨w5.heap.size, 0, none⟩ 1 1 [.slice (some ⟨g8, 0, none⟩) key.length cap8, .int .u64 ad] rfl rfl (World.news_of_block (heap_alloc_new w5 _)) (lcell_one (q := (g8, cap8))) (by decide) HLK.out.2.2.2.2.1 HLK.out.2.2.2.2.2 (Nat.zero_le _) _ rfl ?_
        intro g2 cap2 w7 hown7 hgrow7 hat7 hlt7
        obtain ⟨z0, z1, z2⟩ := HW7.out _ w5 w7 HO5.out.1 hgrow7
        have HO7 := Aside0.mk (And.intro hown7 (And.intro hgrow7 hat7))
        clear hown7 hgrow7 hat7 hlt7
        try dsimp only
        refine hK.out _ _ (by first | assumption | exact HSET.out _ _ (by assumption)) (fun hHeld => ?_)
        clear hK K
        try simp only [Act.put, List.setIfInBounds_toArray, List.set_cons_zero, List.set_cons_succ]
        refine wpAnyH_take (i := 20) (oi := { dst := some 118, op := Op.indexAddr 53 (Operand.tmp 101) (Operand.tmp 102), type := 0, pos := "ref.go:112", after := #[{ on := 3, ground := Ground.data }, { on := 4, ground := Ground.data }, { on := 0, ground := Ground.phase }, { on := 1, ground := Ground.phase }, { on := 2, ground := Ground.phase }, { on := 3, ground := Ground.phase }, { on := 4, ground := Ground.phase }, { on := 5, ground := Ground.phase }, { on := 6, ground := Ground.phase }, { on := 7, ground := Ground.phase }, { on := 8, ground := Ground.phase }, { on := 9, ground := Ground.phase }, { on := 10, ground := Ground.phase }, { on := 11, ground := Ground.phase }, { on := 12, ground := Ground.phase }, { on := 13, ground := Ground.phase }, { on := 14, ground := Ground.phase }, { on := 15, ground := Ground.phase }, { on := 16, ground := Ground.phase }, { on := 17, ground := Ground.phase }, { on := 18, ground := Ground.phase }, { on := 19, ground := Ground.phase }], guard := none }) (v := ?vq1020) rfl (by kernel_rfl) (by kernel_rfl) (by kernel_rfl) (fun _ _ _ h => h) (Or.inl ⟨by rfl, ?hyq1020⟩) (by assumption) ?restq1020
        case hyq1020 => (intro w hSw; (try dsimp only at hSw); first | (go_simp; done) | (go_simp; with_reducible rfl))
        try simp only [Act.put, List.setIfInBounds_toArray, List.set_cons_zero, List.set_cons_succ]
        refine wpAnyH_take (i := 21) (oi := { dst := some 119, op := Op.fieldAddr 106 (Operand.tmp 118) 1, type := 0, pos := "ref.go:112", after := #[{ on := 20, ground := Ground.data }, { on := 0, ground := Ground.phase }, { on := 1, ground := Ground.phase }, { on := 2, ground := Ground.phase }, { on := 3, ground := Ground.phase }, { on := 4, ground := Ground.phase }, { on := 5, ground := Ground.phase }, { on := 6, ground := Ground.phase }, { on := 7, ground := Ground.phase }, { on := 8, ground := Ground.phase }, { on := 9, ground := Ground.phase }, { on := 10, ground := Ground.phase }, { on := 11, ground := Ground.phase }, { on := 12, ground := Ground.phase }, { on := 13, ground := Ground.phase }, { on := 14, ground := Ground.phase }, { on := 15, ground := Ground.phase }, { on := 16, ground := Ground.phase }, { on := 17, ground := Ground.phase }, { on := 18, ground := Ground.phase }, { on := 19, ground := Ground.phase }], guard := none }) (v := ?vq1021) rfl (by kernel_rfl) (by kernel_rfl) (by kernel_rfl) (fun _ _ _ h => h) (Or.inl ⟨by rfl, ?hyq1021⟩) (by assumption) ?restq1021
        case hyq1021 => (intro w hSw; (try dsimp only at hSw); first | (go_simp; done) | (go_simp; with_reducible rfl))
        try simp only [Act.put, List.setIfInBounds_toArray, List.set_cons_zero, List.set_cons_succ]
        refine wpAnyH_ready (rs := [22]) (by kernel_rfl) (by simp) (AllReadyH.cons (o := { dst := none, op := Op.store 104 (Operand.tmp 119) (Operand.tmp 117), type := 0, pos := "ref.go:112", after := #[{ on := 21, ground := Ground.data }, { on := 19, ground := Ground.data }, { on := 19, ground := Ground.chain }, { on := 0, ground := Ground.phase }, { on := 1, ground := Ground.phase }, { on := 2, ground := Ground.phase }, { on := 3, ground := Ground.phase }, { on := 4, ground := Ground.phase }, { on := 5, ground := Ground.phase }, { on := 6, ground := Ground.phase }, { on := 7, ground := Ground.phase }, { on := 8, ground := Ground.phase }, { on := 9, ground := Ground.phase }, { on := 10, ground := Ground.phase }, { on := 11, ground := Ground.phase }, { on := 12, ground := Ground.phase }, { on := 13, ground := Ground.phase }, { on := 14, ground := Ground.phase }, { on := 15, ground := Ground.phase }, { on := 16, ground := Ground.phase }, { on := 17, ground := Ground.phase }, { on := 18, ground := Ground.phase }, { on := 19, ground := Ground.phase }], guard := none }) rfl (fun K hK => ?_) AllReadyH.nil)
        go_simp
        try dsimp only
        refine hK.out _ _ (by first | assumption | exact HSET.out _ _ (by assumption)) (fun hHeld => ?_)
        clear hK K
        try simp only [Act.put, List.setIfInBounds_toArray, List.set_cons_zero, List.set_cons_succ]
        refine wpAnyH_done (by kernel_rfl) ?_ _
        have HQ := HFIN.out _ _ _ _ _ _ _ HO5.out.1 HO5.out.2 HO7.out.2.1 HO7.out.1 HO7.out.2.2
        have hq1 := HQ.1
        go_wp2_with fail
        refine (HADD.out _ HQ.2.out.1 HQ.2.out.2).mono ?_
        rintro e9 w9 ⟨⟨b9, rfl⟩, HF9⟩
        go_wp2_with fail
        go_ret
        exact ⟨rfl, HF9⟩
  -- region 11 ends
theorem rupdate_c (X : World) (fr : Nat → Prop) (b mb : Nat) (S : List MapS) (R : List Reg) (i : Int) (A0 A2 : Option Addr) (c0 c2 : Nat) (key value : List Int) (h : RMM X fr b mb S R) (hS : RGood S) (hR : R.length ≤ 99999) (hSk : ∀ s ∈ S, 1 ≤ s.key ∧ ∀ e ∈ s.ents, 0 ≤ e.2 ∧ e.2 < 18446744073709551616)
    (hk : ∀ X', Kept fr X X' → Kd.C (Kd.int .u8) X' A0 key.length key) (hkc : key.length ≤ c0) (hkl : key.length ≤ 65536)
    (hvk : ∀ X', Kept fr X X' → Kd.C (Kd.int .u8) X' A2 value.length value) (hvb : IsBytes value) (hvs : value.length ≤ 65536) (hvc : value.length ≤ c2) (hA : 0 < value.length → ∀ ad, A2 = some ad → fr ad.block) :
    Calls Tryd.prog 42 #[.pointer (some ⟨b, 0, none⟩), .int .i64 i, .slice A0 key.length c0, .slice A2 value.length c2] X fun e9 X' => e9 = .returned (.int .i64 (rupdR S i key value)) ∧ RMM X' fr b mb (rupdS S i key value) (rupdK S R i key value) ∧ Kept fr X X' := by
  have hT := h
  obtain ⟨v, lvs, qss, h⟩ := h
  obtain ⟨o1, f1, hRP, hRM⟩ := h.swap.part
  unfold rupdR rupdS rupdK
  cases hb : rightB S i key with
  | false =>
    refine (rupd_bad X o1 b mb v lvs qss S i A0 A2 c0 value.length c2 key hRP hS.1 hkl hb).mono ?_
    rintro e X' ⟨he, rfl⟩
    exact ⟨he, hT, Kept.refl _ _⟩
  | true =>
    obtain ⟨n, s, rfl, hs, hg, hks⟩ := right_some hb
    rw [if_pos rfl, if_pos rfl, if_pos rfl, hg]
    dsimp only
    have hsm := List.mem_of_getElem? hs
    by_cases hv : (value.length : Int) = s.value
    · rw [if_pos hv, if_pos hv, if_pos hv]
      rcases findE_look (ents := s.ents) (key := key) with ⟨e1, e2⟩ | ⟨j, e, e1, e2, e3, e4⟩
      · rw [e2]
        dsimp only
        by_cases hf : (s.ents.length : Int) ≥ s.entries
        · rw [if_pos hf, if_pos hf, if_pos hf]
          refine (rupd_full X o1 b mb v lvs qss S n s A0 A2 c0 c2 key value hRP hS hs (hk X (Kept.refl _ _)) hkc hkl hb hv e1 hf).mono ?_
          rintro e X' ⟨he, hbl⟩
          exact ⟨he, hT.below hbl, below_kept hbl _⟩
        · rw [if_neg hf, if_neg hf, if_neg hf, Int.toNat_natCast]
          refine (rupd_new X fr b mb v lvs qss S R n s A0 A2 c0 c2 key value h hS hR hs hk hkc hkl (by have := (hSk s hsm).1; omega) hb hv e1 hf hvk hvb hvs hvc).mono ?_
          rintro e X' ⟨he, hq⟩
          exact ⟨he, hq.out.1, hq.out.2⟩
      · rw [e4]
        dsimp only
        refine (rupd_old X fr b mb v lvs qss S R n s A0 A2 c0 c2 key value h hS hR hs (hk X (Kept.refl _ _)) hkc hkl hb hv j e e1 e2 ((hSk s hsm).2 e (List.mem_of_getElem? e2)) hvk hvb hvs hA).mono ?_
        rintro e X' ⟨he, hq⟩
        exact ⟨he, hq.out.1, hq.out.2⟩
    · rw [if_neg hv, if_neg hv, if_neg hv]
      refine (rupd_len X o1 b mb v lvs qss S n s A0 A2 c0 c2 key value hRP hS.1 hs hkl hb hv).mono ?_
      rintro e X' ⟨he, rfl⟩
      exact ⟨he, hT, Kept.refl _ _⟩
end Go.Proofs.YtomnfkihieinbaaDoor.PAll
/- maps: the reference's Entries. -/
set_option linter.unusedVariables false
set_option linter.unusedSimpArgs false
namespace Go.Proofs.YtomnfkihieinbaaDoor.PAll
open Go.RowKit Go.Shelf Go.Maps Go.Proofs.YtomnfkihieinbaaDoorW.PrintWords Go.Proofs.YtomnfkihieinbaaDoorW.PrintLast Go.Proofs.YtomnfkihieinbaaDoorW.PrintMore
def rentsF (s : MapS) (R : List Reg) : List Ent := s.ents.map fun e => ⟨e.1, (bytesF R e.2 s.value).getD []⟩
def RSt (X w8 : World) (v5 : Value) (vs : List (Value × Value)) (es : List Ent) (A8 Av : Option Addr) (c8 cv : Nat) (key ev : List Int) : Prop :=
    EntRow w8 X.heap.size v5 vs es ∧ X.heap.size ≤ w8.heap.size ∧ ∀ v10 w10, w10.ownsRow X.heap.size 42 2 v10 (es.length + 1) (cellsE vs ++ [.slice A8 key.length c8, .slice Av ev.length cv]) → (w8.alloc (.cells #[.slice A8 key.length c8, .slice Av ev.length cv] 42)).grownBy w10 v5.ownBlock →
      (v10.ownBlock = v5.ownBlock ∨ v10.ownBlock = some (w8.alloc (.cells #[.slice A8 key.length c8, .slice Av ev.length cv] 42)).heap.size) → Below X.heap.size X w10 ∧ EntRow w10 X.heap.size v10 (vs ++ [(.slice A8 key.length c8, .slice Av ev.length cv)]) (es ++ [⟨key, ev⟩])
theorem take_room {α : Type} (l : List α) (k n : Nat) (h : l.length = n) (hn : n ≤ 100000) : (l.take k).length + 1 ≤ maxLen ∧ ((l.take k).length + 1) * 48 ≤ 140737488355328 := by
  unfold maxLen
  rw [List.length_take]
  omega
theorem rents_step {X wr w6 w8 : World} {v5 : Value} {vs : List (Value × Value)} {es : List Ent} {A8 Av : Option Addr} {c8 cv : Nat} {key ev : List Int}
    (hX : Below X.heap.size X wr) (hE : EntRow wr X.heap.size v5 vs es) (h6 : Below wr.heap.size wr w6) (hV : ByteS w6 wr.heap.size (.slice Av ev.length cv) ev)
    (hown8 : w8.ownsRow w6.heap.size 5 1 (.slice A8 key.length c8) key.length (nums .u8 key)) (hg8 : (w6.alloc (.cells #[] 5)).grownBy w8 (some w6.heap.size)) :
    RSt X w8 v5 vs es A8 Av c8 cv key ev := by
  have hba : Below w6.heap.size w6 (w6.alloc (.cells #[] 5)) := below_alloc (Below.refl _ _) _
  have h68 : Below w6.heap.size w6 w8 := hba.grown hg8 hba.size (fun k hk => by cases hk; exact Nat.le_refl _)
  have hb8 : Below wr.heap.size wr w8 := h6.trans (h68.mono h6.size)
  have hE8 := hE.below hb8
  have hbb : Below w8.heap.size w8 (w8.alloc (.cells #[.slice A8 key.length c8, .slice Av ev.length cv] 42)) := below_alloc (Below.refl _ _) _
  have hXs := hX.size
  have h6s := h6.size
  have h8s := h68.size
  have hbs := hbb.size
  refine ⟨hE8, by omega, fun v10 w10 hown hg hloc => ⟨?_, ?_⟩⟩
  · exact (((hX.trans (hb8.mono hXs)).trans (hbb.mono (by omega)))).grown hg (by omega) (fun k hk => own_base hE.row k hk)
  · have hK8 : ByteS w8 X.heap.size (.slice A8 key.length c8) key := (byteS_R (row_R hown8)).lower (by omega)
    have hV8 : ByteS w8 X.heap.size (.slice Av ev.length cv) ev := (hV.below h68).lower hXs
    refine (hE8.below hbb).snoc hown hg hloc (hK8.below hbb) (hV8.below hbb) ?_ ?_
    · rintro j (hj | hj)
      · have h1 := own_lt hown8 j hj
        have h2 := own_base hown8 j hj
        refine ⟨by omega, fun e => ?_⟩
        have := own_lt hE.row j e
        omega
      · obtain ⟨q1, q2⟩ := hV.own j hj
        refine ⟨by omega, fun e => ?_⟩
        have := own_lt hE.row j e
        omega
    · intro j hj h
      have h2 := own_base hown8 j hj
      have := (hV.own j h).2
      omega
set_option maxHeartbeats 2000000 in
set_option maxRecDepth 100000 in
theorem rents_bad (X : World) (own : Nat → Prop) (b mb : Nat) (v : Value) (lvs : List Value) (qss : List (List (Nat × Nat))) (S : List MapS) (i : Int) (h : (RP b mb v lvs qss S).at_ X own) (hi : getP S i = none) :
    Calls Tryd.prog 21 #[.pointer (some ⟨b, 0, none⟩), .int .i64 i] X fun e X' => e = .returned (.slice none 0 0) ∧ X = X' := by
  obtain ⟨A, c, rfl, _, c1, _, _⟩ := rp_head h
  unfold getP at hi
  by_cases h0 : 0 ≤ i
  · have hge : decide (i < 0) = false := decide_eq_false (by omega)
    have hn : S.length ≤ i.toNat := by
      rw [if_pos h0] at hi
      exact List.getElem?_eq_none_iff.1 hi
    have hge2 : decide (i ≥ (S.length : Int)) = true := decide_eq_true (by omega)
    have hge3 : decide ((S.length : Int) ≤ i) = true := decide_eq_true (by omega)
    clear h hi hn h0
    go_enter Tryd.func21, Tryd.ntmps21
    go_wp2_with fail
    go_ret
    exact ⟨rfl, rfl⟩
  · have hge : decide (i < 0) = true := decide_eq_true (by omega)
    clear h hi h0
    go_enter Tryd.func21, Tryd.ntmps21
    go_wp2_with fail
    go_ret
    exact ⟨rfl, rfl⟩
set_option maxHeartbeats 4000000 in
set_option maxRecDepth 100000 in
theorem rents_some (X : World) (fr : Nat → Prop) (b mb : Nat) (S : List MapS) (R : List Reg) (n : Nat) (s : MapS) (h : RMM X fr b mb S R) (hS : RGood S) (hR : R.length ≤ 99999) (hs : S[n]? = some s) (hse : ∀ e ∈ s.ents, 1 ≤ e.1.length ∧ 0 ≤ e.2 ∧ e.2 < 18446744073709551616) (hv0 : 0 ≤ s.value) (hv1 : s.value ≤ 4294967296) :
    Calls Tryd.prog 21 #[.pointer (some ⟨b, 0, none⟩), .int .i64 n] X fun e X' => (∃ vR vs, e = .returned vR ∧ EntRow X' X.heap.size vR vs (rentsF s R)) ∧ Below X.heap.size X X' := by
  obtain ⟨v, lvs, qss, h⟩ := h
  obtain ⟨o1, f1, hRP, hRM⟩ := h.swap.part
  obtain ⟨g, c, A, lc, hRA⟩ := rp_at hRP hs
  obtain ⟨A', c', hv', hb0, -, -, -⟩ := rp_head hRP
  have HRA := Aside0.mk hRA
  have hgd := hS.2 s (List.mem_of_getElem? hs)
  have HSE := Aside0.mk hse
  have HSH : Aside0 (∀ e ∈ s.ents, e.1.length ≤ 65536) := ⟨hgd.2⟩
  obtain ⟨el, hell⟩ : ∃ el, s.ents.length = el := ⟨_, rfl⟩
  have HELL := Aside0.mk hell
  have hel : el ≤ 100000 := by rw [← hell]; exact hgd.1
  have hn1 : (n : Int) < (S.length : Int) := by have := (List.getElem?_eq_some_iff.1 hs).1; omega
  have hn0 : (0 : Int) ≤ (n : Int) := by omega
  have hge : decide ((n : Int) < 0) = false := decide_eq_false (by omega)
  have hge2 : decide ((n : Int) ≥ (S.length : Int)) = false := decide_eq_false (by omega)
  have hge3 : decide ((S.length : Int) ≤ (n : Int)) = false := decide_eq_false (by omega)
  have hge4 : decide (S.length ≤ n) = false := decide_eq_false (by omega)
  have hc1 := hRA.c1
  have HC : Aside0 (∀ w, Below X.heap.size X w → w.cell? ⟨b, 0, none⟩ = some (.pointer (some ⟨mb, 0, none⟩)) ∧ w.cell? ⟨b, 1, none⟩ = some (.slice (some ⟨g, 0, none⟩) S.length c) ∧ w.cell? ⟨g, n * 6 + 2, none⟩ = some (.int .i64 s.value)) := ⟨fun w hb => ⟨pw_cell_below hb hb0, pw_cell_below hb hRA.c1, pw_cell_below hb hRA.value⟩⟩
  have HRM := Aside0.mk hRM
  obtain ⟨iu, hiu, hu0, hu1, hu2⟩ := info_parts infoU8
  obtain ⟨i1, hi1, hj0, hj1, hj2⟩ := info_parts infoEnt
  clear h hS hs hRP hRM f1 hRA hb0 hgd hse hell hv'
  go_enter Tryd.func21, Tryd.ntmps21
  go_wp2_with fail
  go_loopw [5, 6] (fun v5 v6 w => ∃ (k : Nat) (vs : List (Value × Value)), k ≤ el ∧ v6 = .int .i64 k ∧ Aside0 (Below X.heap.size X w) ∧ Aside0 (EntRow w X.heap.size v5 vs ((rentsF s R).take k))) (fun _ v6 _ => el - (intOf v6).toNat)
  case atStart => exact ⟨0, [], Nat.zero_le _, rfl, ⟨Below.refl _ _⟩, ⟨EntRow.nil _ _⟩⟩
  case round =>
    obtain ⟨k, vs, hk, rfl, HB, HE⟩ := hrel
    have hRA := HRA.out.below HB.out
    have hc1' := hRA.c1
    have hlist := hRA.list
    rw [HELL.out] at hlist
    by_cases hlt : k < el
    · have hwk : wrap64 ((k : Int) + 1) = ((k + 1 : Nat) : Int) := wk hlt (Nat.le_trans hel (by decide))
      obtain ⟨e, he⟩ : ∃ e, s.ents[k]? = some e := ⟨_, List.getElem?_eq_getElem (by rw [HELL.out]; exact hlt)⟩
      have hem := List.mem_of_getElem? he
      obtain ⟨g2, q, rfl, d0, d1, dC, dq⟩ := hRA.ent k e he
      have hk0 : (0 : Int) ≤ (k : Int) := Int.natCast_nonneg k
      have hk1 : (k : Int) < (el : Int) := Int.ofNat_lt.2 hlt
      have hd : decide ((k : Int) < (el : Int)) = true := decide_eq_true hk1
      have HNX : Aside0 ((rentsF s R).take (k + 1) = (rentsF s R).take k ++ [⟨e.1, (bytesF R e.2 s.value).getD []⟩]) := ⟨by
        unfold rentsF
        rw [← List.map_take, ← List.map_take, List.take_add_one, he]
        simp⟩
      obtain ⟨ev, hev⟩ : ∃ ev : List Int, (bytesF R e.2 s.value).getD [] = ev := ⟨_, rfl⟩
      rw [hev] at HNX
      have HEV := Aside0.mk hev
      have HEM : Aside0 (1 ≤ e.1.length ∧ (0 ≤ e.2 ∧ e.2 < 18446744073709551616) ∧ e.1.length ≤ 65536) := ⟨(HSE.out e hem).1, (HSE.out e hem).2, HSH.out e hem⟩
      obtain ⟨W1, hW1⟩ : ∃ W, wr.alloc (.cells #[.slice (some ⟨q.1, 0, none⟩) e.1.length q.2, .int .u64 e.2] 122) = W := ⟨_, rfl⟩
      have hb1 : Below wr.heap.size wr W1 := by rw [← hW1]; exact below_alloc (Below.refl _ _) _
      have hx1 : W1.heap[wr.heap.size]? = some (.cells #[.slice (some ⟨q.1, 0, none⟩) e.1.length q.2, .int .u64 e.2] 122 (0, 0)) := by rw [← hW1]; exact heap_alloc_new _ _
      have hs1 : W1.heap.size = wr.heap.size + 1 := by rw [← hW1]; simp
      have hB1 : Below X.heap.size X W1 := HB.out.trans (hb1.mono HB.out.size)
      have HS14 : Aside0 (∀ Z, Below W1.heap.size W1 Z → (Z.cell? ⟨b, 0, none⟩ = some (.pointer (some ⟨mb, 0, none⟩)) ∧ Z.cell? ⟨b, 1, none⟩ = some (.slice (some ⟨g, 0, none⟩) S.length c) ∧ Z.cell? ⟨g, n * 6 + 2, none⟩ = some (.int .i64 s.value)) ∧ Z.cell? ⟨wr.heap.size, 0, none⟩ = some (.slice (some ⟨q.1, 0, none⟩) e.1.length q.2) ∧ Z.cell? ⟨wr.heap.size, 1, none⟩ = some (.int .u64 e.2)) := ⟨fun Z hZ => ⟨HC.out Z (hB1.trans (hZ.mono hB1.size)), pw_cell_below hZ (blk2 hx1).1, pw_cell_below hZ (blk2 hx1).2.1⟩⟩
      have HBYT : Aside0 (∀ Z, Below W1.heap.size W1 Z → Calls Tryd.prog 40 #[.pointer (some ⟨mb, 0, none⟩), .int .u64 e.2, .int .i64 s.value] Z fun e' Z' => (∃ b v', e' = .returned (.tuple #[v', .bool b]) ∧ Aside0 (ByteS Z' Z.heap.size v' ev)) ∧
          ((Z'.cell? ⟨b, 0, none⟩ = some (.pointer (some ⟨mb, 0, none⟩)) ∧ Z'.cell? ⟨b, 1, none⟩ = some (.slice (some ⟨g, 0, none⟩) S.length c) ∧ Z'.cell? ⟨g, n * 6 + 2, none⟩ = some (.int .i64 s.value)) ∧ Z'.cell? ⟨wr.heap.size, 0, none⟩ = some (.slice (some ⟨q.1, 0, none⟩) e.1.length q.2) ∧ Z'.cell? ⟨wr.heap.size, 1, none⟩ = some (.int .u64 e.2)) ∧ Aside0 (Below Z.heap.size Z Z')) := ⟨fun Z hZ => by
        have hP := HRM.out.below (hB1.trans (hZ.mono hB1.size))
        refine (rm_bytes Z _ mb R e.2 s.value hP (by omega) HEM.out.2.1.1 HEM.out.2.1.2 (by omega) (by omega)).mono ?_
        rintro e' Z' ⟨hb, v', rfl, hv⟩
        rw [HEV.out] at hv
        exact ⟨⟨_, v', rfl, ⟨byteS_R hv⟩⟩, HS14.out Z' (hZ.trans (hb.mono hZ.size)), ⟨hb⟩⟩⟩
      have HRW := Aside0.mk hRA
      have HKC : Aside0 (∀ Z, Below wr.heap.size wr Z → ∀ j u, (nums .u8 e.1)[j]? = some u → Z.cell? ((⟨q.1, 0, none⟩ : Addr).add j) = some u) := ⟨by
        obtain ⟨a, ha, hn⟩ := rC_some dC HEM.out.1
        cases ha
        exact hn⟩
      have HW1 := Aside0.mk (And.intro hb1 (And.intro hs1 hB1))
      clear hRA he hem dC dq hev hb1 hx1 hs1 hB1
      go_upto_region 8 with (fail)
      clear d0 d1 hlist hc1' hW1
      obtain ⟨q1, q2, q3⟩ := And.intro (HS14.out _ (below_drew (Below.refl _ _))).1.1 (And.intro (HS14.out _ (below_drew (Below.refl _ _))).1.2 (HS14.out _ (below_drew (Below.refl _ _))).2)
      go_region_held3 (fun w => (w.cell? ⟨b, 0, none⟩ = some (.pointer (some ⟨mb, 0, none⟩)) ∧ w.cell? ⟨b, 1, none⟩ = some (.slice (some ⟨g, 0, none⟩) S.length c) ∧ w.cell? ⟨g, n * 6 + 2, none⟩ = some (.int .i64 s.value)) ∧ w.cell? ⟨wr.heap.size, 0, none⟩ = some (.slice (some ⟨q.1, 0, none⟩) e.1.length q.2) ∧ w.cell? ⟨wr.heap.size, 1, none⟩ = some (.int .u64 e.2)) (first | assumption | exact HS14.out _ (by repeat (first | exact Below.refl _ _ | apply below_drew | apply pw_below_drewN))) (first | (go_at_call 40; refine (HBYT.out _ (by repeat (first | exact Below.refl _ _ | apply below_drew | apply pw_below_drewN))).mono ?_; rintro e6 w6 ⟨⟨b6, v6, rfl, HV6⟩, hct6, HB6⟩))
      have HBW6 : Aside0 (Below W1.heap.size W1 w6) := ⟨below_then (by repeat (first | exact Below.refl _ _ | apply below_drew | apply pw_below_drewN)) (by exact Nat.le_refl _) HB6.out⟩
      have HV6' : Aside0 (ByteS w6 W1.heap.size v6 ev) := ⟨HV6.out⟩
      obtain ⟨Av, cv, rfl, _, _⟩ := HV6.out.C
      have HB06 : Aside0 (Below wr.heap.size wr w6) := ⟨HW1.out.1.trans (HBW6.out.mono HW1.out.1.size)⟩
      have hkb := (HS14.out _ HBW6.out).2.1
      have HKB : Aside0 ((w6.alloc (.cells #[] 5)).cell? ⟨wr.heap.size, 0, none⟩ = some (.slice (some ⟨q.1, 0, none⟩) e.1.length q.2)) := ⟨pw_cell_below (below_alloc (Below.refl w6.heap.size w6) _) hkb⟩
      have hkb6 := HKB.out
      have HKN : Aside0 (∀ j u, (nums .u8 e.1)[j]? = some u → (w6.alloc (.cells #[] 5)).cell? ((⟨q.1, 0, none⟩ : Addr).add j) = some u) := ⟨HKC.out _ (HB06.out.trans (below_alloc (Below.refl _ _) _ |>.mono HB06.out.size))⟩
      have HLN : Aside0 ((nums .u8 e.1).length = e.1.length * 1 ∧ 0 + e.1.length ≤ maxLen ∧ (0 + e.1.length) * 1 ≤ 140737488355328) := ⟨by
        have h := HEM.out
        unfold maxLen
        rw [nums_length]
        omega⟩
      clear hct6 q1 q2 q3 hkb
      have HST : Aside0 (∀ w8 A8 c8, w8.ownsRow w6.heap.size 5 1 (.slice A8 e.1.length c8) e.1.length (nums .u8 e.1) → (w6.alloc (.cells #[] 5)).grownBy w8 (some w6.heap.size) → RSt X w8 u5 vs ((rentsF s R).take k) A8 Av c8 cv e.1 ev) := ⟨fun w8 A8 c8 h1 h2 => rents_step HB.out HE.out HB06.out (HV6'.out.lower HW1.out.1.size) h1 h2⟩
      have HTL := Aside0.mk (take_room (rentsF s R) k el (by unfold rentsF; rw [List.length_map]; exact HELL.out) hel)
      go_wp2_with (first
        | (at_builtin; refine wpList_append_own_at _ rfl _ _ 26 rfl w6.heap.size 5 iu _ 1 1 Tryd.underlying26 hiu hu0 hu1 hu2 rfl (by decide) (.slice (some ⟨w6.heap.size, 0, none⟩) 0 0) 0 [] rfl (rown_empty (heap_alloc_new w6 _) (Nat.le_refl _)) ⟨q.1, 0, none⟩ e.1.length q.2 (nums .u8 e.1) rfl HLN.out.1 HKN.out (rnums_one _) HLN.out.2.1 HLN.out.2.2 (below_alloc (Below.refl _ _) _).size ?_; intro v8 w8 hown8 hg8 hnil8 hloc8; rw [Nat.zero_add, List.nil_append] at hown8; obtain ⟨A8, c8, rfl⟩ := own_slice hown8; have HE8 := Aside0.mk (HST.out w8 A8 c8 hown8 hg8); clear hown8 hg8 hnil8 hloc8)
        | (at_builtin; refine wpList_append_own_at _ rfl _ _ 37 rfl X.heap.size 42 i1 _ 2 48 Tryd.underlying37 hi1 hj0 hj1 hj2 rfl (by decide) _ _ _ rfl (HE8.out.1.row.alloc _) ⟨w8.heap.size, 0, none⟩ 1 1 [.slice A8 e.1.length c8, .slice Av ev.length cv] rfl rfl (World.news_of_block (heap_alloc_new _ _)) (by intro u hu; simp at hu; rcases hu with rfl | rfl <;> rfl) HTL.out.1 HTL.out.2 (Nat.le_trans HE8.out.2.1 (below_alloc (Below.refl _ _) _).size) ?_; intro v10 w10 hown10 hg10 hnil10 hloc10))
      obtain ⟨r1, r2⟩ := HE8.out.2.2 _ _ hown10 hg10 hloc10
      rw [hwk]
      refine ⟨⟨k + 1, _, hlt, rfl, ⟨r1⟩, ⟨by rw [HNX.out]; exact r2⟩⟩, ?_⟩
      show el - (((k + 1 : Nat) : Int)).toNat < el - ((k : Nat) : Int).toNat
      rw [Int.toNat_natCast, Int.toNat_natCast]
      exact Nat.sub_lt_sub_left hlt (Nat.lt_succ_self k)
    · obtain rfl : k = el := Nat.le_antisymm hk (Nat.le_of_not_lt hlt)
      have hd : decide ((k : Int) < (k : Int)) = false := decide_eq_false (Int.lt_irrefl _)
      go_wp2_with fail
      go_ret
      have hE := HE.out
      rw [List.take_of_length_le (by unfold rentsF; rw [List.length_map, HELL.out]; exact Nat.le_refl _)] at hE
      exact ⟨⟨_, vs, rfl, hE⟩, HB.out⟩
end Go.Proofs.YtomnfkihieinbaaDoor.PAll
