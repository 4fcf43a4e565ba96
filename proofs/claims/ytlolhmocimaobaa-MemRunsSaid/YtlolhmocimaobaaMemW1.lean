/- mem: New, the numbers of regions, the search for an address, the last address. -/
import Derived.Test.YtlolhmocimaobaaMemBase
import Derived.Laws.Bits64
import Derived.OneCell
set_option linter.unusedVariables false
set_option linter.unusedSimpArgs false
namespace Go.Proofs.Ytlolhmocimaobaa.PAll
open Go.RowKit Go.Proofs.YtlolhmocimaobaaW.PrintWords Go.Proofs.YtlolhmocimaobaaW.PrintLast Go.Proofs.YtlolhmocimaobaaW.PrintMore
theorem blk2 {X : World} {b : Nat} {u v : Value} {T : TypeId} (h : X.heap[b]? = some (.cells #[u, v] T (0, 0))) : X.cell? ⟨b, 0, none⟩ = some u ∧ X.cell? ⟨b, 1, none⟩ = some v ∧ X.frozen? ⟨b, 0, none⟩ = false ∧ X.frozen? ⟨b, 1, none⟩ = false := by
  refine ⟨?_, ?_, ?_, ?_⟩ <;> simp [World.cell?, World.frozen?, h]
set_option maxHeartbeats 1000000 in
theorem mem_New (X : World) : Calls Try.prog 11 #[] X fun e X' => e = .returned (ptr X.heap.size) ∧ MemAt X' X.heap.size (fun k => k = X.heap.size) X.heap.size [] ∧ Below X.heap.size X X' := by
  go_enter Try.func11, Try.ntmps11
  go_wp2
  go_ret
  refine ⟨rfl, ⟨.slice none 0 0, [], heap_alloc_new X _, rfl, Nat.le_refl _, World.ownsRow_nil _ _ _ _, fun k hk => by simp [Value.ownBlock] at hk, rfl, fun i p r hp _ => by simp at hp, by simp⟩, Below.alloc (Below.refl _ _) (Nat.le_refl _) _⟩
set_option maxHeartbeats 1000000 in
theorem mem_New1 (X : World) (b : Nat) (x : Int) (h : X.cell? ⟨b, 0, none⟩ = some (.int .u64 x)) : Calls Try.prog 21 #[ptr b] X fun e X' => e = .returned (.int .u64 x) ∧ X = X' := by
  unfold ptr
  go_enter Try.func21, Try.ntmps21
  go_wp2
  go_ret
  exact ⟨rfl, rfl⟩
set_option maxHeartbeats 1000000 in
theorem mem_at1 (X : World) (b g m : Nat) (x a : Int) (hb : X.cell? ⟨b, 0, none⟩ = some (.int .u64 x)) (hg : X.cell? ⟨g, 0, none⟩ = some (.pointer (some ⟨m, 0, none⟩))) (hm : X.cell? ⟨m, 1, none⟩ = some (.func (.func 21) #[] #[])) :
    Calls Try.prog 40 #[ptr b, .int .u64 a, ptr g] X fun e X' => e = .returned (.int .i64 (if x ≤ a then -1 else 1)) ∧ X = X' := by
  have H := Aside0.mk (mem_New1 X b x hb)
  unfold ptr at H ⊢
  by_cases hxa : x ≤ a
  · rw [if_pos hxa]
    go_enter Try.func40, Try.ntmps40
    go_wp2_with (go_at_call 21; refine H.out.mono ?_; rintro e X' ⟨rfl, rfl⟩)
    go_ret
    exact ⟨rfl, rfl⟩
  · rw [if_neg hxa]
    go_enter Try.func40, Try.ntmps40
    go_wp2_with (go_at_call 21; refine H.out.mono ?_; rintro e X' ⟨rfl, rfl⟩)
    go_ret
    exact ⟨rfl, rfl⟩
/-- The address of the i-th region's first cell, out of the list. -/
theorem MemIn.get {X : World} {B : Nat} {own : Nat → Prop} {m : Nat} {L : List Reg} {v : Value} {ps : List (Nat × Nat)} (h : MemIn X B own m L v ps) {i : Nat} (hi : i < L.length) :
    ∃ p r g cap, ps[i]? = some p ∧ L[i]? = some r ∧ v = .slice (some ⟨g, 0, none⟩) L.length cap ∧ X.cell? ⟨g, i, none⟩ = some (.pointer (some ⟨p.1, 0, none⟩)) ∧ L.length ≤ cap ∧ cap ≤ maxLen ∧ RegAt X B own p r := by
  have hip : i < ps.length := by rw [h.len]; exact hi
  have e1 : ps[i]? = some ps[i] := List.getElem?_eq_getElem hip
  have e2 : L[i]? = some L[i] := List.getElem?_eq_getElem hi
  obtain ⟨g, cap, hv, hc, _, h1, h2, _⟩ := row_cell h.row (i := i) (u := ptr ps[i].1) (by rw [List.getElem?_map, e1]; rfl)
  exact ⟨_, _, g, cap, e1, e2, hv, hc, h1, h2, h.reg i _ _ e1 e2⟩
theorem RegAt.cell0 {X : World} {B : Nat} {own : Nat → Prop} {p : Nat × Nat} {r : Reg} (h : RegAt X B own p r) : X.cell? ⟨p.1, 0, none⟩ = some (.int .u64 r.base) := by
  obtain ⟨cap, hb, _⟩ := h.lies
  exact (blk2 hb).1
def SeaPost (L : List Reg) (a : Int) (X : World) (e : Ending) (X' : World) : Prop := (∃ (i : Nat) (b : Bool), IsAt L a i ∧ e = .returned (.tuple #[.int .i64 i, .bool b])) ∧ X = X'
set_option maxHeartbeats 4000000 in
set_option maxRecDepth 100000 in
theorem mem_search (X : World) (B : Nat) (own : Nat → Prop) (m g : Nat) (L : List Reg) (v : Value) (ps : List (Nat × Nat)) (a : Int) (h : MemIn X B own m L v ps) (hI : Inv L) (hg : X.cell? ⟨g, 0, none⟩ = some (.pointer (some ⟨m, 0, none⟩))) (hl : L.length ≤ 1000000) :
    Calls Try.prog 39 #[v, .int .u64 a, .func (.func 40) #[] #[.pointer (some ⟨g, 0, none⟩)]] X (SeaPost L a X) := by
  obtain ⟨A0, c0, rfl⟩ : ∃ A0 c0, v = .slice A0 L.length c0 := own_slice h.row
  have HM := Aside0.mk h
  have HI := Aside0.mk hI
  have hm1 := (blk2 h.blk).2.1
  have HC : Aside0 (∀ (p : Nat × Nat) (r : Reg), RegAt X B own p r → Calls Try.prog 40 #[.pointer (some ⟨p.1, 0, none⟩), .int .u64 a, .pointer (some ⟨g, 0, none⟩)] X fun e X' => e = .returned (.int .i64 (if r.base ≤ a then -1 else 1)) ∧ X = X') := ⟨fun p r hp => mem_at1 X p.1 g m r.base a hp.cell0 hg hm1⟩
  clear h hI hg hm1
  go_enter Try.func39, Try.ntmps39
  go_wp2
  go_loop [9, 10, 11] (fun v9 v10 v11 => ∃ i j : Nat, v9 = .int .i64 i ∧ v10 = .int .i64 j ∧ i ≤ j ∧ j ≤ L.length ∧ Aside0 (∀ (k : Nat) (r : Reg), k < i → L[k]? = some r → r.base ≤ a) ∧ Aside0 (∀ (k : Nat) (r : Reg), j ≤ k → L[k]? = some r → a < r.base)) (fun v9 v10 _ => (intOf v10).toNat - (intOf v9).toNat)
  case atStart => exact ⟨0, L.length, rfl, rfl, Nat.zero_le _, Nat.le_refl _, ⟨fun k r hk => by omega⟩, ⟨fun k r hk hr => by have := (List.getElem?_eq_some_iff.1 hr).1; omega⟩⟩
  case round =>
    obtain ⟨i, j, rfl, rfl, hij, hjl, H1, H2⟩ := hrel
    by_cases hlt : i < j
    · obtain ⟨hh, hhe⟩ : ∃ hh, hh = (i + j) / 2 := ⟨_, rfl⟩
      have hh1 : i ≤ hh := by omega
      have hh2 : hh < j := by omega
      obtain ⟨p, r, gg, cap, hp, hr, hv, hc, hcap, hcm, hra⟩ := HM.out.get (i := hh) (by omega)
      cases hv
      have hcall := HC.out p r hra
      have HR := Aside0.mk hr
      by_cases hba : r.base ≤ a
      · rw [if_pos hba] at hcall
        have HCALL := Aside0.mk hcall
        have HBA := Aside0.mk hba
        have HH := Aside0.mk hhe
        rw [hhe] at hc
        clear hcall hba hhe hr hcap hcm
        go_wp2_with (go_at_call 40; refine HCALL.out.mono ?_; rintro e X' ⟨rfl, rfl⟩)
        go_round
        case rel =>
          refine ⟨hh + 1, j, ?_, rfl, by omega, hjl, ⟨fun k r' hk hr' => ?_⟩, H2⟩
          · rw [HH.out]; congr 1
          · exact Int.le_trans (HI.out.srt (by omega : k ≤ hh) hr' HR.out) HBA.out
        case measure => have := HH.out; simp [intOf]; omega
      · rw [if_neg hba] at hcall
        have HCALL := Aside0.mk hcall
        have HBA := Aside0.mk hba
        have HH := Aside0.mk hhe
        rw [hhe] at hc
        clear hcall hba hhe hr hcap hcm
        go_wp2_with (go_at_call 40; refine HCALL.out.mono ?_; rintro e X' ⟨rfl, rfl⟩)
        go_round
        case rel =>
          refine ⟨i, hh, rfl, ?_, hh1, by omega, H1, ⟨fun k r' hk hr' => ?_⟩⟩
          · rw [HH.out]; congr 1
          · have := HI.out.srt hk HR.out hr'
            have := HBA.out
            omega
        case measure => have := HH.out; simp [intOf]; omega
    · obtain rfl : i = j := by omega
      have HAT : Aside0 (IsAt L a i) := ⟨⟨hjl, H1.out, H2.out⟩⟩
      by_cases hn : i < L.length
      · obtain ⟨p, r, gg, cap, hp, hr, hv, hc, hcap, hcm, hra⟩ := HM.out.get (i := i) hn
        cases hv
        have hcall := HC.out p r hra
        have hba : ¬ r.base ≤ a := by have := H2.out i r (Nat.le_refl _) hr; omega
        rw [if_neg hba] at hcall
        have HCALL := Aside0.mk hcall
        clear hcall hba hr hcap hcm
        go_wp2_with (go_at_call 40; refine HCALL.out.mono ?_; rintro e X' ⟨rfl, rfl⟩)
        go_ret2
        exact ⟨⟨i, _, HAT.out, rfl⟩, rfl⟩
      · go_wp2
        go_ret2
        exact ⟨⟨i, _, HAT.out, rfl⟩, rfl⟩
theorem u64_mod (z : Int) : IntKind.u64.wrap z = z % 18446744073709551616 := IntKind.wrap_u64 z
set_option maxHeartbeats 2000000 in
set_option maxRecDepth 100000 in
theorem mem_at (X : World) (B : Nat) (own : Nat → Prop) (m : Nat) (L : List Reg) (v : Value) (ps : List (Nat × Nat)) (a : Int) (h : MemIn X B own m L v ps) (hI : Inv L) (hl : L.length ≤ 1000000) :
    Calls Try.prog 29 #[.pointer (some ⟨m, 0, none⟩), .int .u64 a] X fun e X' => (∃ i : Nat, IsAt L a i ∧ e = .returned (.int .i64 ((i : Int) - 1))) ∧ Below X.heap.size X X' := by
  have hb1 : Below X.heap.size X (X.alloc (.cells #[.pointer (some ⟨m, 0, none⟩)] 85 (0, 0))) := Below.alloc (Below.refl _ _) (Nat.le_refl _) _
  have hm0 := (blk2 h.blk).1
  have hml := (Array.getElem?_eq_some_iff.1 h.blk).1
  have hS := Aside0.mk (mem_search _ B own m X.heap.size L v ps a (h.below hb1) hI (cell_of_one (heap_alloc_new X _)) hl)
  have HB := Aside0.mk hb1
  obtain ⟨A0, c0, rfl⟩ : ∃ A0 c0, v = .slice A0 L.length c0 := own_slice h.row
  clear h hI hb1
  go_enter Try.func29, Try.ntmps29
  go_wp2_with fail
  refine hS.out.mono ?_
  rintro e X' ⟨⟨i, b, hi, rfl⟩, rfl⟩
  have HI := Aside0.mk hi
  have hil := hi.1
  clear hi
  go_wp2_with fail
  go_ret
  exact ⟨⟨i, HI.out, rfl⟩, HB.out⟩
set_option maxHeartbeats 1000000 in
set_option maxRecDepth 100000 in
theorem mem_end (X : World) (b : Nat) (x : Int) (A0 : Option Addr) (n c : Nat) (h0 : X.cell? ⟨b, 0, none⟩ = some (.int .u64 x)) (h1 : X.cell? ⟨b, 1, none⟩ = some (.slice A0 n c)) (hx0 : 0 ≤ x) (hn : 1 ≤ n) (hx1 : x + n ≤ 18446744073709551616) (hn2 : n ≤ 4294967296) :
    Calls Try.prog 30 #[.pointer (some ⟨b, 0, none⟩)] X fun e X' => e = .returned (.int .u64 (x + n - 1)) ∧ ∃ k, X' = X.drewN k := by
  go_enter Try.func30, Try.ntmps30
  go_wp2
  go_quiet (fail)
  go_wp2
  go_ret
  refine ⟨?_, _, rfl⟩
  have e : IntKind.u64.wrap (IntKind.u64.wrap (x + n) - 1) = x + n - 1 := by rw [u64_mod, u64_mod]; omega
  rw [e]
  rfl
end Go.Proofs.Ytlolhmocimaobaa.PAll
