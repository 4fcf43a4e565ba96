/- The reference's Bytes. -/
import Derived.Test.YtlolhmocimaobaaRefW1
set_option linter.unusedVariables false
set_option linter.unusedSimpArgs false
namespace Go.Proofs.Ytlolhmocimaobaa.PAll
open Go.RowKit Go.Shelf Go.Proofs.YtlolhmocimaobaaW.PrintWords Go.Proofs.YtlolhmocimaobaaW.PrintLast Go.Proofs.YtlolhmocimaobaaW.PrintMore
theorem findR_none {R : List Reg} {a n : Int} (h : R.findIdx? (hitR a n) = none) : findR R a n = -1 := by unfold findR; rw [h]
theorem findR_some {R : List Reg} {a n : Int} {k : Nat} (h : R.findIdx? (hitR a n) = some k) : findR R a n = k := by unfold findR; rw [h]
set_option maxHeartbeats 2000000 in
set_option maxRecDepth 100000 in
theorem ref_Bytes_none (X : World) (B : Nat) (own : Nat → Prop) (b : Nat) (R : List Reg) (v : Value) (ps : List (Nat × Nat)) (a n : Int) (h : RefIn X B own b R v ps) (hW : ∀ r ∈ R, Ok r) (hl : R.length ≤ 1000000) (ha0 : 0 ≤ a) (ha1 : a < 18446744073709551616) (hn0 : -9223372036854775808 ≤ n) (hn1 : n < 9223372036854775808) (hf : R.findIdx? (hitR a n) = none) :
    Calls Try.prog 26 #[.pointer (some ⟨b, 0, none⟩), .int .u64 a, .int .i64 n] X fun e X' => e = .returned (.tuple #[.slice none 0 0, .bool false]) ∧ Below X.heap.size X X' := by
  have HF := Aside0.mk (ref_Find X B own b R v ps a n h hW hl ha0 ha1 hn0 hn1)
  rw [findR_none hf] at HF
  clear h hW ha0 ha1 hn0 hn1 hf
  go_enter Try.func26, Try.ntmps26
  go_wp2_with fail
  refine HF.out.mono ?_
  rintro e w1 ⟨rfl, hb1⟩
  go_wp2_with fail
  go_ret2
  exact ⟨rfl, hb1⟩
set_option maxHeartbeats 2000000 in
set_option maxRecDepth 100000 in
theorem ref_Bytes_some (X : World) (B : Nat) (own : Nat → Prop) (b : Nat) (R : List Reg) (v : Value) (ps : List (Nat × Nat)) (a : Int) (nn k : Nat) (r : Reg) (h : RefIn X B own b R v ps) (hW : ∀ r ∈ R, Ok r) (hl : R.length ≤ 1000000) (ha0 : 0 ≤ a) (ha1 : a < 18446744073709551616) (hn1 : nn < 4294967297) (hf : R.findIdx? (hitR a nn) = some k) (hr : R[k]? = some r) (hh : hitR a nn r = true) :
    Calls Try.prog 26 #[.pointer (some ⟨b, 0, none⟩), .int .u64 a, .int .i64 nn] X fun e X' => (∃ v', e = .returned (.tuple #[v', .bool true]) ∧ X'.ownsRow X.heap.size 5 1 v' nn (nums .u8 ((r.data.drop (a - r.base).toNat).take nn))) ∧ Below X.heap.size X X' := by
  have HF := Aside0.mk (ref_Find X B own b R v ps a nn h hW hl ha0 ha1 (by omega) (by omega))
  rw [findR_some hf] at HF
  obtain ⟨h1, h2, h3⟩ := hit_iff.1 hh
  obtain ⟨off, hoff⟩ : ∃ off : Nat, (a - r.base).toNat = off := ⟨_, rfl⟩
  have hao : a - r.base = off := by omega
  obtain ⟨bs, hbs⟩ : ∃ bs, (r.data.drop off).take nn = bs := ⟨_, rfl⟩
  have HBS := Aside0.mk hbs
  rw [hoff, hbs]
  have hkl := (List.getElem?_eq_some_iff.1 hr).1
  obtain ⟨p, r', g, cap, hp, hr', hv, hc0, hc1, hcap, hcm, hop, hro⟩ := h.get hkl
  rw [hr] at hr'
  cases hr'
  cases hv
  have HM := Aside0.mk h
  have HRO := Aside0.mk hro
  have hsh := (hW r (List.mem_of_getElem? hr)).short
  have hwo : ∀ j : Nat, j < nn → IntKind.u64.wrap (IntKind.u64.wrap (off : Int) + IntKind.u64.wrap (j : Int)) = ((off + j : Nat) : Int) := fun j hj => by rw [u64_mod, u64_mod, u64_mod, Int.emod_eq_of_lt (a := (off : Int)) (by omega) (by omega), Int.emod_eq_of_lt (a := (j : Int)) (by omega) (by omega), Int.emod_eq_of_lt (by omega) (by omega)]; omega
  have HWO := Aside0.mk hwo
  have HFIT : Aside0 (off + nn ≤ r.data.length) := ⟨by omega⟩
  have HBY : Aside0 (∀ z : Nat, z < r.data.length → X.cell? ⟨p.1, z, none⟩ = some (.int .u8 (rd r.data (z : Int)))) := ⟨fun z hz => by
    have h1 := HRO.out.cells (g := p.1) rfl z (.int .u8 (rd r.data (z : Int))) (by
      unfold nums rd
      rw [List.getElem?_map, List.getElem?_eq_getElem hz, Int.toNat_natCast, List.getD_eq_getElem?_getD, List.getElem?_eq_getElem hz]
      rfl)
    rwa [add_plain] at h1⟩
  have HC0 := Aside0.mk hc0
  have HC1 := Aside0.mk hc1
  have HM0 := Aside0.mk (blk1 h.blk).1
  clear h hW ha0 ha1 hf hh h1 h2 h3 hoff hsh hwo hc0 hc1 hop hro hr hp
  go_enter Try.func26, Try.ntmps26
  go_wp2_with fail
  refine HF.out.mono ?_
  rintro e w1 ⟨rfl, hb1⟩
  go_wp2_with fail
  go_loopw [9, 10] (fun v9 v10 wr => ∃ j : Nat, j ≤ nn ∧ v10 = .int .i64 j ∧ Aside0 (Below X.heap.size X wr) ∧ Aside0 (wr.ownsRow X.heap.size 5 1 v9 j (nums .u8 (bs.take j)))) (fun _ v10 _ => nn - (intOf v10).toNat)
  case atStart => exact ⟨0, Nat.zero_le _, rfl, ⟨hb1⟩, ⟨by simpa [nums] using World.ownsRow_nil _ _ _ _⟩⟩
  case round =>
    obtain ⟨j, hj, rfl, HB, HO⟩ := hrel
    by_cases hlt : j < nn
    · have hmd : wr.drew.cell? ⟨b, 0, none⟩ = some (.slice (some ⟨g, 0, none⟩) R.length cap) := pw_cell_below HB.out HM0.out
      have hcd0 : wr.drew.cell? ⟨g, k * 2, none⟩ = some (.int .u64 r.base) := pw_cell_below HB.out HC0.out
      have hcd1 : wr.drew.cell? ⟨g, k * 2 + 1, none⟩ = some (.slice (some ⟨p.1, 0, none⟩) r.data.length p.2) := pw_cell_below HB.out HC1.out
      have hbyte : wr.drew.cell? ⟨p.1, off + j, none⟩ = some (.int .u8 (rd r.data ((off + j : Nat) : Int))) := by
        have h1 := HRO.out.cells (g := p.1) rfl (off + j) (.int .u8 (rd r.data ((off + j : Nat) : Int))) (by
          have := HFIT.out
          unfold nums rd
          rw [List.getElem?_map, List.getElem?_eq_getElem (show off + j < r.data.length by omega), Int.toNat_natCast, List.getD_eq_getElem?_getD, List.getElem?_eq_getElem (show off + j < r.data.length by omega)]
          rfl)
        rw [add_plain] at h1
        exact pw_cell_below HB.out h1
      have hwj := HWO.out j hlt
      obtain ⟨q, hq⟩ : ∃ q : Nat, off + j = q := ⟨_, rfl⟩
      have hql : q < r.data.length := by have := HFIT.out; omega
      have hq0 : (0 : Int) ≤ (q : Int) := by omega
      have hq1 : (q : Int) < (r.data.length : Int) := by omega
      rw [hq] at hwj hbyte
      have HQ := Aside0.mk hq
      clear hq
      go_wp2_with fail
      refine wp_region_held_drew (S := (fun w' => w'.cell? ⟨b, 0, none⟩ = some (.slice (some ⟨g, 0, none⟩) R.length cap) ∧ w'.cell? ⟨g, k * 2, none⟩ = some (.int .u64 r.base) ∧ w'.cell? ⟨g, k * 2 + 1, none⟩ = some (.slice (some ⟨p.1, 0, none⟩) r.data.length p.2) ∧ w'.cell? ⟨p.1, q, none⟩ = some (.int .u8 (rd r.data (q : Int))))) (by kernel_rfl) ⟨hmd, hcd0, hcd1, hbyte⟩ (fun hHeld => ?_)
      refine wpAnyH_take (i := 0) (oi := { dst := some 22, op := Op.move (Operand.tmp 9), type := 32, pos := "ref.go:62", after := #[], guard := none }) (v := ?vb0) rfl (by kernel_rfl) (by kernel_rfl) (by kernel_rfl) (fun _ _ _ h => h) (Or.inl ⟨by rfl, ?hyb0⟩) (by assumption) ?restb0
      case hyb0 => (intro w hSw; (try dsimp only at hSw); first | (go_simp; done) | (go_simp; with_reducible rfl))
      try simp only [Act.put, List.setIfInBounds_toArray, List.set_cons_zero, List.set_cons_succ]
      refine wpAnyH_take (i := 1) (oi := { dst := some 23, op := Op.move (Operand.tmp 0), type := 27, pos := "ref.go:62", after := #[], guard := none }) (v := ?vb1) rfl (by kernel_rfl) (by kernel_rfl) (by kernel_rfl) (fun _ _ _ h => h) (Or.inl ⟨by rfl, ?hyb1⟩) (by assumption) ?restb1
      case hyb1 => (intro w hSw; (try dsimp only at hSw); first | (go_simp; done) | (go_simp; with_reducible rfl))
      try simp only [Act.put, List.setIfInBounds_toArray, List.set_cons_zero, List.set_cons_succ]
      refine wpAnyH_take (i := 2) (oi := { dst := some 24, op := Op.nilCheck (Operand.tmp 23), type := 0, pos := "ref.go:62", after := #[{ on := 1, ground := Ground.data }], guard := none }) (v := ?vb2) rfl (by kernel_rfl) (by kernel_rfl) (by kernel_rfl) (fun _ _ _ h => h) (Or.inl ⟨by rfl, ?hyb2⟩) (by assumption) ?restb2
      case hyb2 => (intro w hSw; (try dsimp only at hSw); first | (go_simp; done) | (go_simp; with_reducible rfl))
      try simp only [Act.put, List.setIfInBounds_toArray, List.set_cons_zero, List.set_cons_succ]
      refine wpAnyH_take (i := 3) (oi := { dst := some 25, op := Op.fieldAddr 30 (Operand.tmp 24) 0, type := 0, pos := "ref.go:62", after := #[{ on := 2, ground := Ground.data }], guard := none }) (v := ?vb3) rfl (by kernel_rfl) (by kernel_rfl) (by kernel_rfl) (fun _ _ _ h => h) (Or.inl ⟨by rfl, ?hyb3⟩) (by assumption) ?restb3
      case hyb3 => (intro w hSw; (try dsimp only at hSw); first | (go_simp; done) | (go_simp; with_reducible rfl))
      try simp only [Act.put, List.setIfInBounds_toArray, List.set_cons_zero, List.set_cons_succ]
      refine wpAnyH_take (i := 4) (oi := { dst := some 26, op := Op.load 28 (Operand.tmp 25), type := 28, pos := "ref.go:62", after := #[{ on := 3, ground := Ground.data }], guard := none }) (v := ?vb4) rfl (by kernel_rfl) (by kernel_rfl) (by kernel_rfl) (fun _ _ _ h => h) (Or.inl ⟨by rfl, ?hyb4⟩) (by assumption) ?restb4
      case hyb4 => (intro w hSw; (try dsimp only at hSw); first | (go_simp; done) | (go_simp; with_reducible rfl))
      try simp only [Act.put, List.setIfInBounds_toArray, List.set_cons_zero, List.set_cons_succ]
      refine wpAnyH_take (i := 5) (oi := { dst := some 27, op := Op.move (Operand.tmp 8), type := 3, pos := "ref.go:62", after := #[], guard := none }) (v := ?vb5) rfl (by kernel_rfl) (by kernel_rfl) (by kernel_rfl) (fun _ _ _ h => h) (Or.inl ⟨by rfl, ?hyb5⟩) (by assumption) ?restb5
      case hyb5 => (intro w hSw; (try dsimp only at hSw); first | (go_simp; done) | (go_simp; with_reducible rfl))
      try simp only [Act.put, List.setIfInBounds_toArray, List.set_cons_zero, List.set_cons_succ]
      refine wpAnyH_take (i := 6) (oi := { dst := some 28, op := Op.indexAddr 28 (Operand.tmp 26) (Operand.tmp 27), type := 0, pos := "ref.go:62", after := #[{ on := 4, ground := Ground.data }, { on := 5, ground := Ground.data }], guard := none }) (v := ?vb6) rfl (by kernel_rfl) (by kernel_rfl) (by kernel_rfl) (fun _ _ _ h => h) (Or.inl ⟨by rfl, ?hyb6⟩) (by assumption) ?restb6
      case hyb6 => (intro w hSw; (try dsimp only at hSw); first | (go_simp; done) | (go_simp; with_reducible rfl))
      try simp only [Act.put, List.setIfInBounds_toArray, List.set_cons_zero, List.set_cons_succ]
      refine wpAnyH_take (i := 7) (oi := { dst := some 29, op := Op.fieldAddr 82 (Operand.tmp 28) 1, type := 0, pos := "ref.go:62", after := #[{ on := 6, ground := Ground.data }], guard := none }) (v := ?vb7) rfl (by kernel_rfl) (by kernel_rfl) (by kernel_rfl) (fun _ _ _ h => h) (Or.inl ⟨by rfl, ?hyb7⟩) (by assumption) ?restb7
      case hyb7 => (intro w hSw; (try dsimp only at hSw); first | (go_simp; done) | (go_simp; with_reducible rfl))
      try simp only [Act.put, List.setIfInBounds_toArray, List.set_cons_zero, List.set_cons_succ]
      refine wpAnyH_take (i := 8) (oi := { dst := some 30, op := Op.load 32 (Operand.tmp 29), type := 32, pos := "ref.go:62", after := #[{ on := 7, ground := Ground.data }], guard := none }) (v := ?vb8) rfl (by kernel_rfl) (by kernel_rfl) (by kernel_rfl) (fun _ _ _ h => h) (Or.inl ⟨by rfl, ?hyb8⟩) (by assumption) ?restb8
      case hyb8 => (intro w hSw; (try dsimp only at hSw); first | (go_simp; done) | (go_simp; with_reducible rfl))
      try simp only [Act.put, List.setIfInBounds_toArray, List.set_cons_zero, List.set_cons_succ]
      refine wpAnyH_take (i := 9) (oi := { dst := some 31, op := Op.move (Operand.tmp 1), type := 31, pos := "ref.go:62", after := #[], guard := none }) (v := ?vb9) rfl (by kernel_rfl) (by kernel_rfl) (by kernel_rfl) (fun _ _ _ h => h) (Or.inl ⟨by rfl, ?hyb9⟩) (by assumption) ?restb9
      case hyb9 => (intro w hSw; (try dsimp only at hSw); first | (go_simp; done) | (go_simp; with_reducible rfl))
      try simp only [Act.put, List.setIfInBounds_toArray, List.set_cons_zero, List.set_cons_succ]
      refine wpAnyH_take (i := 10) (oi := { dst := some 32, op := Op.move (Operand.tmp 0), type := 27, pos := "ref.go:62", after := #[], guard := none }) (v := ?vb10) rfl (by kernel_rfl) (by kernel_rfl) (by kernel_rfl) (fun _ _ _ h => h) (Or.inl ⟨by rfl, ?hyb10⟩) (by assumption) ?restb10
      case hyb10 => (intro w hSw; (try dsimp only at hSw); first | (go_simp; done) | (go_simp; with_reducible rfl))
      try simp only [Act.put, List.setIfInBounds_toArray, List.set_cons_zero, List.set_cons_succ]
      refine wpAnyH_take (i := 11) (oi := { dst := some 33, op := Op.nilCheck (Operand.tmp 32), type := 0, pos := "ref.go:62", after := #[{ on := 10, ground := Ground.data }], guard := none }) (v := ?vb11) rfl (by kernel_rfl) (by kernel_rfl) (by kernel_rfl) (fun _ _ _ h => h) (Or.inl ⟨by rfl, ?hyb11⟩) (by assumption) ?restb11
      case hyb11 => (intro w hSw; (try dsimp only at hSw); first | (go_simp; done) | (go_simp; with_reducible rfl))
      try simp only [Act.put, List.setIfInBounds_toArray, List.set_cons_zero, List.set_cons_succ]
      refine wpAnyH_take (i := 12) (oi := { dst := some 34, op := Op.fieldAddr 30 (Operand.tmp 33) 0, type := 0, pos := "ref.go:62", after := #[{ on := 11, ground := Ground.data }], guard := none }) (v := ?vb12) rfl (by kernel_rfl) (by kernel_rfl) (by kernel_rfl) (fun _ _ _ h => h) (Or.inl ⟨by rfl, ?hyb12⟩) (by assumption) ?restb12
      case hyb12 => (intro w hSw; (try dsimp only at hSw); first | (go_simp; done) | (go_simp; with_reducible rfl))
      try simp only [Act.put, List.setIfInBounds_toArray, List.set_cons_zero, List.set_cons_succ]
      refine wpAnyH_take (i := 13) (oi := { dst := some 35, op := Op.load 28 (Operand.tmp 34), type := 28, pos := "ref.go:62", after := #[{ on := 12, ground := Ground.data }], guard := none }) (v := ?vb13) rfl (by kernel_rfl) (by kernel_rfl) (by kernel_rfl) (fun _ _ _ h => h) (Or.inl ⟨by rfl, ?hyb13⟩) (by assumption) ?restb13
      case hyb13 => (intro w hSw; (try dsimp only at hSw); first | (go_simp; done) | (go_simp; with_reducible rfl))
      try simp only [Act.put, List.setIfInBounds_toArray, List.set_cons_zero, List.set_cons_succ]
      refine wpAnyH_take (i := 14) (oi := { dst := some 36, op := Op.move (Operand.tmp 8), type := 3, pos := "ref.go:62", after := #[], guard := none }) (v := ?vb14) rfl (by kernel_rfl) (by kernel_rfl) (by kernel_rfl) (fun _ _ _ h => h) (Or.inl ⟨by rfl, ?hyb14⟩) (by assumption) ?restb14
      case hyb14 => (intro w hSw; (try dsimp only at hSw); first | (go_simp; done) | (go_simp; with_reducible rfl))
      try simp only [Act.put, List.setIfInBounds_toArray, List.set_cons_zero, List.set_cons_succ]
      refine wpAnyH_take (i := 15) (oi := { dst := some 37, op := Op.indexAddr 28 (Operand.tmp 35) (Operand.tmp 36), type := 0, pos := "ref.go:62", after := #[{ on := 13, ground := Ground.data }, { on := 14, ground := Ground.data }], guard := none }) (v := ?vb15) rfl (by kernel_rfl) (by kernel_rfl) (by kernel_rfl) (fun _ _ _ h => h) (Or.inl ⟨by rfl, ?hyb15⟩) (by assumption) ?restb15
      case hyb15 => (intro w hSw; (try dsimp only at hSw); first | (go_simp; done) | (go_simp; with_reducible rfl))
      try simp only [Act.put, List.setIfInBounds_toArray, List.set_cons_zero, List.set_cons_succ]
      refine wpAnyH_take (i := 16) (oi := { dst := some 38, op := Op.fieldAddr 82 (Operand.tmp 37) 0, type := 0, pos := "ref.go:62", after := #[{ on := 15, ground := Ground.data }], guard := none }) (v := ?vb16) rfl (by kernel_rfl) (by kernel_rfl) (by kernel_rfl) (fun _ _ _ h => h) (Or.inl ⟨by rfl, ?hyb16⟩) (by assumption) ?restb16
      case hyb16 => (intro w hSw; (try dsimp only at hSw); first | (go_simp; done) | (go_simp; with_reducible rfl))
      try simp only [Act.put, List.setIfInBounds_toArray, List.set_cons_zero, List.set_cons_succ]
      refine wpAnyH_take (i := 17) (oi := { dst := some 39, op := Op.load 31 (Operand.tmp 38), type := 31, pos := "ref.go:62", after := #[{ on := 16, ground := Ground.data }], guard := none }) (v := ?vb17) rfl (by kernel_rfl) (by kernel_rfl) (by kernel_rfl) (fun _ _ _ h => h) (Or.inl ⟨by rfl, ?hyb17⟩) (by assumption) ?restb17
      case hyb17 => (intro w hSw; (try dsimp only at hSw); first | (go_simp; done) | (go_simp; with_reducible rfl))
      try simp only [Act.put, List.setIfInBounds_toArray, List.set_cons_zero, List.set_cons_succ]
      refine wpAnyH_take (i := 18) (oi := { dst := some 40, op := Op.binOp BinOp.sub 31 (Operand.tmp 31) (Operand.tmp 39) 31, type := 31, pos := "ref.go:62", after := #[{ on := 9, ground := Ground.data }, { on := 17, ground := Ground.data }], guard := none }) (v := ?vb18) rfl (by kernel_rfl) (by kernel_rfl) (by kernel_rfl) (fun _ _ _ h => h) (Or.inl ⟨by rfl, ?hyb18⟩) (by assumption) ?restb18
      case hyb18 => (intro w hSw; (try dsimp only at hSw); first | (go_simp; done) | (go_simp; with_reducible rfl))
      try simp only [Act.put, List.setIfInBounds_toArray, List.set_cons_zero, List.set_cons_succ]
      refine wpAnyH_take (i := 19) (oi := { dst := some 41, op := Op.move (Operand.tmp 10), type := 3, pos := "ref.go:62", after := #[], guard := none }) (v := ?vb19) rfl (by kernel_rfl) (by kernel_rfl) (by kernel_rfl) (fun _ _ _ h => h) (Or.inl ⟨by rfl, ?hyb19⟩) (by assumption) ?restb19
      case hyb19 => (intro w hSw; (try dsimp only at hSw); first | (go_simp; done) | (go_simp; with_reducible rfl))
      try simp only [Act.put, List.setIfInBounds_toArray, List.set_cons_zero, List.set_cons_succ]
      refine wpAnyH_take (i := 20) (oi := { dst := some 42, op := Op.convert 3 31 (Operand.tmp 41), type := 31, pos := "ref.go:62", after := #[{ on := 19, ground := Ground.data }], guard := none }) (v := ?vb20) rfl (by kernel_rfl) (by kernel_rfl) (by kernel_rfl) (fun _ _ _ h => h) (Or.inl ⟨by rfl, ?hyb20⟩) (by assumption) ?restb20
      case hyb20 => (intro w hSw; (try dsimp only at hSw); first | (go_simp; done) | (go_simp; with_reducible rfl))
      try simp only [Act.put, List.setIfInBounds_toArray, List.set_cons_zero, List.set_cons_succ]
      refine wpAnyH_take (i := 21) (oi := { dst := some 43, op := Op.binOp BinOp.add 31 (Operand.tmp 40) (Operand.tmp 42) 31, type := 31, pos := "ref.go:62", after := #[{ on := 18, ground := Ground.data }, { on := 20, ground := Ground.data }], guard := none }) (v := ?vb21) rfl (by kernel_rfl) (by kernel_rfl) (by kernel_rfl) (fun _ _ _ h => h) (Or.inl ⟨by rfl, ?hyb21⟩) (by assumption) ?restb21
      case hyb21 => (intro w hSw; (try dsimp only at hSw); first | (go_simp; done) | (go_simp; with_reducible rfl))
      try simp only [Act.put, List.setIfInBounds_toArray, List.set_cons_zero, List.set_cons_succ]
      refine wpAnyH_take (i := 22) (oi := { dst := some 44, op := Op.indexAddr 32 (Operand.tmp 30) (Operand.tmp 43), type := 0, pos := "ref.go:62", after := #[{ on := 8, ground := Ground.data }, { on := 21, ground := Ground.data }], guard := none }) (v := ?vb22) rfl (by kernel_rfl) (by kernel_rfl) (by kernel_rfl) (fun _ _ _ h => h) (Or.inl ⟨by rfl, ?hyb22⟩) (by assumption) ?restb22
      case hyb22 => (intro w hSw; (try dsimp only at hSw); first | (go_simp; done) | (go_simp; with_reducible rfl))
      try simp only [Act.put, List.setIfInBounds_toArray, List.set_cons_zero, List.set_cons_succ]
      refine wpAnyH_take (i := 23) (oi := { dst := some 45, op := Op.load 5 (Operand.tmp 44), type := 5, pos := "ref.go:62", after := #[{ on := 22, ground := Ground.data }], guard := none }) (v := ?vb23) rfl (by kernel_rfl) (by kernel_rfl) (by kernel_rfl) (fun _ _ _ h => h) (Or.inl ⟨by rfl, ?hyb23⟩) (by assumption) ?restb23
      case hyb23 => (intro w hSw; (try dsimp only at hSw); first | (go_simp; done) | (go_simp; with_reducible rfl))
      try simp only [Act.put, List.setIfInBounds_toArray, List.set_cons_zero, List.set_cons_succ]
      refine wpAnyH_ready (rs := [24]) (by kernel_rfl) (by simp) (AllReadyH.cons (o := { dst := some 46, op := Op.buildSlice 32 1 #[(0, Operand.tmp 45)], type := 32, pos := "ref.go:62", after := #[{ on := 23, ground := Ground.data }], guard := none }) rfl (fun K hK => ?stepb24) AllReadyH.nil)
      go_simp
      refine hK.out _ _ ⟨pw_cell_below (below_alloc (Below.refl _ _) _) hmd, pw_cell_below (below_alloc (Below.refl _ _) _) hcd0, pw_cell_below (below_alloc (Below.refl _ _) _) hcd1, pw_cell_below (below_alloc (Below.refl _ _) _) hbyte⟩ (fun hHeld2 => ?_)
      clear hK K hHeld
      try simp only [Act.put, List.setIfInBounds_toArray, List.set_cons_zero, List.set_cons_succ]
      refine wpAnyH_ready (rs := [25]) (by kernel_rfl) (by simp) (AllReadyH.cons (o := { dst := some 47, op := Op.call { callee := Callee.builtin Builtin.append, args := #[Operand.tmp 22, Operand.tmp 46], argTypes := #[32, 32] }, type := 32, pos := "ref.go:62", after := #[{ on := 0, ground := Ground.data }, { on := 24, ground := Ground.data }], guard := none }) rfl (fun K hK => ?stepb25) AllReadyH.nil)
      have hBW : Below wr.heap.size wr (wr.alloc (.cells #[.int .u8 (rd r.data (q : Int))] 5)).drew := below_drew (below_alloc (Below.refl _ _) _)
      have hown' := row_keep HO.out (X' := (wr.alloc (.cells #[.int .u8 (rd r.data (q : Int))] 5)).drew) (fun z hz => hBW.block z (own_lt HO.out z hz))
      obtain ⟨i0, hi0, hz0, hzs, hzb⟩ := info_parts infoU8
      obtain ⟨v', w', hrun, hown2, hg, _, hat⟩ := run_append_own_at (P := Try.prog) _ X.heap.size 32 32 5 i0 (.int .u8 0) 1 1 Try.underlying32 hi0 hz0 hzs hzb rfl (by decide) _ j _ hown' ⟨wr.heap.size, 0, none⟩ 1 1 [.int .u8 (rd r.data (q : Int))] rfl (fun z u hz => by
        match z, hz with
        | 0, hz => obtain rfl := Option.some.inj hz; rw [add_plain]; exact (pw_cell_below (below_drew (Below.refl _ _)) (by unfold World.cell?; dsimp only; rw [heap_alloc_new]; rfl))
        | _ + 1, hz => simp at hz) (fun u hu => by rw [List.mem_singleton.1 hu]; rfl) (by unfold maxLen; omega) (by omega) (Nat.le_trans HB.out.size hBW.size)
      have hBX : Below X.heap.size X w' := (HB.out.trans (hBW.mono HB.out.size)).grown hg (Nat.le_trans HB.out.size hBW.size) (fun z hz => own_base hown' z hz)
      have HBX := Aside0.mk hBX
      have HO2 := Aside0.mk hown2
      rw [if_pos (by rfl)]
      refine Go.Lib.wp_append_run _ (.tmp 22) (.tmp 46) 32 32 rfl _ _ rfl rfl v' w' hrun ?_
      refine hK.out _ _ ⟨pw_cell_below hBX HM0.out, pw_cell_below hBX HC0.out, pw_cell_below hBX HC1.out, ?hbb⟩ (fun hHeld3 => ?_)
      case hbb => exact pw_cell_below hBX (HBY.out q hql)
      clear hK K hHeld2 hrun hown2 hg hat hBX hown' hBW
      try simp only [Act.put, List.setIfInBounds_toArray, List.set_cons_zero, List.set_cons_succ]
      refine wpAnyH_ready (rs := [26]) (by kernel_rfl) (by simp) (AllReadyH.cons (o := { dst := some 9, op := Op.assign (Operand.tmp 47), type := 32, pos := "ref.go:62", after := #[{ on := 25, ground := Ground.data }, { on := 25, ground := Ground.chain }, { on := 0, ground := Ground.phase }, { on := 1, ground := Ground.phase }, { on := 2, ground := Ground.phase }, { on := 3, ground := Ground.phase }, { on := 4, ground := Ground.phase }, { on := 5, ground := Ground.phase }, { on := 6, ground := Ground.phase }, { on := 7, ground := Ground.phase }, { on := 8, ground := Ground.phase }, { on := 9, ground := Ground.phase }, { on := 10, ground := Ground.phase }, { on := 11, ground := Ground.phase }, { on := 12, ground := Ground.phase }, { on := 13, ground := Ground.phase }, { on := 14, ground := Ground.phase }, { on := 15, ground := Ground.phase }, { on := 16, ground := Ground.phase }, { on := 17, ground := Ground.phase }, { on := 18, ground := Ground.phase }, { on := 19, ground := Ground.phase }, { on := 20, ground := Ground.phase }, { on := 21, ground := Ground.phase }, { on := 22, ground := Ground.phase }, { on := 23, ground := Ground.phase }, { on := 24, ground := Ground.phase }, { on := 25, ground := Ground.phase }], guard := none }) rfl (fun K hK => ?stepb26) AllReadyH.nil)
      go_simp
      refine hK.out _ _ hHeld3 (fun hHeld4 => ?_)
      clear hK K hHeld3 hHeld4
      try simp only [Act.put, List.setIfInBounds_toArray, List.set_cons_zero, List.set_cons_succ]
      refine wpAnyH_done (by kernel_rfl) ?_ _
      go_wp2_with fail
      refine ⟨⟨j + 1, by omega, by congr 1, HBX, ⟨?_⟩⟩, by simp [intOf]; omega⟩
      have e1 : bs[j]? = some (rd r.data (q : Int)) := by
        rw [← HBS.out, List.getElem?_take, if_pos hlt, List.getElem?_drop, HQ.out]
        unfold rd
        rw [Int.toNat_natCast, List.getD_eq_getElem?_getD, List.getElem?_eq_getElem hql]
        rfl
      have e2 : bs.take (j + 1) = bs.take j ++ [rd r.data (q : Int)] := by rw [List.take_add_one, e1]; rfl
      rw [e2]
      have := HO2.out
      simpa [nums] using this
    · obtain rfl : j = nn := by omega
      have e3 : bs.take j = bs := List.take_of_length_le (by rw [← HBS.out, List.length_take]; omega)
      have HO3 := HO.out
      rw [e3] at HO3
      obtain ⟨A3, c3, rfl⟩ := own_slice HO3
      have HO4 := Aside0.mk HO3
      clear HO3 e3
      go_wp2_with fail
      go_ret2
      exact ⟨⟨_, rfl, HO4.out⟩, HB.out⟩
end Go.Proofs.Ytlolhmocimaobaa.PAll
