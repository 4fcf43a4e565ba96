/- maps: the law MapsHandles. -/
import Derived.Test.YtmkmldpcoonepaaGRMapA
set_option linter.unusedVariables false
set_option linter.unusedSimpArgs false
namespace Go.Proofs.Ytmkmldpcoonepaa.PAll
open Go.RowKit Go.Shelf Go.Maps Go.Proofs.YtmkmldpcoonepaaW.PrintWords Go.Proofs.YtmkmldpcoonepaaW.PrintLast Go.Proofs.YtmkmldpcoonepaaW.PrintMore
def hF (i : Int) : Int := if i < 0 then 0 else if i ≥ 255 then 0 else IntKind.u64.wrap (2305843009213693952 + IntKind.u64.wrap i)
theorem hF_m (i : Int) : maps_Handle.f i = some (hF i) := by
  unfold maps_Handle.f hF
  split
  · rfl
  · split <;> rfl
theorem hF_r (i : Int) : slotcoderef21_Handle.f i = some (hF i) := by
  unfold slotcoderef21_Handle.f hF
  split
  · rfl
  · by_cases h : i ≥ 255
    · rw [if_pos h, if_pos (by omega)]
    · rw [if_neg h, if_neg (by omega)]
theorem rhandle2_c (i : Int) (w : World) : Calls Try.prog 17 #[.int .i64 i] w fun e w' => e = .returned (.int .u64 (hF i)) ∧ ∃ k, w' = w.drewN k :=
  (slotcoderef21_Handle.calls i (hF i) w (hF_r i)).mono fun e w' ⟨h1, h2⟩ => ⟨h1, by obtain ⟨k, hk⟩ := h2.out; exact ⟨k, hk⟩⟩
theorem defF_map (ds : List S42) (k : Nat) (hk : k < ds.length) : defF (ds.map newS) (k : Int) = rd_T42 ds (k : Int) := by
  unfold defF getP rd_T42
  rw [if_pos (Int.natCast_nonneg k), Int.toNat_natCast, List.getElem?_map, List.getElem?_eq_getElem hk, List.getD_eq_getElem?_getD, List.getElem?_eq_getElem hk]
  rfl
theorem defF_out (ds : List S42) (i : Int) (h : ¬ (0 ≤ i ∧ i < ds.length)) : defF (ds.map newS) i = zeroDef := by
  unfold defF getP
  by_cases h0 : 0 ≤ i
  · rw [if_pos h0, List.getElem?_eq_none (by rw [List.length_map]; omega)]
  · rw [if_neg h0]
theorem eq_def (q0 : ByteArray) (q1 q2 q3 : Int) (w : World) : (Op.equalIn 10000 42 (.agg #[.string q0, .int .i64 q1, .int .i64 q2, .int .i64 q3]) (.agg #[.string q0, .int .i64 q1, .int .i64 q2, .int .i64 q3])).run Try.prog w = .ok true w := by
  simp [go_sem]
set_option maxHeartbeats 4000000 in
set_option maxRecDepth 100000 in
theorem mapsHandles_c (X : World) (A0 : Option Addr) (c0 : Nat) (ds : List S42) (i hd : Int) (hr0 : Kd.C k42 X A0 ds.length ds) (hc0 : ds.length ≤ c0) (hi0 : -9223372036854775808 ≤ i) (hi1 : i < 9223372036854775808) (h0 : 0 ≤ hd) (h1 : hd < 18446744073709551616) :
    Calls Try.prog 3 #[.slice A0 ds.length c0, .int .i64 i, .int .u64 hd] X fun e X' => e = .returned (.bool true) ∧ Below X.heap.size X X' := by
  have HC := Aside0.mk hr0
  have HC0 := Aside0.mk hc0
  have HI := Aside0.mk (And.intro hi0 hi1)
  have HD := Aside0.mk (And.intro h0 h1)
  obtain ⟨n, hn⟩ : ∃ n, ds.length = n := ⟨_, rfl⟩
  have HN := Aside0.mk hn
  rw [hn]
  clear hr0 hc0 hi0 hi1 h0 h1 hn
  by_cases hbig : (n : Int) > 300
  · have hg : decide ((n : Int) > 300) = true := decide_eq_true hbig
    have hg' : decide (300 < (n : Int)) = true := decide_eq_true hbig
    clear hbig
    go_enter Try.func3, Try.ntmps3
    go_wp2_with fail
    refine (lm_mem X rfl).mono ?_
    rintro e w1 ⟨rfl, hm1, hb1⟩
    have HB1 := Aside0.mk hb1
    clear hm1 hb1
    go_wp2_with fail
    refine (alive_c w1).mono ?_
    rintro e w2 ⟨rfl, hb⟩
    have HB2 : Aside0 (Below X.heap.size X w2) := ⟨HB1.out.trans (hb.mono HB1.out.size)⟩
    clear hb
    go_wp2_with fail
    go_ret
    exact ⟨rfl, HB2.out⟩
  · have hg : decide ((n : Int) > 300) = false := decide_eq_false hbig
    have hg' : decide (300 < (n : Int)) = false := decide_eq_false hbig
    clear hbig
    go_enter Try.func3, Try.ntmps3
    go_wp2_with fail
    refine (lm_mem X rfl).mono ?_
    rintro e w1 ⟨rfl, hm1, hb1⟩
    have HM1 := Aside0.mk hm1
    have HB1 := Aside0.mk hb1
    clear hm1 hb1
    go_wp2_with fail
    obtain rfl := HN.out
    obtain ⟨r, hr⟩ : ∃ r, checkF ds = r := ⟨_, rfl⟩
    refine (check_c ds A0 c0 w1 (Kd.C_below HC.out HB1.out) HC0.out r hr).mono ?_
    rintro e w2 ⟨rfl, hb2⟩
    have HM2 := Aside0.mk (HM1.out.below hb2)
    have HB2 : Aside0 (Below X.heap.size X w2) := ⟨HB1.out.trans (hb2.mono HB1.out.size)⟩
    have HR := Aside0.mk hr
    clear hb2 hr
    by_cases hz : r = 0
    · subst hz
      have HALL : Aside0 (ds.all sizesB = true ∧ ds.length ≤ 255) := ⟨by
        have h := HR.out
        unfold checkF at h
        split at h
        · cases h
        · split at h
          · rename_i h1 h2
            exact ⟨h2, by omega⟩
          · cases h⟩
      go_wp2_with fail
      refine (lm_new w2 X.heap.size X.heap.size A0 c0 ds HM2.out HB2.out.size (Kd.C_below HC.out HB2.out) HALL.out.2).mono ?_
      rintro e w3 ⟨hp, hb3⟩
      rw [if_pos HALL.out.1] at hp
      obtain ⟨t, rfl, hm3⟩ := hp
      have HM3 := Aside0.mk hm3
      have HB3 : Aside0 (Below X.heap.size X w3) := ⟨HB2.out.trans (hb3.mono HB2.out.size)⟩
      clear hb3 hm3
      go_wp2_with fail
      obtain ⟨W4, hW4⟩ : ∃ W, w3.alloc (.cells #[.slice none 0 0] 37) = W := ⟨_, rfl⟩
      have HM4 := Aside0.mk (HM3.out.below (below_alloc (Below.refl w3.heap.size w3) (.cells #[.slice none 0 0] 37)))
      have HB4 := Aside0.mk (below_alloc HB3.out (.cells #[.slice none 0 0] 37))
      rw [hW4] at HM4 HB4 ⊢
      clear hW4
      refine (rnew_c W4 w3.heap.size A0 c0 ds (Kd.C_below HC.out HB4.out) HALL.out.2).mono ?_
      rintro e w5 ⟨⟨v5, rfl, hx5, ho5⟩, hb5⟩
      obtain ⟨A5, c5, rfl⟩ := own_slice ho5
      have HM5 := Aside0.mk (HM4.out.below hb5)
      have HB5 : Aside0 (Below X.heap.size X w5) := ⟨HB4.out.trans (hb5.mono HB4.out.size)⟩
      have HX5 := Aside0.mk hx5
      obtain ⟨b, hbe⟩ : ∃ b, W4.heap.size = b := ⟨_, rfl⟩
      rw [hbe] at HX5 ⊢
      clear hx5 ho5 hb5 hbe
      obtain ⟨r1, hr1⟩ : ∃ r1, indexF ds.length hd = r1 := ⟨_, rfl⟩
      have HR1 := Aside0.mk hr1
      clear hr1
      go_wp2_with fail
      refine (lm_index w5 X.heap.size _ t X.heap.size _ _ hd HM5.out HD.out.1 HD.out.2 r1 (by rw [List.length_map]; exact HR1.out)).mono ?_
      rintro e w6 ⟨rfl, rfl⟩
      go_wp2_with fail
      refine (rindex_c' w5 b ds.length c5 A5 hd (blk2 HX5.out).2.1 (Array.getElem?_eq_some_iff.1 HX5.out).1 HALL.out.2 HD.out.1 HD.out.2).mono ?_
      rintro e w6 ⟨rfl, hb6⟩
      rw [HR1.out]
      have HM6 := Aside0.mk (HM5.out.below hb6)
      have HB6 : Aside0 (Below X.heap.size X w6) := ⟨HB5.out.trans (hb6.mono HB5.out.size)⟩
      clear hb6
      obtain ⟨i1, ok1⟩ := r1
      dsimp only
      obtain ⟨z, hz⟩ : ∃ z, hF i = z := ⟨_, rfl⟩
      have HH1 : Aside0 (∀ w, Calls Try.prog 16 #[.int .i64 i] w fun e w' => e = .returned (.int .u64 z) ∧ ∃ k, w' = w.drewN k) := ⟨fun w => hz ▸ handle_c _ _ _ (hF_m _)⟩
      have HH2 : Aside0 (∀ w, Calls Try.prog 17 #[.int .i64 i] w fun e w' => e = .returned (.int .u64 z) ∧ ∃ k, w' = w.drewN k) := ⟨fun w => hz ▸ rhandle2_c _ _⟩
      clear hz
      by_cases hin : 0 ≤ i ∧ i < (ds.length : Int)
      · obtain ⟨k, rfl⟩ : ∃ k : Nat, i = k := ⟨i.toNat, by omega⟩
        have hkl : k < ds.length := by omega
        have h0 : (0 : Int) ≤ (k : Int) := hin.1
        have h1 : (k : Int) < (ds.length : Int) := hin.2
        have hge : decide ((k : Int) ≥ 0) = true := decide_eq_true h0
        have hlt : decide ((k : Int) < (ds.length : Int)) = true := decide_eq_true h1
        have hdf := defF_map ds k hkl
        obtain ⟨ad, rfl, x0, x1, x2, x3⟩ := at_T42 (Kd.C_below HC.out (below_alloc HB6.out (.cells #[.string ⟨#[]⟩, .int .i64 0, .int .i64 0, .int .i64 0] 42))) (k : Int) h0 h1
        rw [Int.toNat_natCast] at x0 x1 x2 x3
        obtain ⟨⟨q0, q1, q2, q3⟩, hdd⟩ : ∃ dd, rd_T42 ds (k : Int) = dd := ⟨_, rfl⟩
        rw [hdd] at x0 x1 x2 x3 hdf
        have HDF := Aside0.mk hdf
        clear hkl hin hdf hdd
        go_wp2_with fail
        have HDD : Aside0 (∀ w, Below (w6.alloc (.cells #[.string q0, .int .i64 q1, .int .i64 q2, .int .i64 q3] 42)).heap.size (w6.alloc (.cells #[.string q0, .int .i64 q1, .int .i64 q2, .int .i64 q3] 42)) w → Calls Try.prog 18 #[.pointer (some ⟨t, 0, none⟩), .int .i64 k] w fun e X' => e = .returned (.agg #[.string q0, .int .i64 q1, .int .i64 q2, .int .i64 q3]) ∧ Below w.heap.size w X') := ⟨fun w hb => lm_def w _ _ t X.heap.size _ _ k (((HM6.out.below (below_alloc (Below.refl w6.heap.size w6) _))).below hb) ⟨q0, q1, q2, q3⟩ HDF.out⟩
        have HCW0 : Aside0 (∀ w, Below (w6.alloc (.cells #[.string q0, .int .i64 q1, .int .i64 q2, .int .i64 q3] 42)).heap.size (w6.alloc (.cells #[.string q0, .int .i64 q1, .int .i64 q2, .int .i64 q3] 42)) w → w.cell? ⟨w6.heap.size, 0, none⟩ = some (.string q0) ∧ w.cell? ⟨w6.heap.size, 1, none⟩ = some (.int .i64 q1) ∧ w.cell? ⟨w6.heap.size, 2, none⟩ = some (.int .i64 q2) ∧ w.cell? ⟨w6.heap.size, 3, none⟩ = some (.int .i64 q3)) := ⟨fun w hb => by
          have h := (hb.block w6.heap.size (by simp)).trans (heap_alloc_new w6 _)
          exact ⟨by simp [World.cell?, h], by simp [World.cell?, h], by simp [World.cell?, h], by simp [World.cell?, h]⟩⟩
        have HM7 := Aside0.mk (HM6.out.below (below_alloc (Below.refl w6.heap.size w6) (.cells #[.string q0, .int .i64 q1, .int .i64 q2, .int .i64 q3] 42)))
        have HB7 := Aside0.mk (below_alloc HB6.out (.cells #[.string q0, .int .i64 q1, .int .i64 q2, .int .i64 q3] 42))
        obtain ⟨W7, hW7⟩ : ∃ W7, w6.alloc (.cells #[.string q0, .int .i64 q1, .int .i64 q2, .int .i64 q3] 42) = W7 := ⟨_, rfl⟩
        rw [hW7] at HCW0 HM7 HB7 HDD ⊢
        have hcur : Below W7.heap.size W7 W7.drew := below_drew (Below.refl _ _)
        obtain ⟨u0, u1, u2, u3⟩ := HCW0.out _ hcur
        have heq : ∀ w : World, (Op.equalIn 10000 42 (.agg #[.string q0, .int .i64 q1, .int .i64 q2, .int .i64 q3]) (.agg #[.string q0, .int .i64 q1, .int .i64 q2, .int .i64 q3])).run Try.prog w = .ok true w := fun w => eq_def q0 q1 q2 q3 w
        have HAL : Aside0 (∀ w, ((w.cell? ⟨w6.heap.size, 0, none⟩ = some (.string q0) ∧ w.cell? ⟨w6.heap.size, 1, none⟩ = some (.int .i64 q1) ∧ w.cell? ⟨w6.heap.size, 2, none⟩ = some (.int .i64 q2) ∧ w.cell? ⟨w6.heap.size, 3, none⟩ = some (.int .i64 q3)) ∧ Below W7.heap.size W7 w) → Calls Try.prog 11 #[] w fun e w' => e = .returned (.bool true) ∧ ((w'.cell? ⟨w6.heap.size, 0, none⟩ = some (.string q0) ∧ w'.cell? ⟨w6.heap.size, 1, none⟩ = some (.int .i64 q1) ∧ w'.cell? ⟨w6.heap.size, 2, none⟩ = some (.int .i64 q2) ∧ w'.cell? ⟨w6.heap.size, 3, none⟩ = some (.int .i64 q3)) ∧ Below W7.heap.size W7 w')) := ⟨fun w h => (alive_c w).mono fun e w' ⟨h1, h2⟩ => ⟨h1, HCW0.out _ (below_then h.2 h.2.size h2), below_then h.2 h.2.size h2⟩⟩
        have HH1 : Aside0 (∀ w, ((w.cell? ⟨w6.heap.size, 0, none⟩ = some (.string q0) ∧ w.cell? ⟨w6.heap.size, 1, none⟩ = some (.int .i64 q1) ∧ w.cell? ⟨w6.heap.size, 2, none⟩ = some (.int .i64 q2) ∧ w.cell? ⟨w6.heap.size, 3, none⟩ = some (.int .i64 q3)) ∧ Below W7.heap.size W7 w) → Calls Try.prog 16 #[.int .i64 k] w fun e w' => e = .returned (.int .u64 z) ∧ ((w'.cell? ⟨w6.heap.size, 0, none⟩ = some (.string q0) ∧ w'.cell? ⟨w6.heap.size, 1, none⟩ = some (.int .i64 q1) ∧ w'.cell? ⟨w6.heap.size, 2, none⟩ = some (.int .i64 q2) ∧ w'.cell? ⟨w6.heap.size, 3, none⟩ = some (.int .i64 q3)) ∧ Below W7.heap.size W7 w')) := ⟨fun w h => (HH1.out w).mono fun e w' ⟨h1, k, h2⟩ => ⟨h1, by rw [h2]; exact ⟨HCW0.out _ (below_then h.2 h.2.size (pw_below_drewN (Below.refl _ _) k)), below_then h.2 h.2.size (pw_below_drewN (Below.refl _ _) k)⟩⟩⟩
        have HH2 : Aside0 (∀ w, ((w.cell? ⟨w6.heap.size, 0, none⟩ = some (.string q0) ∧ w.cell? ⟨w6.heap.size, 1, none⟩ = some (.int .i64 q1) ∧ w.cell? ⟨w6.heap.size, 2, none⟩ = some (.int .i64 q2) ∧ w.cell? ⟨w6.heap.size, 3, none⟩ = some (.int .i64 q3)) ∧ Below W7.heap.size W7 w) → Calls Try.prog 17 #[.int .i64 k] w fun e w' => e = .returned (.int .u64 z) ∧ ((w'.cell? ⟨w6.heap.size, 0, none⟩ = some (.string q0) ∧ w'.cell? ⟨w6.heap.size, 1, none⟩ = some (.int .i64 q1) ∧ w'.cell? ⟨w6.heap.size, 2, none⟩ = some (.int .i64 q2) ∧ w'.cell? ⟨w6.heap.size, 3, none⟩ = some (.int .i64 q3)) ∧ Below W7.heap.size W7 w')) := ⟨fun w h => (HH2.out w).mono fun e w' ⟨h1, k, h2⟩ => ⟨h1, by rw [h2]; exact ⟨HCW0.out _ (below_then h.2 h.2.size (pw_below_drewN (Below.refl _ _) k)), below_then h.2 h.2.size (pw_below_drewN (Below.refl _ _) k)⟩⟩⟩
        have HDD : Aside0 (∀ w, ((w.cell? ⟨w6.heap.size, 0, none⟩ = some (.string q0) ∧ w.cell? ⟨w6.heap.size, 1, none⟩ = some (.int .i64 q1) ∧ w.cell? ⟨w6.heap.size, 2, none⟩ = some (.int .i64 q2) ∧ w.cell? ⟨w6.heap.size, 3, none⟩ = some (.int .i64 q3)) ∧ Below W7.heap.size W7 w) → Calls Try.prog 18 #[.pointer (some ⟨t, 0, none⟩), .int .i64 k] w fun e w' => e = .returned (.agg #[.string q0, .int .i64 q1, .int .i64 q2, .int .i64 q3]) ∧ ((w'.cell? ⟨w6.heap.size, 0, none⟩ = some (.string q0) ∧ w'.cell? ⟨w6.heap.size, 1, none⟩ = some (.int .i64 q1) ∧ w'.cell? ⟨w6.heap.size, 2, none⟩ = some (.int .i64 q2) ∧ w'.cell? ⟨w6.heap.size, 3, none⟩ = some (.int .i64 q3)) ∧ Below W7.heap.size W7 w')) := ⟨fun w h => (HDD.out w h.2).mono fun e w' ⟨h1, h2⟩ => ⟨h1, HCW0.out _ (below_then h.2 h.2.size h2), below_then h.2 h.2.size h2⟩⟩
        clear hW7 x0 x1 x2 x3 hge hlt
        -- ARMA
        refine wp_region_held_drew (S := (fun w' => (w'.cell? ⟨w6.heap.size, 0, none⟩ = some (.string q0) ∧ w'.cell? ⟨w6.heap.size, 1, none⟩ = some (.int .i64 q1) ∧ w'.cell? ⟨w6.heap.size, 2, none⟩ = some (.int .i64 q2) ∧ w'.cell? ⟨w6.heap.size, 3, none⟩ = some (.int .i64 q3)) ∧ Below W7.heap.size W7 w')) (by kernel_rfl) ⟨⟨u0, u1, u2, u3⟩, hcur⟩ (fun hHeld => ?_)
        refine wpAnyH_ready (rs := [0]) (by kernel_rfl) (by simp) (AllReadyH.cons (o := { dst := some 69, op := Op.call { callee := Callee.value (Operand.func 11), args := #[], argTypes := #[] }, type := 4, pos := "law.go:118", after := #[], guard := none }) rfl (fun K hK => ?stephgac0) AllReadyH.nil)
        go_simp
        go_at_call 11
        refine (HAL.out _ hHeld).mono ?_
        rintro e w8 ⟨rfl, hS8⟩
        try dsimp only
        refine hK.out _ _ hS8 (fun hHeld => ?_)
        clear hK K
        try simp only [Act.put, List.setIfInBounds_toArray, List.set_cons_zero, List.set_cons_succ]
        refine wpAnyH_take (i := 1) (oi := { dst := some 70, op := Op.move (Operand.tmp 69), type := 4, pos := "law.go:118", after := #[{ on := 0, ground := Ground.data }, { on := 0, ground := Ground.chain }], guard := none }) (v := ?vhga1) rfl (by kernel_rfl) (by kernel_rfl) (by kernel_rfl) (fun _ _ _ h => h) (Or.inl ⟨by rfl, ?hyhga1⟩) (by assumption) ?resthga1
        case hyhga1 => (intro w hSw; (try dsimp only at hSw); first | (go_simp; done) | (go_simp; with_reducible rfl))
        try simp only [Act.put, List.setIfInBounds_toArray, List.set_cons_zero, List.set_cons_succ]
        refine wpAnyH_take (i := 2) (oi := { dst := some 71, op := Op.move (Operand.tmp 11), type := 3, pos := "law.go:118", after := #[{ on := 1, ground := Ground.guard }], guard := some (1, true) }) (v := ?vhga2) rfl (by kernel_rfl) (by kernel_rfl) (by kernel_rfl) (fun _ _ _ h => h) (Or.inl ⟨by rfl, ?hyhga2⟩) (by assumption) ?resthga2
        case hyhga2 => (intro w hSw; (try dsimp only at hSw); first | (go_simp; done) | (go_simp; with_reducible rfl))
        try simp only [Act.put, List.setIfInBounds_toArray, List.set_cons_zero, List.set_cons_succ]
        refine wpAnyH_take (i := 3) (oi := { dst := some 72, op := Op.move (Operand.tmp 13), type := 3, pos := "law.go:118", after := #[{ on := 1, ground := Ground.guard }], guard := some (1, true) }) (v := ?vhga3) rfl (by kernel_rfl) (by kernel_rfl) (by kernel_rfl) (fun _ _ _ h => h) (Or.inl ⟨by rfl, ?hyhga3⟩) (by assumption) ?resthga3
        case hyhga3 => (intro w hSw; (try dsimp only at hSw); first | (go_simp; done) | (go_simp; with_reducible rfl))
        try simp only [Act.put, List.setIfInBounds_toArray, List.set_cons_zero, List.set_cons_succ]
        refine wpAnyH_take (i := 4) (oi := { dst := some 73, op := Op.binOp BinOp.eql 3 (Operand.tmp 71) (Operand.tmp 72) 3, type := 4, pos := "law.go:118", after := #[{ on := 2, ground := Ground.data }, { on := 3, ground := Ground.data }, { on := 1, ground := Ground.guard }], guard := some (1, true) }) (v := ?vhga4) rfl (by kernel_rfl) (by kernel_rfl) (by kernel_rfl) (fun _ _ _ h => h) (Or.inl ⟨by rfl, ?hyhga4⟩) (by assumption) ?resthga4
        case hyhga4 => (intro w hSw; (try dsimp only at hSw); first | (go_simp; done) | (go_simp; with_reducible rfl))
        try simp only [Act.put, List.setIfInBounds_toArray, List.set_cons_zero, List.set_cons_succ]
        refine wpAnyH_take (i := 5) (oi := { dst := some 74, op := Op.pick (Operand.tmp 70) (Operand.tmp 73) (Operand.const (Value.bool false)), type := 4, pos := "law.go:118", after := #[{ on := 1, ground := Ground.data }, { on := 4, ground := Ground.data }], guard := none }) (v := ?vhga5) rfl (by kernel_rfl) (by kernel_rfl) (by kernel_rfl) (fun _ _ _ h => h) (Or.inl ⟨by rfl, ?hyhga5⟩) (by assumption) ?resthga5
        case hyhga5 => (intro w hSw; (try dsimp only at hSw); first | (go_simp; done) | (go_simp; with_reducible rfl))
        try simp only [Act.put, List.setIfInBounds_toArray, List.set_cons_zero, List.set_cons_succ]
        refine wpAnyH_take (i := 6) (oi := { dst := some 75, op := Op.move (Operand.tmp 74), type := 4, pos := "law.go:118", after := #[{ on := 5, ground := Ground.data }, { on := 1, ground := Ground.chain }], guard := none }) (v := ?vhga6) rfl (by kernel_rfl) (by kernel_rfl) (by kernel_rfl) (fun _ _ _ h => h) (Or.inl ⟨by rfl, ?hyhga6⟩) (by assumption) ?resthga6
        case hyhga6 => (intro w hSw; (try dsimp only at hSw); first | (go_simp; done) | (go_simp; with_reducible rfl))
        try simp only [Act.put, List.setIfInBounds_toArray, List.set_cons_zero, List.set_cons_succ]
        refine wpAnyH_take (i := 7) (oi := { dst := some 76, op := Op.move (Operand.tmp 12), type := 4, pos := "law.go:118", after := #[{ on := 6, ground := Ground.guard }], guard := some (6, true) }) (v := ?vhga7) rfl (by kernel_rfl) (by kernel_rfl) (by kernel_rfl) (fun _ _ _ h => h) (Or.inl ⟨by rfl, ?hyhga7⟩) (by assumption) ?resthga7
        case hyhga7 => (intro w hSw; (try dsimp only at hSw); first | (go_simp; done) | (go_simp; with_reducible rfl))
        try simp only [Act.put, List.setIfInBounds_toArray, List.set_cons_zero, List.set_cons_succ]
        refine wpAnyH_take (i := 8) (oi := { dst := some 77, op := Op.move (Operand.tmp 14), type := 4, pos := "law.go:118", after := #[{ on := 6, ground := Ground.guard }], guard := some (6, true) }) (v := ?vhga8) rfl (by kernel_rfl) (by kernel_rfl) (by kernel_rfl) (fun _ _ _ h => h) (Or.inl ⟨by rfl, ?hyhga8⟩) (by assumption) ?resthga8
        case hyhga8 => (intro w hSw; (try dsimp only at hSw); first | (go_simp; done) | (go_simp; with_reducible rfl))
        try simp only [Act.put, List.setIfInBounds_toArray, List.set_cons_zero, List.set_cons_succ]
        refine wpAnyH_take (i := 9) (oi := { dst := some 78, op := Op.binOp BinOp.eql 4 (Operand.tmp 76) (Operand.tmp 77) 4, type := 4, pos := "law.go:118", after := #[{ on := 7, ground := Ground.data }, { on := 8, ground := Ground.data }, { on := 6, ground := Ground.guard }], guard := some (6, true) }) (v := ?vhga9) rfl (by kernel_rfl) (by kernel_rfl) (by kernel_rfl) (fun _ _ _ h => h) (Or.inl ⟨by rfl, ?hyhga9⟩) (by assumption) ?resthga9
        case hyhga9 => (intro w hSw; (try dsimp only at hSw); first | (go_simp; done) | (go_simp; with_reducible rfl))
        try simp only [Act.put, List.setIfInBounds_toArray, List.set_cons_zero, List.set_cons_succ]
        refine wpAnyH_take (i := 10) (oi := { dst := some 79, op := Op.pick (Operand.tmp 75) (Operand.tmp 78) (Operand.const (Value.bool false)), type := 4, pos := "law.go:118", after := #[{ on := 6, ground := Ground.data }, { on := 9, ground := Ground.data }], guard := none }) (v := ?vhga10) rfl (by kernel_rfl) (by kernel_rfl) (by kernel_rfl) (fun _ _ _ h => h) (Or.inl ⟨by rfl, ?hyhga10⟩) (by assumption) ?resthga10
        case hyhga10 => (intro w hSw; (try dsimp only at hSw); first | (go_simp; done) | (go_simp; with_reducible rfl))
        try simp only [Act.put, List.setIfInBounds_toArray, List.set_cons_zero, List.set_cons_succ]
        refine wpAnyH_take (i := 11) (oi := { dst := some 80, op := Op.move (Operand.tmp 79), type := 4, pos := "law.go:118", after := #[{ on := 10, ground := Ground.data }, { on := 6, ground := Ground.chain }], guard := none }) (v := ?vhga11) rfl (by kernel_rfl) (by kernel_rfl) (by kernel_rfl) (fun _ _ _ h => h) (Or.inl ⟨by rfl, ?hyhga11⟩) (by assumption) ?resthga11
        case hyhga11 => (intro w hSw; (try dsimp only at hSw); first | (go_simp; done) | (go_simp; with_reducible rfl))
        try simp only [Act.put, List.setIfInBounds_toArray, List.set_cons_zero, List.set_cons_succ]
        refine wpAnyH_take (i := 12) (oi := { dst := some 81, op := Op.move (Operand.tmp 1), type := 3, pos := "law.go:118", after := #[{ on := 11, ground := Ground.guard }], guard := some (11, true) }) (v := ?vhga12) rfl (by kernel_rfl) (by kernel_rfl) (by kernel_rfl) (fun _ _ _ h => h) (Or.inl ⟨by rfl, ?hyhga12⟩) (by assumption) ?resthga12
        case hyhga12 => (intro w hSw; (try dsimp only at hSw); first | (go_simp; done) | (go_simp; with_reducible rfl))
        try simp only [Act.put, List.setIfInBounds_toArray, List.set_cons_zero, List.set_cons_succ]
        refine wpAnyH_take (i := 14) (oi := { dst := some 83, op := Op.move (Operand.tmp 1), type := 3, pos := "law.go:118", after := #[{ on := 11, ground := Ground.guard }], guard := some (11, true) }) (v := ?vhga14) rfl (by kernel_rfl) (by kernel_rfl) (by kernel_rfl) (fun _ _ _ h => h) (Or.inl ⟨by rfl, ?hyhga14⟩) (by assumption) ?resthga14
        case hyhga14 => (intro w hSw; (try dsimp only at hSw); first | (go_simp; done) | (go_simp; with_reducible rfl))
        try simp only [Act.put, List.setIfInBounds_toArray, List.set_cons_zero, List.set_cons_succ]
        refine wpAnyH_ready (rs := [13]) (by kernel_rfl) (by simp) (AllReadyH.cons (o := { dst := some 82, op := Op.call { callee := Callee.value (Operand.func 16), args := #[Operand.tmp 81], argTypes := #[3] }, type := 23, pos := "law.go:118", after := #[{ on := 12, ground := Ground.data }, { on := 11, ground := Ground.chain }, { on := 11, ground := Ground.guard }], guard := some (11, true) }) rfl (fun K hK => ?stephgac13) AllReadyH.nil)
        go_simp
        go_at_call 16
        refine (HH1.out _ hHeld).mono ?_
        rintro e w9 ⟨rfl, hS9⟩
        try dsimp only
        refine hK.out _ _ hS9 (fun hHeld => ?_)
        clear hK K
        try simp only [Act.put, List.setIfInBounds_toArray, List.set_cons_zero, List.set_cons_succ]
        refine wpAnyH_ready (rs := [15]) (by kernel_rfl) (by simp) (AllReadyH.cons (o := { dst := some 84, op := Op.call { callee := Callee.value (Operand.func 17), args := #[Operand.tmp 83], argTypes := #[3] }, type := 23, pos := "law.go:118", after := #[{ on := 14, ground := Ground.data }, { on := 13, ground := Ground.chain }, { on := 11, ground := Ground.guard }], guard := some (11, true) }) rfl (fun K hK => ?stephgac15) AllReadyH.nil)
        go_simp
        go_at_call 17
        refine (HH2.out _ hHeld).mono ?_
        rintro e w10 ⟨rfl, hS10⟩
        try dsimp only
        refine hK.out _ _ hS10 (fun hHeld => ?_)
        clear hK K
        try simp only [Act.put, List.setIfInBounds_toArray, List.set_cons_zero, List.set_cons_succ]
        refine wpAnyH_take (i := 16) (oi := { dst := some 85, op := Op.binOp BinOp.eql 23 (Operand.tmp 82) (Operand.tmp 84) 23, type := 4, pos := "law.go:118", after := #[{ on := 13, ground := Ground.data }, { on := 15, ground := Ground.data }, { on := 11, ground := Ground.guard }], guard := some (11, true) }) (v := ?vhga16) rfl (by kernel_rfl) (by kernel_rfl) (by kernel_rfl) (fun _ _ _ h => h) (Or.inl ⟨by rfl, ?hyhga16⟩) (by assumption) ?resthga16
        case hyhga16 => (intro w hSw; (try dsimp only at hSw); first | (go_simp; done) | (go_simp; with_reducible rfl))
        try simp only [Act.put, List.setIfInBounds_toArray, List.set_cons_zero, List.set_cons_succ]
        refine wpAnyH_take (i := 17) (oi := { dst := some 86, op := Op.pick (Operand.tmp 80) (Operand.tmp 85) (Operand.const (Value.bool false)), type := 4, pos := "law.go:118", after := #[{ on := 11, ground := Ground.data }, { on := 16, ground := Ground.data }], guard := none }) (v := ?vhga17) rfl (by kernel_rfl) (by kernel_rfl) (by kernel_rfl) (fun _ _ _ h => h) (Or.inl ⟨by rfl, ?hyhga17⟩) (by assumption) ?resthga17
        case hyhga17 => (intro w hSw; (try dsimp only at hSw); first | (go_simp; done) | (go_simp; with_reducible rfl))
        try simp only [Act.put, List.setIfInBounds_toArray, List.set_cons_zero, List.set_cons_succ]
        refine wpAnyH_take (i := 18) (oi := { dst := some 87, op := Op.move (Operand.tmp 86), type := 4, pos := "law.go:118", after := #[{ on := 17, ground := Ground.data }, { on := 15, ground := Ground.chain }], guard := none }) (v := ?vhga18) rfl (by kernel_rfl) (by kernel_rfl) (by kernel_rfl) (fun _ _ _ h => h) (Or.inl ⟨by rfl, ?hyhga18⟩) (by assumption) ?resthga18
        case hyhga18 => (intro w hSw; (try dsimp only at hSw); first | (go_simp; done) | (go_simp; with_reducible rfl))
        try simp only [Act.put, List.setIfInBounds_toArray, List.set_cons_zero, List.set_cons_succ]
        refine wpAnyH_take (i := 19) (oi := { dst := some 88, op := Op.move (Operand.tmp 8), type := 28, pos := "law.go:118", after := #[{ on := 18, ground := Ground.guard }], guard := some (18, true) }) (v := ?vhga19) rfl (by kernel_rfl) (by kernel_rfl) (by kernel_rfl) (fun _ _ _ h => h) (Or.inl ⟨by rfl, ?hyhga19⟩) (by assumption) ?resthga19
        case hyhga19 => (intro w hSw; (try dsimp only at hSw); first | (go_simp; done) | (go_simp; with_reducible rfl))
        try simp only [Act.put, List.setIfInBounds_toArray, List.set_cons_zero, List.set_cons_succ]
        refine wpAnyH_take (i := 20) (oi := { dst := some 89, op := Op.move (Operand.tmp 1), type := 3, pos := "law.go:118", after := #[{ on := 18, ground := Ground.guard }], guard := some (18, true) }) (v := ?vhga20) rfl (by kernel_rfl) (by kernel_rfl) (by kernel_rfl) (fun _ _ _ h => h) (Or.inl ⟨by rfl, ?hyhga20⟩) (by assumption) ?resthga20
        case hyhga20 => (intro w hSw; (try dsimp only at hSw); first | (go_simp; done) | (go_simp; with_reducible rfl))
        try simp only [Act.put, List.setIfInBounds_toArray, List.set_cons_zero, List.set_cons_succ]
        refine wpAnyH_take (i := 22) (oi := { dst := some 91, op := Op.load 42 (Operand.tmp 15), type := 42, pos := "law.go:118", after := #[{ on := 18, ground := Ground.guard }], guard := some (18, true) }) (v := ?vhga22) rfl (by kernel_rfl) (by kernel_rfl) (by kernel_rfl) (fun _ _ _ h => h) (Or.inl ⟨by rfl, ?hyhga22⟩) (by assumption) ?resthga22
        case hyhga22 => (intro w hSw; (try dsimp only at hSw); first | (go_simp; done) | (go_simp; with_reducible rfl))
        try simp only [Act.put, List.setIfInBounds_toArray, List.set_cons_zero, List.set_cons_succ]
        refine wpAnyH_ready (rs := [21]) (by kernel_rfl) (by simp) (AllReadyH.cons (o := { dst := some 90, op := Op.call { callee := Callee.value (Operand.func 18), args := #[Operand.tmp 88, Operand.tmp 89], argTypes := #[28, 3] }, type := 42, pos := "law.go:118", after := #[{ on := 19, ground := Ground.data }, { on := 20, ground := Ground.data }, { on := 18, ground := Ground.chain }, { on := 18, ground := Ground.guard }], guard := some (18, true) }) rfl (fun K hK => ?stephgac21) AllReadyH.nil)
        go_simp
        go_at_call 18
        refine (HDD.out _ hHeld).mono ?_
        rintro e w11 ⟨rfl, hS11⟩
        try dsimp only
        refine hK.out _ _ hS11 (fun hHeld => ?_)
        clear hK K
        try simp only [Act.put, List.setIfInBounds_toArray, List.set_cons_zero, List.set_cons_succ]
        refine wpAnyH_take (i := 23) (oi := { dst := some 92, op := Op.binOp BinOp.eql 42 (Operand.tmp 90) (Operand.tmp 91) 42, type := 4, pos := "law.go:118", after := #[{ on := 21, ground := Ground.data }, { on := 22, ground := Ground.data }, { on := 18, ground := Ground.guard }], guard := some (18, true) }) (v := ?vhga23) rfl (by kernel_rfl) (by kernel_rfl) (by kernel_rfl) (fun _ _ _ h => h) (Or.inl ⟨by rfl, ?hyhga23⟩) (by assumption) ?resthga23
        case hyhga23 => (intro w hSw; (try dsimp only at hSw); first | (go_simp; done) | (go_simp; with_reducible rfl))
        try simp only [Act.put, List.setIfInBounds_toArray, List.set_cons_zero, List.set_cons_succ]
        refine wpAnyH_take (i := 24) (oi := { dst := some 93, op := Op.pick (Operand.tmp 87) (Operand.tmp 92) (Operand.const (Value.bool false)), type := 4, pos := "law.go:118", after := #[{ on := 18, ground := Ground.data }, { on := 23, ground := Ground.data }], guard := none }) (v := ?vhga24) rfl (by kernel_rfl) (by kernel_rfl) (by kernel_rfl) (fun _ _ _ h => h) (Or.inl ⟨by rfl, ?hyhga24⟩) (by assumption) ?resthga24
        case hyhga24 => (intro w hSw; (try dsimp only at hSw); first | (go_simp; done) | (go_simp; with_reducible rfl))
        try simp only [Act.put, List.setIfInBounds_toArray, List.set_cons_zero, List.set_cons_succ]
        refine wpAnyH_take (i := 25) (oi := { dst := some 6, op := Op.assign (Operand.tmp 93), type := 4, pos := "law.go:118", after := #[{ on := 24, ground := Ground.data }, { on := 21, ground := Ground.chain }, { on := 0, ground := Ground.phase }, { on := 1, ground := Ground.phase }, { on := 2, ground := Ground.phase }, { on := 3, ground := Ground.phase }, { on := 4, ground := Ground.phase }, { on := 5, ground := Ground.phase }, { on := 6, ground := Ground.phase }, { on := 7, ground := Ground.phase }, { on := 8, ground := Ground.phase }, { on := 9, ground := Ground.phase }, { on := 10, ground := Ground.phase }, { on := 11, ground := Ground.phase }, { on := 12, ground := Ground.phase }, { on := 13, ground := Ground.phase }, { on := 14, ground := Ground.phase }, { on := 15, ground := Ground.phase }, { on := 16, ground := Ground.phase }, { on := 17, ground := Ground.phase }, { on := 18, ground := Ground.phase }, { on := 19, ground := Ground.phase }, { on := 20, ground := Ground.phase }, { on := 21, ground := Ground.phase }, { on := 22, ground := Ground.phase }, { on := 23, ground := Ground.phase }, { on := 24, ground := Ground.phase }], guard := none }) (v := ?vhga25) rfl (by kernel_rfl) (by kernel_rfl) (by kernel_rfl) (fun _ _ _ h => h) (Or.inl ⟨by rfl, ?hyhga25⟩) (by assumption) ?resthga25
        case hyhga25 => (intro w hSw; (try dsimp only at hSw); first | (go_simp; done) | (go_simp; with_reducible rfl))
        try simp only [Act.put, List.setIfInBounds_toArray, List.set_cons_zero, List.set_cons_succ]
        refine wpAnyH_done (by kernel_rfl) ?_ _
        have HB11 : Aside0 (Below X.heap.size X w11) := ⟨HB7.out.trans (hS11.2.mono HB7.out.size)⟩
        go_wp2_with fail
        go_ret
        exact ⟨rfl, HB11.out⟩
        -- ENDA
      · have hdf := defF_out ds i hin
        have HDF := Aside0.mk hdf
        have hcond : (decide (i ≥ 0) = false) ∨ (decide (i ≥ 0) = true ∧ decide (i < (ds.length : Int)) = false) := by
          by_cases h : 0 ≤ i
          · exact .inr ⟨decide_eq_true h, decide_eq_false (fun h2 => hin ⟨h, h2⟩)⟩
          · exact .inl (decide_eq_false h)
        clear hin hdf
        rcases hcond with hge | ⟨hge, hlt⟩
        · go_wp2_with fail
          obtain ⟨q0, q1, q2, q3, e0, e1, e2, e3⟩ : ∃ (q0 : ByteArray) (q1 q2 q3 : Int), (⟨#[]⟩ : ByteArray) = q0 ∧ (0 : Int) = q1 ∧ (0 : Int) = q2 ∧ (0 : Int) = q3 := ⟨_, _, _, _, rfl, rfl, rfl, rfl⟩
          have hWL : w6.alloc (.cells #[.string ⟨#[]⟩, .int .i64 0, .int .i64 0, .int .i64 0] 42) = w6.alloc (.cells #[.string q0, .int .i64 q1, .int .i64 q2, .int .i64 q3] 42) := by rw [← e0, ← e1, ← e2, ← e3]
          rw [hWL]
          have HDF2 : Aside0 (defF (ds.map newS) i = ⟨q0, q1, q2, q3⟩) := ⟨by rw [← e0, ← e1, ← e2, ← e3]; exact HDF.out⟩
          clear hWL e0 e1 e2 e3
          have HDD : Aside0 (∀ w, Below (w6.alloc (.cells #[.string q0, .int .i64 q1, .int .i64 q2, .int .i64 q3] 42)).heap.size (w6.alloc (.cells #[.string q0, .int .i64 q1, .int .i64 q2, .int .i64 q3] 42)) w → Calls Try.prog 18 #[.pointer (some ⟨t, 0, none⟩), .int .i64 i] w fun e X' => e = .returned (.agg #[.string q0, .int .i64 q1, .int .i64 q2, .int .i64 q3]) ∧ Below w.heap.size w X') := ⟨fun w hb => lm_def w _ _ t X.heap.size _ _ i (((HM6.out.below (below_alloc (Below.refl w6.heap.size w6) _))).below hb) ⟨q0, q1, q2, q3⟩ HDF2.out⟩
          have HCW0 : Aside0 (∀ w, Below (w6.alloc (.cells #[.string q0, .int .i64 q1, .int .i64 q2, .int .i64 q3] 42)).heap.size (w6.alloc (.cells #[.string q0, .int .i64 q1, .int .i64 q2, .int .i64 q3] 42)) w → w.cell? ⟨w6.heap.size, 0, none⟩ = some (.string q0) ∧ w.cell? ⟨w6.heap.size, 1, none⟩ = some (.int .i64 q1) ∧ w.cell? ⟨w6.heap.size, 2, none⟩ = some (.int .i64 q2) ∧ w.cell? ⟨w6.heap.size, 3, none⟩ = some (.int .i64 q3)) := ⟨fun w hb => by
            have h := (hb.block w6.heap.size (by simp)).trans (heap_alloc_new w6 _)
            exact ⟨by simp [World.cell?, h], by simp [World.cell?, h], by simp [World.cell?, h], by simp [World.cell?, h]⟩⟩
          have HM7 := Aside0.mk (HM6.out.below (below_alloc (Below.refl w6.heap.size w6) (.cells #[.string q0, .int .i64 q1, .int .i64 q2, .int .i64 q3] 42)))
          have HB7 := Aside0.mk (below_alloc HB6.out (.cells #[.string q0, .int .i64 q1, .int .i64 q2, .int .i64 q3] 42))
          obtain ⟨W7, hW7⟩ : ∃ W7, w6.alloc (.cells #[.string q0, .int .i64 q1, .int .i64 q2, .int .i64 q3] 42) = W7 := ⟨_, rfl⟩
          rw [hW7] at HCW0 HM7 HB7 HDD ⊢
          have hcur : Below W7.heap.size W7 W7.drew := below_drew (Below.refl _ _)
          obtain ⟨u0, u1, u2, u3⟩ := HCW0.out _ hcur
          have heq : ∀ w : World, (Op.equalIn 10000 42 (.agg #[.string q0, .int .i64 q1, .int .i64 q2, .int .i64 q3]) (.agg #[.string q0, .int .i64 q1, .int .i64 q2, .int .i64 q3])).run Try.prog w = .ok true w := fun w => eq_def q0 q1 q2 q3 w
          have HAL : Aside0 (∀ w, ((w.cell? ⟨w6.heap.size, 0, none⟩ = some (.string q0) ∧ w.cell? ⟨w6.heap.size, 1, none⟩ = some (.int .i64 q1) ∧ w.cell? ⟨w6.heap.size, 2, none⟩ = some (.int .i64 q2) ∧ w.cell? ⟨w6.heap.size, 3, none⟩ = some (.int .i64 q3)) ∧ Below W7.heap.size W7 w) → Calls Try.prog 11 #[] w fun e w' => e = .returned (.bool true) ∧ ((w'.cell? ⟨w6.heap.size, 0, none⟩ = some (.string q0) ∧ w'.cell? ⟨w6.heap.size, 1, none⟩ = some (.int .i64 q1) ∧ w'.cell? ⟨w6.heap.size, 2, none⟩ = some (.int .i64 q2) ∧ w'.cell? ⟨w6.heap.size, 3, none⟩ = some (.int .i64 q3)) ∧ Below W7.heap.size W7 w')) := ⟨fun w h => (alive_c w).mono fun e w' ⟨h1, h2⟩ => ⟨h1, HCW0.out _ (below_then h.2 h.2.size h2), below_then h.2 h.2.size h2⟩⟩
          have HH1 : Aside0 (∀ w, ((w.cell? ⟨w6.heap.size, 0, none⟩ = some (.string q0) ∧ w.cell? ⟨w6.heap.size, 1, none⟩ = some (.int .i64 q1) ∧ w.cell? ⟨w6.heap.size, 2, none⟩ = some (.int .i64 q2) ∧ w.cell? ⟨w6.heap.size, 3, none⟩ = some (.int .i64 q3)) ∧ Below W7.heap.size W7 w) → Calls Try.prog 16 #[.int .i64 i] w fun e w' => e = .returned (.int .u64 z) ∧ ((w'.cell? ⟨w6.heap.size, 0, none⟩ = some (.string q0) ∧ w'.cell? ⟨w6.heap.size, 1, none⟩ = some (.int .i64 q1) ∧ w'.cell? ⟨w6.heap.size, 2, none⟩ = some (.int .i64 q2) ∧ w'.cell? ⟨w6.heap.size, 3, none⟩ = some (.int .i64 q3)) ∧ Below W7.heap.size W7 w')) := ⟨fun w h => (HH1.out w).mono fun e w' ⟨h1, k, h2⟩ => ⟨h1, by rw [h2]; exact ⟨HCW0.out _ (below_then h.2 h.2.size (pw_below_drewN (Below.refl _ _) k)), below_then h.2 h.2.size (pw_below_drewN (Below.refl _ _) k)⟩⟩⟩
          have HH2 : Aside0 (∀ w, ((w.cell? ⟨w6.heap.size, 0, none⟩ = some (.string q0) ∧ w.cell? ⟨w6.heap.size, 1, none⟩ = some (.int .i64 q1) ∧ w.cell? ⟨w6.heap.size, 2, none⟩ = some (.int .i64 q2) ∧ w.cell? ⟨w6.heap.size, 3, none⟩ = some (.int .i64 q3)) ∧ Below W7.heap.size W7 w) → Calls Try.prog 17 #[.int .i64 i] w fun e w' => e = .returned (.int .u64 z) ∧ ((w'.cell? ⟨w6.heap.size, 0, none⟩ = some (.string q0) ∧ w'.cell? ⟨w6.heap.size, 1, none⟩ = some (.int .i64 q1) ∧ w'.cell? ⟨w6.heap.size, 2, none⟩ = some (.int .i64 q2) ∧ w'.cell? ⟨w6.heap.size, 3, none⟩ = some (.int .i64 q3)) ∧ Below W7.heap.size W7 w')) := ⟨fun w h => (HH2.out w).mono fun e w' ⟨h1, k, h2⟩ => ⟨h1, by rw [h2]; exact ⟨HCW0.out _ (below_then h.2 h.2.size (pw_below_drewN (Below.refl _ _) k)), below_then h.2 h.2.size (pw_below_drewN (Below.refl _ _) k)⟩⟩⟩
          have HDD : Aside0 (∀ w, ((w.cell? ⟨w6.heap.size, 0, none⟩ = some (.string q0) ∧ w.cell? ⟨w6.heap.size, 1, none⟩ = some (.int .i64 q1) ∧ w.cell? ⟨w6.heap.size, 2, none⟩ = some (.int .i64 q2) ∧ w.cell? ⟨w6.heap.size, 3, none⟩ = some (.int .i64 q3)) ∧ Below W7.heap.size W7 w) → Calls Try.prog 18 #[.pointer (some ⟨t, 0, none⟩), .int .i64 i] w fun e w' => e = .returned (.agg #[.string q0, .int .i64 q1, .int .i64 q2, .int .i64 q3]) ∧ ((w'.cell? ⟨w6.heap.size, 0, none⟩ = some (.string q0) ∧ w'.cell? ⟨w6.heap.size, 1, none⟩ = some (.int .i64 q1) ∧ w'.cell? ⟨w6.heap.size, 2, none⟩ = some (.int .i64 q2) ∧ w'.cell? ⟨w6.heap.size, 3, none⟩ = some (.int .i64 q3)) ∧ Below W7.heap.size W7 w')) := ⟨fun w h => (HDD.out w h.2).mono fun e w' ⟨h1, h2⟩ => ⟨h1, HCW0.out _ (below_then h.2 h.2.size h2), below_then h.2 h.2.size h2⟩⟩
          clear hW7
          -- ARMB
          refine wp_region_held_drew (S := (fun w' => (w'.cell? ⟨w6.heap.size, 0, none⟩ = some (.string q0) ∧ w'.cell? ⟨w6.heap.size, 1, none⟩ = some (.int .i64 q1) ∧ w'.cell? ⟨w6.heap.size, 2, none⟩ = some (.int .i64 q2) ∧ w'.cell? ⟨w6.heap.size, 3, none⟩ = some (.int .i64 q3)) ∧ Below W7.heap.size W7 w')) (by kernel_rfl) ⟨⟨u0, u1, u2, u3⟩, hcur⟩ (fun hHeld => ?_)
          refine wpAnyH_ready (rs := [0]) (by kernel_rfl) (by simp) (AllReadyH.cons (o := { dst := some 69, op := Op.call { callee := Callee.value (Operand.func 11), args := #[], argTypes := #[] }, type := 4, pos := "law.go:118", after := #[], guard := none }) rfl (fun K hK => ?stephgbc0) AllReadyH.nil)
          go_simp
          go_at_call 11
          refine (HAL.out _ hHeld).mono ?_
          rintro e w8 ⟨rfl, hS8⟩
          try dsimp only
          refine hK.out _ _ hS8 (fun hHeld => ?_)
          clear hK K
          try simp only [Act.put, List.setIfInBounds_toArray, List.set_cons_zero, List.set_cons_succ]
          refine wpAnyH_take (i := 1) (oi := { dst := some 70, op := Op.move (Operand.tmp 69), type := 4, pos := "law.go:118", after := #[{ on := 0, ground := Ground.data }, { on := 0, ground := Ground.chain }], guard := none }) (v := ?vhgb1) rfl (by kernel_rfl) (by kernel_rfl) (by kernel_rfl) (fun _ _ _ h => h) (Or.inl ⟨by rfl, ?hyhgb1⟩) (by assumption) ?resthgb1
          case hyhgb1 => (intro w hSw; (try dsimp only at hSw); first | (go_simp; done) | (go_simp; with_reducible rfl))
          try simp only [Act.put, List.setIfInBounds_toArray, List.set_cons_zero, List.set_cons_succ]
          refine wpAnyH_take (i := 2) (oi := { dst := some 71, op := Op.move (Operand.tmp 11), type := 3, pos := "law.go:118", after := #[{ on := 1, ground := Ground.guard }], guard := some (1, true) }) (v := ?vhgb2) rfl (by kernel_rfl) (by kernel_rfl) (by kernel_rfl) (fun _ _ _ h => h) (Or.inl ⟨by rfl, ?hyhgb2⟩) (by assumption) ?resthgb2
          case hyhgb2 => (intro w hSw; (try dsimp only at hSw); first | (go_simp; done) | (go_simp; with_reducible rfl))
          try simp only [Act.put, List.setIfInBounds_toArray, List.set_cons_zero, List.set_cons_succ]
          refine wpAnyH_take (i := 3) (oi := { dst := some 72, op := Op.move (Operand.tmp 13), type := 3, pos := "law.go:118", after := #[{ on := 1, ground := Ground.guard }], guard := some (1, true) }) (v := ?vhgb3) rfl (by kernel_rfl) (by kernel_rfl) (by kernel_rfl) (fun _ _ _ h => h) (Or.inl ⟨by rfl, ?hyhgb3⟩) (by assumption) ?resthgb3
          case hyhgb3 => (intro w hSw; (try dsimp only at hSw); first | (go_simp; done) | (go_simp; with_reducible rfl))
          try simp only [Act.put, List.setIfInBounds_toArray, List.set_cons_zero, List.set_cons_succ]
          refine wpAnyH_take (i := 4) (oi := { dst := some 73, op := Op.binOp BinOp.eql 3 (Operand.tmp 71) (Operand.tmp 72) 3, type := 4, pos := "law.go:118", after := #[{ on := 2, ground := Ground.data }, { on := 3, ground := Ground.data }, { on := 1, ground := Ground.guard }], guard := some (1, true) }) (v := ?vhgb4) rfl (by kernel_rfl) (by kernel_rfl) (by kernel_rfl) (fun _ _ _ h => h) (Or.inl ⟨by rfl, ?hyhgb4⟩) (by assumption) ?resthgb4
          case hyhgb4 => (intro w hSw; (try dsimp only at hSw); first | (go_simp; done) | (go_simp; with_reducible rfl))
          try simp only [Act.put, List.setIfInBounds_toArray, List.set_cons_zero, List.set_cons_succ]
          refine wpAnyH_take (i := 5) (oi := { dst := some 74, op := Op.pick (Operand.tmp 70) (Operand.tmp 73) (Operand.const (Value.bool false)), type := 4, pos := "law.go:118", after := #[{ on := 1, ground := Ground.data }, { on := 4, ground := Ground.data }], guard := none }) (v := ?vhgb5) rfl (by kernel_rfl) (by kernel_rfl) (by kernel_rfl) (fun _ _ _ h => h) (Or.inl ⟨by rfl, ?hyhgb5⟩) (by assumption) ?resthgb5
          case hyhgb5 => (intro w hSw; (try dsimp only at hSw); first | (go_simp; done) | (go_simp; with_reducible rfl))
          try simp only [Act.put, List.setIfInBounds_toArray, List.set_cons_zero, List.set_cons_succ]
          refine wpAnyH_take (i := 6) (oi := { dst := some 75, op := Op.move (Operand.tmp 74), type := 4, pos := "law.go:118", after := #[{ on := 5, ground := Ground.data }, { on := 1, ground := Ground.chain }], guard := none }) (v := ?vhgb6) rfl (by kernel_rfl) (by kernel_rfl) (by kernel_rfl) (fun _ _ _ h => h) (Or.inl ⟨by rfl, ?hyhgb6⟩) (by assumption) ?resthgb6
          case hyhgb6 => (intro w hSw; (try dsimp only at hSw); first | (go_simp; done) | (go_simp; with_reducible rfl))
          try simp only [Act.put, List.setIfInBounds_toArray, List.set_cons_zero, List.set_cons_succ]
          refine wpAnyH_take (i := 7) (oi := { dst := some 76, op := Op.move (Operand.tmp 12), type := 4, pos := "law.go:118", after := #[{ on := 6, ground := Ground.guard }], guard := some (6, true) }) (v := ?vhgb7) rfl (by kernel_rfl) (by kernel_rfl) (by kernel_rfl) (fun _ _ _ h => h) (Or.inl ⟨by rfl, ?hyhgb7⟩) (by assumption) ?resthgb7
          case hyhgb7 => (intro w hSw; (try dsimp only at hSw); first | (go_simp; done) | (go_simp; with_reducible rfl))
          try simp only [Act.put, List.setIfInBounds_toArray, List.set_cons_zero, List.set_cons_succ]
          refine wpAnyH_take (i := 8) (oi := { dst := some 77, op := Op.move (Operand.tmp 14), type := 4, pos := "law.go:118", after := #[{ on := 6, ground := Ground.guard }], guard := some (6, true) }) (v := ?vhgb8) rfl (by kernel_rfl) (by kernel_rfl) (by kernel_rfl) (fun _ _ _ h => h) (Or.inl ⟨by rfl, ?hyhgb8⟩) (by assumption) ?resthgb8
          case hyhgb8 => (intro w hSw; (try dsimp only at hSw); first | (go_simp; done) | (go_simp; with_reducible rfl))
          try simp only [Act.put, List.setIfInBounds_toArray, List.set_cons_zero, List.set_cons_succ]
          refine wpAnyH_take (i := 9) (oi := { dst := some 78, op := Op.binOp BinOp.eql 4 (Operand.tmp 76) (Operand.tmp 77) 4, type := 4, pos := "law.go:118", after := #[{ on := 7, ground := Ground.data }, { on := 8, ground := Ground.data }, { on := 6, ground := Ground.guard }], guard := some (6, true) }) (v := ?vhgb9) rfl (by kernel_rfl) (by kernel_rfl) (by kernel_rfl) (fun _ _ _ h => h) (Or.inl ⟨by rfl, ?hyhgb9⟩) (by assumption) ?resthgb9
          case hyhgb9 => (intro w hSw; (try dsimp only at hSw); first | (go_simp; done) | (go_simp; with_reducible rfl))
          try simp only [Act.put, List.setIfInBounds_toArray, List.set_cons_zero, List.set_cons_succ]
          refine wpAnyH_take (i := 10) (oi := { dst := some 79, op := Op.pick (Operand.tmp 75) (Operand.tmp 78) (Operand.const (Value.bool false)), type := 4, pos := "law.go:118", after := #[{ on := 6, ground := Ground.data }, { on := 9, ground := Ground.data }], guard := none }) (v := ?vhgb10) rfl (by kernel_rfl) (by kernel_rfl) (by kernel_rfl) (fun _ _ _ h => h) (Or.inl ⟨by rfl, ?hyhgb10⟩) (by assumption) ?resthgb10
          case hyhgb10 => (intro w hSw; (try dsimp only at hSw); first | (go_simp; done) | (go_simp; with_reducible rfl))
          try simp only [Act.put, List.setIfInBounds_toArray, List.set_cons_zero, List.set_cons_succ]
          refine wpAnyH_take (i := 11) (oi := { dst := some 80, op := Op.move (Operand.tmp 79), type := 4, pos := "law.go:118", after := #[{ on := 10, ground := Ground.data }, { on := 6, ground := Ground.chain }], guard := none }) (v := ?vhgb11) rfl (by kernel_rfl) (by kernel_rfl) (by kernel_rfl) (fun _ _ _ h => h) (Or.inl ⟨by rfl, ?hyhgb11⟩) (by assumption) ?resthgb11
          case hyhgb11 => (intro w hSw; (try dsimp only at hSw); first | (go_simp; done) | (go_simp; with_reducible rfl))
          try simp only [Act.put, List.setIfInBounds_toArray, List.set_cons_zero, List.set_cons_succ]
          refine wpAnyH_take (i := 12) (oi := { dst := some 81, op := Op.move (Operand.tmp 1), type := 3, pos := "law.go:118", after := #[{ on := 11, ground := Ground.guard }], guard := some (11, true) }) (v := ?vhgb12) rfl (by kernel_rfl) (by kernel_rfl) (by kernel_rfl) (fun _ _ _ h => h) (Or.inl ⟨by rfl, ?hyhgb12⟩) (by assumption) ?resthgb12
          case hyhgb12 => (intro w hSw; (try dsimp only at hSw); first | (go_simp; done) | (go_simp; with_reducible rfl))
          try simp only [Act.put, List.setIfInBounds_toArray, List.set_cons_zero, List.set_cons_succ]
          refine wpAnyH_take (i := 14) (oi := { dst := some 83, op := Op.move (Operand.tmp 1), type := 3, pos := "law.go:118", after := #[{ on := 11, ground := Ground.guard }], guard := some (11, true) }) (v := ?vhgb14) rfl (by kernel_rfl) (by kernel_rfl) (by kernel_rfl) (fun _ _ _ h => h) (Or.inl ⟨by rfl, ?hyhgb14⟩) (by assumption) ?resthgb14
          case hyhgb14 => (intro w hSw; (try dsimp only at hSw); first | (go_simp; done) | (go_simp; with_reducible rfl))
          try simp only [Act.put, List.setIfInBounds_toArray, List.set_cons_zero, List.set_cons_succ]
          refine wpAnyH_ready (rs := [13]) (by kernel_rfl) (by simp) (AllReadyH.cons (o := { dst := some 82, op := Op.call { callee := Callee.value (Operand.func 16), args := #[Operand.tmp 81], argTypes := #[3] }, type := 23, pos := "law.go:118", after := #[{ on := 12, ground := Ground.data }, { on := 11, ground := Ground.chain }, { on := 11, ground := Ground.guard }], guard := some (11, true) }) rfl (fun K hK => ?stephgbc13) AllReadyH.nil)
          go_simp
          go_at_call 16
          refine (HH1.out _ hHeld).mono ?_
          rintro e w9 ⟨rfl, hS9⟩
          try dsimp only
          refine hK.out _ _ hS9 (fun hHeld => ?_)
          clear hK K
          try simp only [Act.put, List.setIfInBounds_toArray, List.set_cons_zero, List.set_cons_succ]
          refine wpAnyH_ready (rs := [15]) (by kernel_rfl) (by simp) (AllReadyH.cons (o := { dst := some 84, op := Op.call { callee := Callee.value (Operand.func 17), args := #[Operand.tmp 83], argTypes := #[3] }, type := 23, pos := "law.go:118", after := #[{ on := 14, ground := Ground.data }, { on := 13, ground := Ground.chain }, { on := 11, ground := Ground.guard }], guard := some (11, true) }) rfl (fun K hK => ?stephgbc15) AllReadyH.nil)
          go_simp
          go_at_call 17
          refine (HH2.out _ hHeld).mono ?_
          rintro e w10 ⟨rfl, hS10⟩
          try dsimp only
          refine hK.out _ _ hS10 (fun hHeld => ?_)
          clear hK K
          try simp only [Act.put, List.setIfInBounds_toArray, List.set_cons_zero, List.set_cons_succ]
          refine wpAnyH_take (i := 16) (oi := { dst := some 85, op := Op.binOp BinOp.eql 23 (Operand.tmp 82) (Operand.tmp 84) 23, type := 4, pos := "law.go:118", after := #[{ on := 13, ground := Ground.data }, { on := 15, ground := Ground.data }, { on := 11, ground := Ground.guard }], guard := some (11, true) }) (v := ?vhgb16) rfl (by kernel_rfl) (by kernel_rfl) (by kernel_rfl) (fun _ _ _ h => h) (Or.inl ⟨by rfl, ?hyhgb16⟩) (by assumption) ?resthgb16
          case hyhgb16 => (intro w hSw; (try dsimp only at hSw); first | (go_simp; done) | (go_simp; with_reducible rfl))
          try simp only [Act.put, List.setIfInBounds_toArray, List.set_cons_zero, List.set_cons_succ]
          refine wpAnyH_take (i := 17) (oi := { dst := some 86, op := Op.pick (Operand.tmp 80) (Operand.tmp 85) (Operand.const (Value.bool false)), type := 4, pos := "law.go:118", after := #[{ on := 11, ground := Ground.data }, { on := 16, ground := Ground.data }], guard := none }) (v := ?vhgb17) rfl (by kernel_rfl) (by kernel_rfl) (by kernel_rfl) (fun _ _ _ h => h) (Or.inl ⟨by rfl, ?hyhgb17⟩) (by assumption) ?resthgb17
          case hyhgb17 => (intro w hSw; (try dsimp only at hSw); first | (go_simp; done) | (go_simp; with_reducible rfl))
          try simp only [Act.put, List.setIfInBounds_toArray, List.set_cons_zero, List.set_cons_succ]
          refine wpAnyH_take (i := 18) (oi := { dst := some 87, op := Op.move (Operand.tmp 86), type := 4, pos := "law.go:118", after := #[{ on := 17, ground := Ground.data }, { on := 15, ground := Ground.chain }], guard := none }) (v := ?vhgb18) rfl (by kernel_rfl) (by kernel_rfl) (by kernel_rfl) (fun _ _ _ h => h) (Or.inl ⟨by rfl, ?hyhgb18⟩) (by assumption) ?resthgb18
          case hyhgb18 => (intro w hSw; (try dsimp only at hSw); first | (go_simp; done) | (go_simp; with_reducible rfl))
          try simp only [Act.put, List.setIfInBounds_toArray, List.set_cons_zero, List.set_cons_succ]
          refine wpAnyH_take (i := 19) (oi := { dst := some 88, op := Op.move (Operand.tmp 8), type := 28, pos := "law.go:118", after := #[{ on := 18, ground := Ground.guard }], guard := some (18, true) }) (v := ?vhgb19) rfl (by kernel_rfl) (by kernel_rfl) (by kernel_rfl) (fun _ _ _ h => h) (Or.inl ⟨by rfl, ?hyhgb19⟩) (by assumption) ?resthgb19
          case hyhgb19 => (intro w hSw; (try dsimp only at hSw); first | (go_simp; done) | (go_simp; with_reducible rfl))
          try simp only [Act.put, List.setIfInBounds_toArray, List.set_cons_zero, List.set_cons_succ]
          refine wpAnyH_take (i := 20) (oi := { dst := some 89, op := Op.move (Operand.tmp 1), type := 3, pos := "law.go:118", after := #[{ on := 18, ground := Ground.guard }], guard := some (18, true) }) (v := ?vhgb20) rfl (by kernel_rfl) (by kernel_rfl) (by kernel_rfl) (fun _ _ _ h => h) (Or.inl ⟨by rfl, ?hyhgb20⟩) (by assumption) ?resthgb20
          case hyhgb20 => (intro w hSw; (try dsimp only at hSw); first | (go_simp; done) | (go_simp; with_reducible rfl))
          try simp only [Act.put, List.setIfInBounds_toArray, List.set_cons_zero, List.set_cons_succ]
          refine wpAnyH_take (i := 22) (oi := { dst := some 91, op := Op.load 42 (Operand.tmp 15), type := 42, pos := "law.go:118", after := #[{ on := 18, ground := Ground.guard }], guard := some (18, true) }) (v := ?vhgb22) rfl (by kernel_rfl) (by kernel_rfl) (by kernel_rfl) (fun _ _ _ h => h) (Or.inl ⟨by rfl, ?hyhgb22⟩) (by assumption) ?resthgb22
          case hyhgb22 => (intro w hSw; (try dsimp only at hSw); first | (go_simp; done) | (go_simp; with_reducible rfl))
          try simp only [Act.put, List.setIfInBounds_toArray, List.set_cons_zero, List.set_cons_succ]
          refine wpAnyH_ready (rs := [21]) (by kernel_rfl) (by simp) (AllReadyH.cons (o := { dst := some 90, op := Op.call { callee := Callee.value (Operand.func 18), args := #[Operand.tmp 88, Operand.tmp 89], argTypes := #[28, 3] }, type := 42, pos := "law.go:118", after := #[{ on := 19, ground := Ground.data }, { on := 20, ground := Ground.data }, { on := 18, ground := Ground.chain }, { on := 18, ground := Ground.guard }], guard := some (18, true) }) rfl (fun K hK => ?stephgbc21) AllReadyH.nil)
          go_simp
          go_at_call 18
          refine (HDD.out _ hHeld).mono ?_
          rintro e w11 ⟨rfl, hS11⟩
          try dsimp only
          refine hK.out _ _ hS11 (fun hHeld => ?_)
          clear hK K
          try simp only [Act.put, List.setIfInBounds_toArray, List.set_cons_zero, List.set_cons_succ]
          refine wpAnyH_take (i := 23) (oi := { dst := some 92, op := Op.binOp BinOp.eql 42 (Operand.tmp 90) (Operand.tmp 91) 42, type := 4, pos := "law.go:118", after := #[{ on := 21, ground := Ground.data }, { on := 22, ground := Ground.data }, { on := 18, ground := Ground.guard }], guard := some (18, true) }) (v := ?vhgb23) rfl (by kernel_rfl) (by kernel_rfl) (by kernel_rfl) (fun _ _ _ h => h) (Or.inl ⟨by rfl, ?hyhgb23⟩) (by assumption) ?resthgb23
          case hyhgb23 => (intro w hSw; (try dsimp only at hSw); first | (go_simp; done) | (go_simp; with_reducible rfl))
          try simp only [Act.put, List.setIfInBounds_toArray, List.set_cons_zero, List.set_cons_succ]
          refine wpAnyH_take (i := 24) (oi := { dst := some 93, op := Op.pick (Operand.tmp 87) (Operand.tmp 92) (Operand.const (Value.bool false)), type := 4, pos := "law.go:118", after := #[{ on := 18, ground := Ground.data }, { on := 23, ground := Ground.data }], guard := none }) (v := ?vhgb24) rfl (by kernel_rfl) (by kernel_rfl) (by kernel_rfl) (fun _ _ _ h => h) (Or.inl ⟨by rfl, ?hyhgb24⟩) (by assumption) ?resthgb24
          case hyhgb24 => (intro w hSw; (try dsimp only at hSw); first | (go_simp; done) | (go_simp; with_reducible rfl))
          try simp only [Act.put, List.setIfInBounds_toArray, List.set_cons_zero, List.set_cons_succ]
          refine wpAnyH_take (i := 25) (oi := { dst := some 6, op := Op.assign (Operand.tmp 93), type := 4, pos := "law.go:118", after := #[{ on := 24, ground := Ground.data }, { on := 21, ground := Ground.chain }, { on := 0, ground := Ground.phase }, { on := 1, ground := Ground.phase }, { on := 2, ground := Ground.phase }, { on := 3, ground := Ground.phase }, { on := 4, ground := Ground.phase }, { on := 5, ground := Ground.phase }, { on := 6, ground := Ground.phase }, { on := 7, ground := Ground.phase }, { on := 8, ground := Ground.phase }, { on := 9, ground := Ground.phase }, { on := 10, ground := Ground.phase }, { on := 11, ground := Ground.phase }, { on := 12, ground := Ground.phase }, { on := 13, ground := Ground.phase }, { on := 14, ground := Ground.phase }, { on := 15, ground := Ground.phase }, { on := 16, ground := Ground.phase }, { on := 17, ground := Ground.phase }, { on := 18, ground := Ground.phase }, { on := 19, ground := Ground.phase }, { on := 20, ground := Ground.phase }, { on := 21, ground := Ground.phase }, { on := 22, ground := Ground.phase }, { on := 23, ground := Ground.phase }, { on := 24, ground := Ground.phase }], guard := none }) (v := ?vhgb25) rfl (by kernel_rfl) (by kernel_rfl) (by kernel_rfl) (fun _ _ _ h => h) (Or.inl ⟨by rfl, ?hyhgb25⟩) (by assumption) ?resthgb25
          case hyhgb25 => (intro w hSw; (try dsimp only at hSw); first | (go_simp; done) | (go_simp; with_reducible rfl))
          try simp only [Act.put, List.setIfInBounds_toArray, List.set_cons_zero, List.set_cons_succ]
          refine wpAnyH_done (by kernel_rfl) ?_ _
          have HB11 : Aside0 (Below X.heap.size X w11) := ⟨HB7.out.trans (hS11.2.mono HB7.out.size)⟩
          go_wp2_with fail
          go_ret
          exact ⟨rfl, HB11.out⟩
        -- ENDB
        · go_wp2_with fail
          obtain ⟨q0, q1, q2, q3, e0, e1, e2, e3⟩ : ∃ (q0 : ByteArray) (q1 q2 q3 : Int), (⟨#[]⟩ : ByteArray) = q0 ∧ (0 : Int) = q1 ∧ (0 : Int) = q2 ∧ (0 : Int) = q3 := ⟨_, _, _, _, rfl, rfl, rfl, rfl⟩
          have hWL : w6.alloc (.cells #[.string ⟨#[]⟩, .int .i64 0, .int .i64 0, .int .i64 0] 42) = w6.alloc (.cells #[.string q0, .int .i64 q1, .int .i64 q2, .int .i64 q3] 42) := by rw [← e0, ← e1, ← e2, ← e3]
          rw [hWL]
          have HDF2 : Aside0 (defF (ds.map newS) i = ⟨q0, q1, q2, q3⟩) := ⟨by rw [← e0, ← e1, ← e2, ← e3]; exact HDF.out⟩
          clear hWL e0 e1 e2 e3
          have HDD : Aside0 (∀ w, Below (w6.alloc (.cells #[.string q0, .int .i64 q1, .int .i64 q2, .int .i64 q3] 42)).heap.size (w6.alloc (.cells #[.string q0, .int .i64 q1, .int .i64 q2, .int .i64 q3] 42)) w → Calls Try.prog 18 #[.pointer (some ⟨t, 0, none⟩), .int .i64 i] w fun e X' => e = .returned (.agg #[.string q0, .int .i64 q1, .int .i64 q2, .int .i64 q3]) ∧ Below w.heap.size w X') := ⟨fun w hb => lm_def w _ _ t X.heap.size _ _ i (((HM6.out.below (below_alloc (Below.refl w6.heap.size w6) _))).below hb) ⟨q0, q1, q2, q3⟩ HDF2.out⟩
          have HCW0 : Aside0 (∀ w, Below (w6.alloc (.cells #[.string q0, .int .i64 q1, .int .i64 q2, .int .i64 q3] 42)).heap.size (w6.alloc (.cells #[.string q0, .int .i64 q1, .int .i64 q2, .int .i64 q3] 42)) w → w.cell? ⟨w6.heap.size, 0, none⟩ = some (.string q0) ∧ w.cell? ⟨w6.heap.size, 1, none⟩ = some (.int .i64 q1) ∧ w.cell? ⟨w6.heap.size, 2, none⟩ = some (.int .i64 q2) ∧ w.cell? ⟨w6.heap.size, 3, none⟩ = some (.int .i64 q3)) := ⟨fun w hb => by
            have h := (hb.block w6.heap.size (by simp)).trans (heap_alloc_new w6 _)
            exact ⟨by simp [World.cell?, h], by simp [World.cell?, h], by simp [World.cell?, h], by simp [World.cell?, h]⟩⟩
          have HM7 := Aside0.mk (HM6.out.below (below_alloc (Below.refl w6.heap.size w6) (.cells #[.string q0, .int .i64 q1, .int .i64 q2, .int .i64 q3] 42)))
          have HB7 := Aside0.mk (below_alloc HB6.out (.cells #[.string q0, .int .i64 q1, .int .i64 q2, .int .i64 q3] 42))
          obtain ⟨W7, hW7⟩ : ∃ W7, w6.alloc (.cells #[.string q0, .int .i64 q1, .int .i64 q2, .int .i64 q3] 42) = W7 := ⟨_, rfl⟩
          rw [hW7] at HCW0 HM7 HB7 HDD ⊢
          have hcur : Below W7.heap.size W7 W7.drew := below_drew (Below.refl _ _)
          obtain ⟨u0, u1, u2, u3⟩ := HCW0.out _ hcur
          have heq : ∀ w : World, (Op.equalIn 10000 42 (.agg #[.string q0, .int .i64 q1, .int .i64 q2, .int .i64 q3]) (.agg #[.string q0, .int .i64 q1, .int .i64 q2, .int .i64 q3])).run Try.prog w = .ok true w := fun w => eq_def q0 q1 q2 q3 w
          have HAL : Aside0 (∀ w, ((w.cell? ⟨w6.heap.size, 0, none⟩ = some (.string q0) ∧ w.cell? ⟨w6.heap.size, 1, none⟩ = some (.int .i64 q1) ∧ w.cell? ⟨w6.heap.size, 2, none⟩ = some (.int .i64 q2) ∧ w.cell? ⟨w6.heap.size, 3, none⟩ = some (.int .i64 q3)) ∧ Below W7.heap.size W7 w) → Calls Try.prog 11 #[] w fun e w' => e = .returned (.bool true) ∧ ((w'.cell? ⟨w6.heap.size, 0, none⟩ = some (.string q0) ∧ w'.cell? ⟨w6.heap.size, 1, none⟩ = some (.int .i64 q1) ∧ w'.cell? ⟨w6.heap.size, 2, none⟩ = some (.int .i64 q2) ∧ w'.cell? ⟨w6.heap.size, 3, none⟩ = some (.int .i64 q3)) ∧ Below W7.heap.size W7 w')) := ⟨fun w h => (alive_c w).mono fun e w' ⟨h1, h2⟩ => ⟨h1, HCW0.out _ (below_then h.2 h.2.size h2), below_then h.2 h.2.size h2⟩⟩
          have HH1 : Aside0 (∀ w, ((w.cell? ⟨w6.heap.size, 0, none⟩ = some (.string q0) ∧ w.cell? ⟨w6.heap.size, 1, none⟩ = some (.int .i64 q1) ∧ w.cell? ⟨w6.heap.size, 2, none⟩ = some (.int .i64 q2) ∧ w.cell? ⟨w6.heap.size, 3, none⟩ = some (.int .i64 q3)) ∧ Below W7.heap.size W7 w) → Calls Try.prog 16 #[.int .i64 i] w fun e w' => e = .returned (.int .u64 z) ∧ ((w'.cell? ⟨w6.heap.size, 0, none⟩ = some (.string q0) ∧ w'.cell? ⟨w6.heap.size, 1, none⟩ = some (.int .i64 q1) ∧ w'.cell? ⟨w6.heap.size, 2, none⟩ = some (.int .i64 q2) ∧ w'.cell? ⟨w6.heap.size, 3, none⟩ = some (.int .i64 q3)) ∧ Below W7.heap.size W7 w')) := ⟨fun w h => (HH1.out w).mono fun e w' ⟨h1, k, h2⟩ => ⟨h1, by rw [h2]; exact ⟨HCW0.out _ (below_then h.2 h.2.size (pw_below_drewN (Below.refl _ _) k)), below_then h.2 h.2.size (pw_below_drewN (Below.refl _ _) k)⟩⟩⟩
          have HH2 : Aside0 (∀ w, ((w.cell? ⟨w6.heap.size, 0, none⟩ = some (.string q0) ∧ w.cell? ⟨w6.heap.size, 1, none⟩ = some (.int .i64 q1) ∧ w.cell? ⟨w6.heap.size, 2, none⟩ = some (.int .i64 q2) ∧ w.cell? ⟨w6.heap.size, 3, none⟩ = some (.int .i64 q3)) ∧ Below W7.heap.size W7 w) → Calls Try.prog 17 #[.int .i64 i] w fun e w' => e = .returned (.int .u64 z) ∧ ((w'.cell? ⟨w6.heap.size, 0, none⟩ = some (.string q0) ∧ w'.cell? ⟨w6.heap.size, 1, none⟩ = some (.int .i64 q1) ∧ w'.cell? ⟨w6.heap.size, 2, none⟩ = some (.int .i64 q2) ∧ w'.cell? ⟨w6.heap.size, 3, none⟩ = some (.int .i64 q3)) ∧ Below W7.heap.size W7 w')) := ⟨fun w h => (HH2.out w).mono fun e w' ⟨h1, k, h2⟩ => ⟨h1, by rw [h2]; exact ⟨HCW0.out _ (below_then h.2 h.2.size (pw_below_drewN (Below.refl _ _) k)), below_then h.2 h.2.size (pw_below_drewN (Below.refl _ _) k)⟩⟩⟩
          have HDD : Aside0 (∀ w, ((w.cell? ⟨w6.heap.size, 0, none⟩ = some (.string q0) ∧ w.cell? ⟨w6.heap.size, 1, none⟩ = some (.int .i64 q1) ∧ w.cell? ⟨w6.heap.size, 2, none⟩ = some (.int .i64 q2) ∧ w.cell? ⟨w6.heap.size, 3, none⟩ = some (.int .i64 q3)) ∧ Below W7.heap.size W7 w) → Calls Try.prog 18 #[.pointer (some ⟨t, 0, none⟩), .int .i64 i] w fun e w' => e = .returned (.agg #[.string q0, .int .i64 q1, .int .i64 q2, .int .i64 q3]) ∧ ((w'.cell? ⟨w6.heap.size, 0, none⟩ = some (.string q0) ∧ w'.cell? ⟨w6.heap.size, 1, none⟩ = some (.int .i64 q1) ∧ w'.cell? ⟨w6.heap.size, 2, none⟩ = some (.int .i64 q2) ∧ w'.cell? ⟨w6.heap.size, 3, none⟩ = some (.int .i64 q3)) ∧ Below W7.heap.size W7 w')) := ⟨fun w h => (HDD.out w h.2).mono fun e w' ⟨h1, h2⟩ => ⟨h1, HCW0.out _ (below_then h.2 h.2.size h2), below_then h.2 h.2.size h2⟩⟩
          clear hW7
          -- ARMC
          refine wp_region_held_drew (S := (fun w' => (w'.cell? ⟨w6.heap.size, 0, none⟩ = some (.string q0) ∧ w'.cell? ⟨w6.heap.size, 1, none⟩ = some (.int .i64 q1) ∧ w'.cell? ⟨w6.heap.size, 2, none⟩ = some (.int .i64 q2) ∧ w'.cell? ⟨w6.heap.size, 3, none⟩ = some (.int .i64 q3)) ∧ Below W7.heap.size W7 w')) (by kernel_rfl) ⟨⟨u0, u1, u2, u3⟩, hcur⟩ (fun hHeld => ?_)
          refine wpAnyH_ready (rs := [0]) (by kernel_rfl) (by simp) (AllReadyH.cons (o := { dst := some 69, op := Op.call { callee := Callee.value (Operand.func 11), args := #[], argTypes := #[] }, type := 4, pos := "law.go:118", after := #[], guard := none }) rfl (fun K hK => ?stephgcc0) AllReadyH.nil)
          go_simp
          go_at_call 11
          refine (HAL.out _ hHeld).mono ?_
          rintro e w8 ⟨rfl, hS8⟩
          try dsimp only
          refine hK.out _ _ hS8 (fun hHeld => ?_)
          clear hK K
          try simp only [Act.put, List.setIfInBounds_toArray, List.set_cons_zero, List.set_cons_succ]
          refine wpAnyH_take (i := 1) (oi := { dst := some 70, op := Op.move (Operand.tmp 69), type := 4, pos := "law.go:118", after := #[{ on := 0, ground := Ground.data }, { on := 0, ground := Ground.chain }], guard := none }) (v := ?vhgc1) rfl (by kernel_rfl) (by kernel_rfl) (by kernel_rfl) (fun _ _ _ h => h) (Or.inl ⟨by rfl, ?hyhgc1⟩) (by assumption) ?resthgc1
          case hyhgc1 => (intro w hSw; (try dsimp only at hSw); first | (go_simp; done) | (go_simp; with_reducible rfl))
          try simp only [Act.put, List.setIfInBounds_toArray, List.set_cons_zero, List.set_cons_succ]
          refine wpAnyH_take (i := 2) (oi := { dst := some 71, op := Op.move (Operand.tmp 11), type := 3, pos := "law.go:118", after := #[{ on := 1, ground := Ground.guard }], guard := some (1, true) }) (v := ?vhgc2) rfl (by kernel_rfl) (by kernel_rfl) (by kernel_rfl) (fun _ _ _ h => h) (Or.inl ⟨by rfl, ?hyhgc2⟩) (by assumption) ?resthgc2
          case hyhgc2 => (intro w hSw; (try dsimp only at hSw); first | (go_simp; done) | (go_simp; with_reducible rfl))
          try simp only [Act.put, List.setIfInBounds_toArray, List.set_cons_zero, List.set_cons_succ]
          refine wpAnyH_take (i := 3) (oi := { dst := some 72, op := Op.move (Operand.tmp 13), type := 3, pos := "law.go:118", after := #[{ on := 1, ground := Ground.guard }], guard := some (1, true) }) (v := ?vhgc3) rfl (by kernel_rfl) (by kernel_rfl) (by kernel_rfl) (fun _ _ _ h => h) (Or.inl ⟨by rfl, ?hyhgc3⟩) (by assumption) ?resthgc3
          case hyhgc3 => (intro w hSw; (try dsimp only at hSw); first | (go_simp; done) | (go_simp; with_reducible rfl))
          try simp only [Act.put, List.setIfInBounds_toArray, List.set_cons_zero, List.set_cons_succ]
          refine wpAnyH_take (i := 4) (oi := { dst := some 73, op := Op.binOp BinOp.eql 3 (Operand.tmp 71) (Operand.tmp 72) 3, type := 4, pos := "law.go:118", after := #[{ on := 2, ground := Ground.data }, { on := 3, ground := Ground.data }, { on := 1, ground := Ground.guard }], guard := some (1, true) }) (v := ?vhgc4) rfl (by kernel_rfl) (by kernel_rfl) (by kernel_rfl) (fun _ _ _ h => h) (Or.inl ⟨by rfl, ?hyhgc4⟩) (by assumption) ?resthgc4
          case hyhgc4 => (intro w hSw; (try dsimp only at hSw); first | (go_simp; done) | (go_simp; with_reducible rfl))
          try simp only [Act.put, List.setIfInBounds_toArray, List.set_cons_zero, List.set_cons_succ]
          refine wpAnyH_take (i := 5) (oi := { dst := some 74, op := Op.pick (Operand.tmp 70) (Operand.tmp 73) (Operand.const (Value.bool false)), type := 4, pos := "law.go:118", after := #[{ on := 1, ground := Ground.data }, { on := 4, ground := Ground.data }], guard := none }) (v := ?vhgc5) rfl (by kernel_rfl) (by kernel_rfl) (by kernel_rfl) (fun _ _ _ h => h) (Or.inl ⟨by rfl, ?hyhgc5⟩) (by assumption) ?resthgc5
          case hyhgc5 => (intro w hSw; (try dsimp only at hSw); first | (go_simp; done) | (go_simp; with_reducible rfl))
          try simp only [Act.put, List.setIfInBounds_toArray, List.set_cons_zero, List.set_cons_succ]
          refine wpAnyH_take (i := 6) (oi := { dst := some 75, op := Op.move (Operand.tmp 74), type := 4, pos := "law.go:118", after := #[{ on := 5, ground := Ground.data }, { on := 1, ground := Ground.chain }], guard := none }) (v := ?vhgc6) rfl (by kernel_rfl) (by kernel_rfl) (by kernel_rfl) (fun _ _ _ h => h) (Or.inl ⟨by rfl, ?hyhgc6⟩) (by assumption) ?resthgc6
          case hyhgc6 => (intro w hSw; (try dsimp only at hSw); first | (go_simp; done) | (go_simp; with_reducible rfl))
          try simp only [Act.put, List.setIfInBounds_toArray, List.set_cons_zero, List.set_cons_succ]
          refine wpAnyH_take (i := 7) (oi := { dst := some 76, op := Op.move (Operand.tmp 12), type := 4, pos := "law.go:118", after := #[{ on := 6, ground := Ground.guard }], guard := some (6, true) }) (v := ?vhgc7) rfl (by kernel_rfl) (by kernel_rfl) (by kernel_rfl) (fun _ _ _ h => h) (Or.inl ⟨by rfl, ?hyhgc7⟩) (by assumption) ?resthgc7
          case hyhgc7 => (intro w hSw; (try dsimp only at hSw); first | (go_simp; done) | (go_simp; with_reducible rfl))
          try simp only [Act.put, List.setIfInBounds_toArray, List.set_cons_zero, List.set_cons_succ]
          refine wpAnyH_take (i := 8) (oi := { dst := some 77, op := Op.move (Operand.tmp 14), type := 4, pos := "law.go:118", after := #[{ on := 6, ground := Ground.guard }], guard := some (6, true) }) (v := ?vhgc8) rfl (by kernel_rfl) (by kernel_rfl) (by kernel_rfl) (fun _ _ _ h => h) (Or.inl ⟨by rfl, ?hyhgc8⟩) (by assumption) ?resthgc8
          case hyhgc8 => (intro w hSw; (try dsimp only at hSw); first | (go_simp; done) | (go_simp; with_reducible rfl))
          try simp only [Act.put, List.setIfInBounds_toArray, List.set_cons_zero, List.set_cons_succ]
          refine wpAnyH_take (i := 9) (oi := { dst := some 78, op := Op.binOp BinOp.eql 4 (Operand.tmp 76) (Operand.tmp 77) 4, type := 4, pos := "law.go:118", after := #[{ on := 7, ground := Ground.data }, { on := 8, ground := Ground.data }, { on := 6, ground := Ground.guard }], guard := some (6, true) }) (v := ?vhgc9) rfl (by kernel_rfl) (by kernel_rfl) (by kernel_rfl) (fun _ _ _ h => h) (Or.inl ⟨by rfl, ?hyhgc9⟩) (by assumption) ?resthgc9
          case hyhgc9 => (intro w hSw; (try dsimp only at hSw); first | (go_simp; done) | (go_simp; with_reducible rfl))
          try simp only [Act.put, List.setIfInBounds_toArray, List.set_cons_zero, List.set_cons_succ]
          refine wpAnyH_take (i := 10) (oi := { dst := some 79, op := Op.pick (Operand.tmp 75) (Operand.tmp 78) (Operand.const (Value.bool false)), type := 4, pos := "law.go:118", after := #[{ on := 6, ground := Ground.data }, { on := 9, ground := Ground.data }], guard := none }) (v := ?vhgc10) rfl (by kernel_rfl) (by kernel_rfl) (by kernel_rfl) (fun _ _ _ h => h) (Or.inl ⟨by rfl, ?hyhgc10⟩) (by assumption) ?resthgc10
          case hyhgc10 => (intro w hSw; (try dsimp only at hSw); first | (go_simp; done) | (go_simp; with_reducible rfl))
          try simp only [Act.put, List.setIfInBounds_toArray, List.set_cons_zero, List.set_cons_succ]
          refine wpAnyH_take (i := 11) (oi := { dst := some 80, op := Op.move (Operand.tmp 79), type := 4, pos := "law.go:118", after := #[{ on := 10, ground := Ground.data }, { on := 6, ground := Ground.chain }], guard := none }) (v := ?vhgc11) rfl (by kernel_rfl) (by kernel_rfl) (by kernel_rfl) (fun _ _ _ h => h) (Or.inl ⟨by rfl, ?hyhgc11⟩) (by assumption) ?resthgc11
          case hyhgc11 => (intro w hSw; (try dsimp only at hSw); first | (go_simp; done) | (go_simp; with_reducible rfl))
          try simp only [Act.put, List.setIfInBounds_toArray, List.set_cons_zero, List.set_cons_succ]
          refine wpAnyH_take (i := 12) (oi := { dst := some 81, op := Op.move (Operand.tmp 1), type := 3, pos := "law.go:118", after := #[{ on := 11, ground := Ground.guard }], guard := some (11, true) }) (v := ?vhgc12) rfl (by kernel_rfl) (by kernel_rfl) (by kernel_rfl) (fun _ _ _ h => h) (Or.inl ⟨by rfl, ?hyhgc12⟩) (by assumption) ?resthgc12
          case hyhgc12 => (intro w hSw; (try dsimp only at hSw); first | (go_simp; done) | (go_simp; with_reducible rfl))
          try simp only [Act.put, List.setIfInBounds_toArray, List.set_cons_zero, List.set_cons_succ]
          refine wpAnyH_take (i := 14) (oi := { dst := some 83, op := Op.move (Operand.tmp 1), type := 3, pos := "law.go:118", after := #[{ on := 11, ground := Ground.guard }], guard := some (11, true) }) (v := ?vhgc14) rfl (by kernel_rfl) (by kernel_rfl) (by kernel_rfl) (fun _ _ _ h => h) (Or.inl ⟨by rfl, ?hyhgc14⟩) (by assumption) ?resthgc14
          case hyhgc14 => (intro w hSw; (try dsimp only at hSw); first | (go_simp; done) | (go_simp; with_reducible rfl))
          try simp only [Act.put, List.setIfInBounds_toArray, List.set_cons_zero, List.set_cons_succ]
          refine wpAnyH_ready (rs := [13]) (by kernel_rfl) (by simp) (AllReadyH.cons (o := { dst := some 82, op := Op.call { callee := Callee.value (Operand.func 16), args := #[Operand.tmp 81], argTypes := #[3] }, type := 23, pos := "law.go:118", after := #[{ on := 12, ground := Ground.data }, { on := 11, ground := Ground.chain }, { on := 11, ground := Ground.guard }], guard := some (11, true) }) rfl (fun K hK => ?stephgcc13) AllReadyH.nil)
          go_simp
          go_at_call 16
          refine (HH1.out _ hHeld).mono ?_
          rintro e w9 ⟨rfl, hS9⟩
          try dsimp only
          refine hK.out _ _ hS9 (fun hHeld => ?_)
          clear hK K
          try simp only [Act.put, List.setIfInBounds_toArray, List.set_cons_zero, List.set_cons_succ]
          refine wpAnyH_ready (rs := [15]) (by kernel_rfl) (by simp) (AllReadyH.cons (o := { dst := some 84, op := Op.call { callee := Callee.value (Operand.func 17), args := #[Operand.tmp 83], argTypes := #[3] }, type := 23, pos := "law.go:118", after := #[{ on := 14, ground := Ground.data }, { on := 13, ground := Ground.chain }, { on := 11, ground := Ground.guard }], guard := some (11, true) }) rfl (fun K hK => ?stephgcc15) AllReadyH.nil)
          go_simp
          go_at_call 17
          refine (HH2.out _ hHeld).mono ?_
          rintro e w10 ⟨rfl, hS10⟩
          try dsimp only
          refine hK.out _ _ hS10 (fun hHeld => ?_)
          clear hK K
          try simp only [Act.put, List.setIfInBounds_toArray, List.set_cons_zero, List.set_cons_succ]
          refine wpAnyH_take (i := 16) (oi := { dst := some 85, op := Op.binOp BinOp.eql 23 (Operand.tmp 82) (Operand.tmp 84) 23, type := 4, pos := "law.go:118", after := #[{ on := 13, ground := Ground.data }, { on := 15, ground := Ground.data }, { on := 11, ground := Ground.guard }], guard := some (11, true) }) (v := ?vhgc16) rfl (by kernel_rfl) (by kernel_rfl) (by kernel_rfl) (fun _ _ _ h => h) (Or.inl ⟨by rfl, ?hyhgc16⟩) (by assumption) ?resthgc16
          case hyhgc16 => (intro w hSw; (try dsimp only at hSw); first | (go_simp; done) | (go_simp; with_reducible rfl))
          try simp only [Act.put, List.setIfInBounds_toArray, List.set_cons_zero, List.set_cons_succ]
          refine wpAnyH_take (i := 17) (oi := { dst := some 86, op := Op.pick (Operand.tmp 80) (Operand.tmp 85) (Operand.const (Value.bool false)), type := 4, pos := "law.go:118", after := #[{ on := 11, ground := Ground.data }, { on := 16, ground := Ground.data }], guard := none }) (v := ?vhgc17) rfl (by kernel_rfl) (by kernel_rfl) (by kernel_rfl) (fun _ _ _ h => h) (Or.inl ⟨by rfl, ?hyhgc17⟩) (by assumption) ?resthgc17
          case hyhgc17 => (intro w hSw; (try dsimp only at hSw); first | (go_simp; done) | (go_simp; with_reducible rfl))
          try simp only [Act.put, List.setIfInBounds_toArray, List.set_cons_zero, List.set_cons_succ]
          refine wpAnyH_take (i := 18) (oi := { dst := some 87, op := Op.move (Operand.tmp 86), type := 4, pos := "law.go:118", after := #[{ on := 17, ground := Ground.data }, { on := 15, ground := Ground.chain }], guard := none }) (v := ?vhgc18) rfl (by kernel_rfl) (by kernel_rfl) (by kernel_rfl) (fun _ _ _ h => h) (Or.inl ⟨by rfl, ?hyhgc18⟩) (by assumption) ?resthgc18
          case hyhgc18 => (intro w hSw; (try dsimp only at hSw); first | (go_simp; done) | (go_simp; with_reducible rfl))
          try simp only [Act.put, List.setIfInBounds_toArray, List.set_cons_zero, List.set_cons_succ]
          refine wpAnyH_take (i := 19) (oi := { dst := some 88, op := Op.move (Operand.tmp 8), type := 28, pos := "law.go:118", after := #[{ on := 18, ground := Ground.guard }], guard := some (18, true) }) (v := ?vhgc19) rfl (by kernel_rfl) (by kernel_rfl) (by kernel_rfl) (fun _ _ _ h => h) (Or.inl ⟨by rfl, ?hyhgc19⟩) (by assumption) ?resthgc19
          case hyhgc19 => (intro w hSw; (try dsimp only at hSw); first | (go_simp; done) | (go_simp; with_reducible rfl))
          try simp only [Act.put, List.setIfInBounds_toArray, List.set_cons_zero, List.set_cons_succ]
          refine wpAnyH_take (i := 20) (oi := { dst := some 89, op := Op.move (Operand.tmp 1), type := 3, pos := "law.go:118", after := #[{ on := 18, ground := Ground.guard }], guard := some (18, true) }) (v := ?vhgc20) rfl (by kernel_rfl) (by kernel_rfl) (by kernel_rfl) (fun _ _ _ h => h) (Or.inl ⟨by rfl, ?hyhgc20⟩) (by assumption) ?resthgc20
          case hyhgc20 => (intro w hSw; (try dsimp only at hSw); first | (go_simp; done) | (go_simp; with_reducible rfl))
          try simp only [Act.put, List.setIfInBounds_toArray, List.set_cons_zero, List.set_cons_succ]
          refine wpAnyH_take (i := 22) (oi := { dst := some 91, op := Op.load 42 (Operand.tmp 15), type := 42, pos := "law.go:118", after := #[{ on := 18, ground := Ground.guard }], guard := some (18, true) }) (v := ?vhgc22) rfl (by kernel_rfl) (by kernel_rfl) (by kernel_rfl) (fun _ _ _ h => h) (Or.inl ⟨by rfl, ?hyhgc22⟩) (by assumption) ?resthgc22
          case hyhgc22 => (intro w hSw; (try dsimp only at hSw); first | (go_simp; done) | (go_simp; with_reducible rfl))
          try simp only [Act.put, List.setIfInBounds_toArray, List.set_cons_zero, List.set_cons_succ]
          refine wpAnyH_ready (rs := [21]) (by kernel_rfl) (by simp) (AllReadyH.cons (o := { dst := some 90, op := Op.call { callee := Callee.value (Operand.func 18), args := #[Operand.tmp 88, Operand.tmp 89], argTypes := #[28, 3] }, type := 42, pos := "law.go:118", after := #[{ on := 19, ground := Ground.data }, { on := 20, ground := Ground.data }, { on := 18, ground := Ground.chain }, { on := 18, ground := Ground.guard }], guard := some (18, true) }) rfl (fun K hK => ?stephgcc21) AllReadyH.nil)
          go_simp
          go_at_call 18
          refine (HDD.out _ hHeld).mono ?_
          rintro e w11 ⟨rfl, hS11⟩
          try dsimp only
          refine hK.out _ _ hS11 (fun hHeld => ?_)
          clear hK K
          try simp only [Act.put, List.setIfInBounds_toArray, List.set_cons_zero, List.set_cons_succ]
          refine wpAnyH_take (i := 23) (oi := { dst := some 92, op := Op.binOp BinOp.eql 42 (Operand.tmp 90) (Operand.tmp 91) 42, type := 4, pos := "law.go:118", after := #[{ on := 21, ground := Ground.data }, { on := 22, ground := Ground.data }, { on := 18, ground := Ground.guard }], guard := some (18, true) }) (v := ?vhgc23) rfl (by kernel_rfl) (by kernel_rfl) (by kernel_rfl) (fun _ _ _ h => h) (Or.inl ⟨by rfl, ?hyhgc23⟩) (by assumption) ?resthgc23
          case hyhgc23 => (intro w hSw; (try dsimp only at hSw); first | (go_simp; done) | (go_simp; with_reducible rfl))
          try simp only [Act.put, List.setIfInBounds_toArray, List.set_cons_zero, List.set_cons_succ]
          refine wpAnyH_take (i := 24) (oi := { dst := some 93, op := Op.pick (Operand.tmp 87) (Operand.tmp 92) (Operand.const (Value.bool false)), type := 4, pos := "law.go:118", after := #[{ on := 18, ground := Ground.data }, { on := 23, ground := Ground.data }], guard := none }) (v := ?vhgc24) rfl (by kernel_rfl) (by kernel_rfl) (by kernel_rfl) (fun _ _ _ h => h) (Or.inl ⟨by rfl, ?hyhgc24⟩) (by assumption) ?resthgc24
          case hyhgc24 => (intro w hSw; (try dsimp only at hSw); first | (go_simp; done) | (go_simp; with_reducible rfl))
          try simp only [Act.put, List.setIfInBounds_toArray, List.set_cons_zero, List.set_cons_succ]
          refine wpAnyH_take (i := 25) (oi := { dst := some 6, op := Op.assign (Operand.tmp 93), type := 4, pos := "law.go:118", after := #[{ on := 24, ground := Ground.data }, { on := 21, ground := Ground.chain }, { on := 0, ground := Ground.phase }, { on := 1, ground := Ground.phase }, { on := 2, ground := Ground.phase }, { on := 3, ground := Ground.phase }, { on := 4, ground := Ground.phase }, { on := 5, ground := Ground.phase }, { on := 6, ground := Ground.phase }, { on := 7, ground := Ground.phase }, { on := 8, ground := Ground.phase }, { on := 9, ground := Ground.phase }, { on := 10, ground := Ground.phase }, { on := 11, ground := Ground.phase }, { on := 12, ground := Ground.phase }, { on := 13, ground := Ground.phase }, { on := 14, ground := Ground.phase }, { on := 15, ground := Ground.phase }, { on := 16, ground := Ground.phase }, { on := 17, ground := Ground.phase }, { on := 18, ground := Ground.phase }, { on := 19, ground := Ground.phase }, { on := 20, ground := Ground.phase }, { on := 21, ground := Ground.phase }, { on := 22, ground := Ground.phase }, { on := 23, ground := Ground.phase }, { on := 24, ground := Ground.phase }], guard := none }) (v := ?vhgc25) rfl (by kernel_rfl) (by kernel_rfl) (by kernel_rfl) (fun _ _ _ h => h) (Or.inl ⟨by rfl, ?hyhgc25⟩) (by assumption) ?resthgc25
          case hyhgc25 => (intro w hSw; (try dsimp only at hSw); first | (go_simp; done) | (go_simp; with_reducible rfl))
          try simp only [Act.put, List.setIfInBounds_toArray, List.set_cons_zero, List.set_cons_succ]
          refine wpAnyH_done (by kernel_rfl) ?_ _
          have HB11 : Aside0 (Below X.heap.size X w11) := ⟨HB7.out.trans (hS11.2.mono HB7.out.size)⟩
          go_wp2_with fail
          go_ret
          exact ⟨rfl, HB11.out⟩
        -- ENDC
    · have hb : (r != 0) = true := by simp [hz]
      have hb' : decide (r ≠ 0) = true := decide_eq_true hz
      have hb2 : (r == 0) = false := by simp [hz]
      go_wp2_with fail
      refine (alive_c w2).mono ?_
      rintro e w3 ⟨rfl, hb3⟩
      have HB3 : Aside0 (Below X.heap.size X w3) := ⟨HB2.out.trans (hb3.mono HB2.out.size)⟩
      clear hb3
      go_wp2_with fail
      go_ret
      exact ⟨rfl, HB3.out⟩
end Go.Proofs.Ytmkmldpcoonepaa.PAll
