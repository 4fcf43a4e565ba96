/- The texts HelpW2, HelpW5, HelpW6, HelpW7, HelpW8 of this claim, joined. -/
import Derived.Test.YtomnfkihieinbaaDoorGMapsC
import Derived.Test.YtomnfkihieinbaaDoorGHelpA
/- helper: the methods of call. -/
set_option linter.unusedVariables false
set_option linter.unusedSimpArgs false
namespace Go.Proofs.YtomnfkihieinbaaDoor.PAll
open Go.RowKit Go.Shelf Go.Maps Go.Proofs.YtomnfkihieinbaaDoorW.PrintWords Go.Proofs.YtomnfkihieinbaaDoorW.PrintLast Go.Proofs.YtomnfkihieinbaaDoorW.PrintMore
theorem LMF.weaken {B N : Nat} {F F' : Nat → Prop} {w : World} {t m : Nat} {S : List MapS} {K : List Reg} (h : LMF B N F' w t m S K) (hF : ∀ k, F k → F' k) (hB : ∀ k, k < B → F k) : LMF B N F w t m S K := ⟨h.1, h.2.1, hB, h.2.2.2.weaken hF⟩
theorem LMF.up {B N M : Nat} {F : Nat → Prop} {w : World} {t m : Nat} {S : List MapS} {K : List Reg} (h : LMF B N F w t m S K) (hN : N ≤ M) : LMF B M F w t m S K := ⟨h.1, ⟨h.2.1.1, fun s hs => (h.2.1.2 s hs).more hN⟩, h.2.2⟩
theorem LMF.low {B N : Nat} {F : Nat → Prop} {w : World} {t m : Nat} {S : List MapS} {K : List Reg} (h : LMF B N F w t m S K) : ∀ k, F k → k < w.heap.size := by
  obtain ⟨_, _, _, v, ps, _, h⟩ := h
  exact h.fr
set_option maxHeartbeats 1000000 in
theorem hlook_c (w : World) (B N : Nat) (F : Nat → Prop) (t m : Nat) (S : List MapS) (K : List Reg) (i : Int) (A1 A2 : Option Addr) (n1 c1 n2 c2 : Nat) (key : List Int) (h : LMF B N F w t m S K) (hk : Kd.C (Kd.int .u8) w A1 n1 key) (hkb : IsBytes key) (r : Int) (hr : lookF S i key = r) :
    Calls Tryd.prog 53 #[.agg #[.pointer (some ⟨t, 0, none⟩), .int .i64 i, .slice A1 n1 c1, .slice A2 n2 c2]] w fun e X' => e = .returned (.int .u64 r) ∧ LMF B (N + 1) F X' t m S K ∧ Kept F w X' := by
  have HL : Aside0 (∀ W, Below w.heap.size w W → Calls Tryd.prog 12 #[.pointer (some ⟨t, 0, none⟩), .int .i64 i, .slice A1 n1 c1] W fun e X' => e = .returned (.int .u64 r) ∧ Below W.heap.size W X') := ⟨fun W hb => lm_lookup W B N t m S K i A1 c1 n1 key (h.lm.below hb) (Kd.C_below hk hb) hkb r hr⟩
  have H := Aside0.mk h
  clear h hk hkb hr
  go_enter Tryd.func53, Tryd.ntmps53
  go_wp2_with fail
  refine (HL.out _ (below_alloc (Below.refl _ _) _)).mono ?_
  rintro e X' ⟨rfl, hb⟩
  have HB : Aside0 (Below w.heap.size w X') := ⟨(below_alloc (Below.refl w.heap.size w) _).trans (hb.mono (below_alloc (Below.refl w.heap.size w) _).size)⟩
  clear hb
  go_wp2_with fail
  go_ret
  exact ⟨rfl, (H.out.below HB.out).up (Nat.le_succ _), below_kept HB.out F⟩
set_option maxHeartbeats 1000000 in
theorem hupd_c (w : World) (B N : Nat) (F : Nat → Prop) (t m : Nat) (S : List MapS) (K : List Reg) (i : Int) (A1 A2 : Option Addr) (n1 c1 n2 c2 : Nat) (key value : List Int) (h : LMF B N F w t m S K) (hN : N ≤ 10000) (hK : K.length ≤ 99999)
    (hk : Kd.C (Kd.int .u8) w A1 n1 key) (hA1 : ∀ ad, A1 = some ad → 0 < key.length → F ad.block) (hkb : IsBytes key) (hkl : key.length ≤ 65536) (hv : Kd.C (Kd.int .u8) w A2 n2 value) (hA2 : ∀ ad, A2 = some ad → 0 < value.length → F ad.block) (hvb : IsBytes value) (hvc : n2 ≤ c2) (hvs : value.length ≤ 65536) :
    Calls Tryd.prog 54 #[.agg #[.pointer (some ⟨t, 0, none⟩), .int .i64 i, .slice A1 n1 c1, .slice A2 n2 c2]] w fun e X' => e = .returned (.int .u64 (IntKind.u64.wrap (updR S i key value))) ∧ LMF B (N + 1) F X' t m (updS S i key value) (updK S K i key value) ∧ Kept F w X' := by
  obtain rfl := hk.1
  obtain rfl := hv.1
  obtain ⟨r, hr⟩ : ∃ r, updR S i key value = r := ⟨_, rfl⟩
  have HL : Aside0 (∀ W, Below w.heap.size w W → Calls Tryd.prog 68 #[.pointer (some ⟨t, 0, none⟩), .int .i64 i, .slice A1 key.length c1, .slice A2 value.length c2] W fun e X' => e = .returned (.int .i64 r) ∧ LMF B (N + 1) F X' t m (updS S i key value) (updK S K i key value) ∧ Kept F W X') := ⟨fun W hb => lf_update W B N F t m S K i A1 A2 c1 c2 key value (h.below hb) hN hK (Kd.C_below hk hb) hA1 hkb hkl (Kd.C_below hv hb) hA2 hvb hvc hvs r _ _ hr rfl rfl⟩
  rw [hr]
  clear h hk hkb hr hv hvb hA1 hA2 hvc hvs hkl hN hK
  go_enter Tryd.func54, Tryd.ntmps54
  go_wp2_with fail
  refine (HL.out _ (below_alloc (Below.refl _ _) _)).mono ?_
  rintro e X' ⟨rfl, hm, hb⟩
  have HM := Aside0.mk hm
  have HB : Aside0 (Kept F w X') := ⟨(below_kept (below_alloc (Below.refl w.heap.size w) _) F).trans hb⟩
  clear hb hm
  go_wp2_with fail
  go_ret
  exact ⟨rfl, HM.out, HB.out⟩
set_option maxHeartbeats 1000000 in
theorem hdel_c (w : World) (B N : Nat) (F : Nat → Prop) (t m : Nat) (S : List MapS) (K : List Reg) (i : Int) (A1 A2 : Option Addr) (n1 c1 n2 c2 : Nat) (key : List Int) (h : LMF B N F w t m S K) (hN : N ≤ 10000) (hK : K.length ≤ 99999)
    (hk : Kd.C (Kd.int .u8) w A1 n1 key) (hA1 : ∀ ad, A1 = some ad → 0 < key.length → F ad.block) (hkb : IsBytes key) :
    Calls Tryd.prog 55 #[.agg #[.pointer (some ⟨t, 0, none⟩), .int .i64 i, .slice A1 n1 c1, .slice A2 n2 c2]] w fun e X' => e = .returned (.int .u64 (IntKind.u64.wrap (delR S i key))) ∧ LMF B (N + 1) F X' t m (delS S i key) (delK S K i key) ∧ Kept F w X' := by
  obtain rfl := hk.1
  obtain ⟨r, hr⟩ : ∃ r, delR S i key = r := ⟨_, rfl⟩
  have HL : Aside0 (∀ W, Below w.heap.size w W → Calls Tryd.prog 69 #[.pointer (some ⟨t, 0, none⟩), .int .i64 i, .slice A1 key.length c1] W fun e X' => e = .returned (.int .i64 r) ∧ LMF B N F X' t m (delS S i key) (delK S K i key) ∧ Kept F W X') := ⟨fun W hb => lf_delete W B N F t m S K i A1 c1 key (h.below hb) hN hK (Kd.C_below hk hb) hA1 hkb r _ _ hr rfl rfl⟩
  rw [hr]
  clear h hk hkb hr hA1 hN hK
  go_enter Tryd.func55, Tryd.ntmps55
  go_wp2_with fail
  refine (HL.out _ (below_alloc (Below.refl _ _) _)).mono ?_
  rintro e X' ⟨rfl, hm, hb⟩
  have HM := Aside0.mk hm
  have HB : Aside0 (Kept F w X') := ⟨(below_kept (below_alloc (Below.refl w.heap.size w) _) F).trans hb⟩
  clear hb hm
  go_wp2_with fail
  go_ret
  exact ⟨rfl, HM.out.up (Nat.le_succ _), HB.out⟩
end Go.Proofs.YtomnfkihieinbaaDoor.PAll
/- helper: Call's walks without a fault at the key. Written by gen_call.py. -/
set_option linter.unusedVariables false
set_option linter.unusedSimpArgs false
namespace Go.Proofs.YtomnfkihieinbaaDoor.PAll
open Go.RowKit Go.Shelf Go.Maps Go.Proofs.YtomnfkihieinbaaDoorW.PrintWords Go.Proofs.YtomnfkihieinbaaDoorW.PrintLast Go.Proofs.YtomnfkihieinbaaDoorW.PrintMore
set_option maxHeartbeats 8000000 in
set_option maxRecDepth 100000 in
theorem call_del (X : World) (t m : Nat) (i r0 r1 r2 r3 r4 r5 r6 r7 r8 r9 r10 dk dv de x : Int) (nm : ByteArray) (key value : List Int) (QP : World → World → Prop) (HI : Aside0 (IndexC X t r1 i true)) (HD : Aside0 (DefC X t i nm dk dv de)) (HY : Aside0 (BytesC X m r2 dk true key)) (HOK : Aside0 (QPok X QP)) (HV : Aside0 (FinC X 55 t i key [] x QP)) :
    Calls Tryd.prog 11 #[.pointer (some ⟨t, 0, none⟩), .pointer (some ⟨m, 0, none⟩), .int .i64 3, .agg #[.int .u64 r0, .int .u64 r1, .int .u64 r2, .int .u64 r3, .int .u64 r4, .int .u64 r5, .int .u64 r6, .int .u64 r7, .int .u64 r8, .int .u64 r9, .int .u64 r10]] X fun e X' => e = .returned (.tuple #[.agg #[.int .u64 x, .int .u64 0, .int .u64 0, .int .u64 0, .int .u64 0, .int .u64 0, .int .u64 r6, .int .u64 r7, .int .u64 r8, .int .u64 r9, .int .u64 r10], .int .i64 0]) ∧ ∃ W, Below X.heap.size X W ∧ QP W X' := by
  have hfd1 : ∀ w : World, (Instr.field 28 (.agg #[.string nm, .int .i64 dk, .int .i64 dv, .int .i64 de]) 1).run Tryd.prog w = .ok (.int .i64 dk) w := fun _ => rfl
  have hfd2 : ∀ w : World, (Instr.field 28 (.agg #[.string nm, .int .i64 dk, .int .i64 dv, .int .i64 de]) 2).run Tryd.prog w = .ok (.int .i64 dv) w := fun _ => rfl
  have HB0 := Aside0.mk (boxes_start X #[.int .u64 r0, .int .u64 r1, .int .u64 r2, .int .u64 r3, .int .u64 r4, .int .u64 r5, .int .u64 r6, .int .u64 r7, .int .u64 r8, .int .u64 r9, .int .u64 r10] #[.int .u64 0, .int .u64 0, .int .u64 0, .int .u64 0, .int .u64 0, .int .u64 0, .int .u64 0, .int .u64 0, .int .u64 0, .int .u64 0, .int .u64 0] #[.pointer (some ⟨t, 0, none⟩), .int .i64 i, .slice none 0 0, .slice none 0 0])
  obtain ⟨W0, hW0⟩ : ∃ W0, (((X.alloc (.cells #[.int .u64 r0, .int .u64 r1, .int .u64 r2, .int .u64 r3, .int .u64 r4, .int .u64 r5, .int .u64 r6, .int .u64 r7, .int .u64 r8, .int .u64 r9, .int .u64 r10] 33)).alloc (.cells #[.int .u64 0, .int .u64 0, .int .u64 0, .int .u64 0, .int .u64 0, .int .u64 0, .int .u64 0, .int .u64 0, .int .u64 0, .int .u64 0, .int .u64 0] 33)).alloc (.cells #[.pointer (some ⟨t, 0, none⟩), .int .i64 i, .slice none 0 0, .slice none 0 0] 84)) = W0 := ⟨_, rfl⟩
  have HW0 := Aside0.mk hW0
  rw [hW0] at HB0
  clear hW0
  have HCELL2 : Aside0 (∀ w cs, Boxes X w #[.int .u64 r0, .int .u64 r1, .int .u64 r2, .int .u64 r3, .int .u64 r4, .int .u64 r5, .int .u64 r6, .int .u64 r7, .int .u64 r8, .int .u64 r9, .int .u64 r10] #[.int .u64 0, .int .u64 0, .int .u64 0, .int .u64 0, .int .u64 0, .int .u64 0, .int .u64 0, .int .u64 0, .int .u64 0, .int .u64 0, .int .u64 0] cs → w.cell? ⟨X.heap.size, 2, none⟩ = some (.int .u64 r2)) := ⟨fun w cs h => by simp [World.cell?, h.p]⟩
  have HCELL3 : Aside0 (∀ w cs, Boxes X w #[.int .u64 r0, .int .u64 r1, .int .u64 r2, .int .u64 r3, .int .u64 r4, .int .u64 r5, .int .u64 r6, .int .u64 r7, .int .u64 r8, .int .u64 r9, .int .u64 r10] #[.int .u64 0, .int .u64 0, .int .u64 0, .int .u64 0, .int .u64 0, .int .u64 0, .int .u64 0, .int .u64 0, .int .u64 0, .int .u64 0, .int .u64 0] cs → w.cell? ⟨X.heap.size, 3, none⟩ = some (.int .u64 r3)) := ⟨fun w cs h => by simp [World.cell?, h.p]⟩
  have HCC2 : Aside0 (∀ w c0 c1 c2 c3, Boxes X w #[.int .u64 r0, .int .u64 r1, .int .u64 r2, .int .u64 r3, .int .u64 r4, .int .u64 r5, .int .u64 r6, .int .u64 r7, .int .u64 r8, .int .u64 r9, .int .u64 r10] #[.int .u64 0, .int .u64 0, .int .u64 0, .int .u64 0, .int .u64 0, .int .u64 0, .int .u64 0, .int .u64 0, .int .u64 0, .int .u64 0, .int .u64 0] #[c0, c1, c2, c3] → w.cell? ⟨X.heap.size + 2, 2, none⟩ = some c2 ∧ w.frozen? ⟨X.heap.size + 2, 2, none⟩ = false) := ⟨fun w c0 c1 c2 c3 h => ⟨by simp [World.cell?, h.c], by simp [World.frozen?, h.c]⟩⟩
  have HCC3 : Aside0 (∀ w c0 c1 c2 c3, Boxes X w #[.int .u64 r0, .int .u64 r1, .int .u64 r2, .int .u64 r3, .int .u64 r4, .int .u64 r5, .int .u64 r6, .int .u64 r7, .int .u64 r8, .int .u64 r9, .int .u64 r10] #[.int .u64 0, .int .u64 0, .int .u64 0, .int .u64 0, .int .u64 0, .int .u64 0, .int .u64 0, .int .u64 0, .int .u64 0, .int .u64 0, .int .u64 0] #[c0, c1, c2, c3] → w.cell? ⟨X.heap.size + 2, 3, none⟩ = some c3 ∧ w.frozen? ⟨X.heap.size + 2, 3, none⟩ = false) := ⟨fun w c0 c1 c2 c3 h => ⟨by simp [World.cell?, h.c], by simp [World.frozen?, h.c]⟩⟩
  have HCCA : Aside0 (∀ w c0 c1 c2 c3, Boxes X w #[.int .u64 r0, .int .u64 r1, .int .u64 r2, .int .u64 r3, .int .u64 r4, .int .u64 r5, .int .u64 r6, .int .u64 r7, .int .u64 r8, .int .u64 r9, .int .u64 r10] #[.int .u64 0, .int .u64 0, .int .u64 0, .int .u64 0, .int .u64 0, .int .u64 0, .int .u64 0, .int .u64 0, .int .u64 0, .int .u64 0, .int .u64 0] #[c0, c1, c2, c3] → w.cell? ⟨X.heap.size + 2, 0, none⟩ = some c0 ∧ w.cell? ⟨X.heap.size + 2, 1, none⟩ = some c1 ∧ w.cell? ⟨X.heap.size + 2, 2, none⟩ = some c2 ∧ w.cell? ⟨X.heap.size + 2, 3, none⟩ = some c3) := ⟨fun w c0 c1 c2 c3 h => ⟨by simp [World.cell?, h.c], by simp [World.cell?, h.c], by simp [World.cell?, h.c], by simp [World.cell?, h.c]⟩⟩
  have hix : ∀ w : World, (Instr.index 87 (.agg #[.func (.func 53) #[] #[], .func (.func 54) #[] #[], .func (.func 55) #[] #[]]) (.int .i64 (IntKind.i64.wrap 2))).run Tryd.prog w = .ok (.func (.func 55) #[] #[]) w := fun _ => by kernel_rfl
  have HIN : Aside0 ((Tryd.prog.info? 33).map (·.size) = some 11) := ⟨by kernel_rfl⟩
  go_enter Tryd.func11, Tryd.ntmps11
  go_wp2_with fail
  refine (HI.out _ (below_alloc (below_alloc (Below.refl _ _) _) _)).mono ?_
  rintro e X' ⟨rfl, rfl⟩
  go_wp2_with fail
  rw [HW0.out]
  have hcur : Below W0.heap.size W0 W0.drew := below_drew (Below.refl _ _)
  have hbx := HB0.out.next hcur
  have hx2 := HCELL2.out _ _ hbx
  go_region_with (first | (go_at_call 32; refine (HD.out _ (Boxes.below (by assumption))).mono ?_; rintro e w4 ⟨rfl, hb4⟩; have hbx4 := Boxes.next (by assumption) hb4; have hx4 := HCELL2.out _ _ hbx4; have hcur4 := below_then (by assumption) (Below.size (by assumption)) hb4; clear hb4) | (go_at_call 22; refine (HY.out _ (Boxes.below (by assumption))).mono ?_; rintro e w5 ⟨⟨A, nn, c, rfl, hC⟩, hb5⟩; have HROW := Aside0.mk (RowC.new (by assumption) hC.out); have hbx5 := Boxes.next (by assumption) hb5; have hcur5 := below_then (by assumption) (Below.size (by assumption)) hb5; obtain ⟨hc5, hf5⟩ := HCC2.out _ _ _ _ _ hbx5; clear hb5 hC))
  all_goals
    have HBX6 := Aside0.mk (hbx5.setC 2 (.slice A nn c) _ rfl)
    have HRC6 := Aside0.mk (HROW.out.set 2 (.slice A nn c))
    obtain ⟨W6, hW6⟩ : ∃ W6, w5.setCell ⟨X.heap.size + 2, 2, none⟩ (.slice A nn c) = W6 := ⟨_, rfl⟩
    rw [hW6] at HBX6 HRC6 ⊢
    clear hW6 hbx5 hc5 hf5 hx4 hbx4 hx2 hbx hcur hcur4 hcur5 HROW
    have hbx6 := HBX6.out.next (below_drew (Below.refl _ _))
    have hcur6 : Below W6.heap.size W6 W6.drew := below_drew (Below.refl _ _)
    obtain ⟨y0, y1, y2, y3⟩ := HCCA.out _ _ _ _ _ hbx6
    go_wp2_with fail
    go_region_with (first | (go_at_call 33; refine (helpers_c _).mono ?_; rintro e w8 ⟨rfl, hb8⟩; have hbx8 := Boxes.next hbx6 hb8; have hcur8 := below_then hcur6 hcur6.size hb8; obtain ⟨z0, z1, z2, z3⟩ := HCCA.out _ _ _ _ _ hbx8; unfold hV; clear hb8) | (go_at_call 55; refine (HV.out _ _ _ _ _ _ _ (Boxes.below hbx8) (HRC6.out.below hcur8) ((RowC.nil X _).below (Below.refl _ _))).mono ?_; rintro e w9 ⟨rfl, hQ, hs9, hk9⟩; have HB9 := Aside0.mk hbx8.below; have hp9 := (hk9 _ (Nat.le_refl _) (Array.getElem?_eq_some_iff.1 hbx8.p).1).trans hbx8.p; have hr9 := (hk9 _ (Nat.le_succ _) (Array.getElem?_eq_some_iff.1 hbx8.r).1).trans hbx8.r; have HL9 := Aside0.mk (Array.getElem?_eq_some_iff.1 hbx8.r).1; have HQ := Aside0.mk hQ; have hq0 : w9.cell? ⟨X.heap.size, 0, none⟩ = some (.int .u64 r0) := (by simp [World.cell?, hp9]); have hf0 : w9.frozen? ⟨X.heap.size, 0, none⟩ = false := (by simp [World.frozen?, hp9]); clear hQ hs9 hk9))
    all_goals
      have HP9 := Aside0.mk (blk_put hp9 0 (.int .u64 x) rfl)
      have HR9 : Aside0 ((w9.setCell ⟨X.heap.size, 0, none⟩ (.int .u64 x)).heap[X.heap.size + 1]? = some (.cells #[.int .u64 0, .int .u64 0, .int .u64 0, .int .u64 0, .int .u64 0, .int .u64 0, .int .u64 0, .int .u64 0, .int .u64 0, .int .u64 0, .int .u64 0] 33 (0, 0))) := ⟨(Below.heap_setCell w9 ⟨X.heap.size, 0, none⟩ _ _ (Nat.succ_ne_self _)).trans hr9⟩
      have HQ9 := HOK.out _ _ _ HQ.out ((set_out w9 X.heap.size 0 (.int .u64 x)).mono (fun k _ hk => by rw [hk]; exact ⟨Nat.le_refl _, Nat.lt_of_succ_lt HL9.out⟩))
      have HQ9 := Aside0.mk HQ9
      obtain ⟨W10, hW10⟩ : ∃ W10, w9.setCell ⟨X.heap.size, 0, none⟩ (.int .u64 x) = W10 := ⟨_, rfl⟩
      rw [hW10] at HP9 HR9 HQ9 ⊢
      have hcl : ∀ ty, (Builtin.clear_ #[75] ty #[.slice (some ⟨X.heap.size, 1, none⟩) 5 10]).run Tryd.prog W10 = .ok (.tuple #[]) (W10.setCells X.heap.size 1 [.int .u64 0, .int .u64 0, .int .u64 0, .int .u64 0, .int .u64 0]) := fun ty => Lib.run_clear_slice W10 75 30 ty (.int .u64 0) Tryd.underlying75 zeroU64' rfl rfl X.heap.size 1 5 10 (by decide) (fun j hj => by
          have h := HP9.out
          simp [World.cell?, h]; omega) (fun j hj => by
          have h := HP9.out
          simp [World.frozen?, h])
      have HP11 : Aside0 ((W10.setCells X.heap.size 1 [.int .u64 0, .int .u64 0, .int .u64 0, .int .u64 0, .int .u64 0]).heap[X.heap.size]? = some (.cells #[.int .u64 x, .int .u64 0, .int .u64 0, .int .u64 0, .int .u64 0, .int .u64 0, .int .u64 r6, .int .u64 r7, .int .u64 r8, .int .u64 r9, .int .u64 r10] 33 (0, 0))) := ⟨by
        simp only [World.setCells]
        exact blk_put (blk_put (blk_put (blk_put (blk_put HP9.out 1 (.int .u64 0) rfl) 2 (.int .u64 0) rfl) 3 (.int .u64 0) rfl) 4 (.int .u64 0) rfl) 5 (.int .u64 0) rfl⟩
      have HS11 : ∀ k, k ≠ X.heap.size → (W10.setCells X.heap.size 1 [.int .u64 0, .int .u64 0, .int .u64 0, .int .u64 0, .int .u64 0]).heap[k]? = W10.heap[k]? := fun k hk => by
        simp only [World.setCells]
        rw [Below.heap_setCell _ ⟨X.heap.size, _, none⟩ _ k hk, Below.heap_setCell _ ⟨X.heap.size, _, none⟩ _ k hk, Below.heap_setCell _ ⟨X.heap.size, _, none⟩ _ k hk, Below.heap_setCell _ ⟨X.heap.size, _, none⟩ _ k hk, Below.heap_setCell _ ⟨X.heap.size, _, none⟩ _ k hk]
      have HR11 : Aside0 ((W10.setCells X.heap.size 1 [.int .u64 0, .int .u64 0, .int .u64 0, .int .u64 0, .int .u64 0]).heap[X.heap.size + 1]? = some (.cells #[.int .u64 0, .int .u64 0, .int .u64 0, .int .u64 0, .int .u64 0, .int .u64 0, .int .u64 0, .int .u64 0, .int .u64 0, .int .u64 0, .int .u64 0] 33 (0, 0))) := ⟨(HS11 _ (Nat.succ_ne_self _)).trans HR9.out⟩
      have HQ11 : Aside0 (Out (fun k => k = X.heap.size) W10 (W10.setCells X.heap.size 1 [.int .u64 0, .int .u64 0, .int .u64 0, .int .u64 0, .int .u64 0])) := ⟨by
        simp only [World.setCells]
        exact ((((set_out _ _ _ _).trans (set_out _ _ _ _) (fun _ _ h => h)).trans (set_out _ _ _ _) (fun _ _ h => h)).trans (set_out _ _ _ _) (fun _ _ h => h)).trans (set_out _ _ _ _) (fun _ _ h => h)⟩
      clear hW10 hp9 hr9 hq0 hf0 HS11 y0 y1 y2 y3 z0 z1 z2 z3 hbx6 hbx8 hcur6 hcur8
      go_upto_region 14 with (simp only [hcl])
      obtain ⟨W11, hW11⟩ : ∃ W11, W10.setCells X.heap.size 1 [.int .u64 0, .int .u64 0, .int .u64 0, .int .u64 0, .int .u64 0] = W11 := ⟨_, rfl⟩
      rw [hW11] at HP11 HR11 HQ11 ⊢
      have hp11 := HP11.out
      have hr11 := HR11.out
      clear hW11 hcl
      go_wp2_with (first | (refine wpList_load_row rfl _ _ rfl _ rfl _ _ _ _ hp11 Tryd.underlying33 rfl HIN.out ?_) | (refine wpList_store_row rfl _ _ _ rfl _ _ rfl rfl _ _ hr11 HIN.out rfl (one11 _ _ _ _ _ _ _ _ _ _ _) ?_))
      have hl := fun j => cell_setRow_same W11 (X.heap.size + 1) j _ #[.int .u64 x, .int .u64 0, .int .u64 0, .int .u64 0, .int .u64 0, .int .u64 0, .int .u64 r6, .int .u64 r7, .int .u64 r8, .int .u64 r9, .int .u64 r10] _ _ hr11
      have HFIN : Aside0 (∃ W, Below X.heap.size X W ∧ QP W (W11.setRow (X.heap.size + 1) #[.int .u64 x, .int .u64 0, .int .u64 0, .int .u64 0, .int .u64 0, .int .u64 0, .int .u64 r6, .int .u64 r7, .int .u64 r8, .int .u64 r9, .int .u64 r10])) := ⟨_, HB9.out, HOK.out _ _ _ HQ9.out ((HQ11.out.mono (fun k _ hk => by rw [hk]; exact ⟨Nat.le_refl _, Nat.lt_of_succ_lt HL9.out⟩)).trans ((out_row #[.int .u64 x, .int .u64 0, .int .u64 0, .int .u64 0, .int .u64 0, .int .u64 0, .int .u64 r6, .int .u64 r7, .int .u64 r8, .int .u64 r9, .int .u64 r10]).mono (fun k _ hk => by rw [hk]; exact ⟨Nat.le_succ _, HL9.out⟩)) (fun _ _ h => h))⟩
      exact bodyPost_ret (v := .tuple #[.agg #[.int .u64 x, .int .u64 0, .int .u64 0, .int .u64 0, .int .u64 0, .int .u64 0, .int .u64 r6, .int .u64 r7, .int .u64 r8, .int .u64 r9, .int .u64 r10], .int .i64 0]) (by simp [results, Tryd.results11, go_sem, hl]) rfl ⟨rfl, HFIN.out⟩
end Go.Proofs.YtomnfkihieinbaaDoor.PAll
/- helper: Call's walks without a fault at the key. Written by gen_call.py. -/
set_option linter.unusedVariables false
set_option linter.unusedSimpArgs false
namespace Go.Proofs.YtomnfkihieinbaaDoor.PAll
open Go.RowKit Go.Shelf Go.Maps Go.Proofs.YtomnfkihieinbaaDoorW.PrintWords Go.Proofs.YtomnfkihieinbaaDoorW.PrintLast Go.Proofs.YtomnfkihieinbaaDoorW.PrintMore
set_option maxHeartbeats 8000000 in
set_option maxRecDepth 100000 in
theorem call_upd (X : World) (t m : Nat) (i r0 r1 r2 r3 r4 r5 r6 r7 r8 r9 r10 dk dv de x : Int) (nm : ByteArray) (key value : List Int) (QP : World → World → Prop) (HI : Aside0 (IndexC X t r1 i true)) (HD : Aside0 (DefC X t i nm dk dv de)) (HY : Aside0 (BytesC X m r2 dk true key)) (HZ : Aside0 (BytesC X m r3 dv true value)) (HOK : Aside0 (QPok X QP)) (HV : Aside0 (FinC X 54 t i key value x QP)) :
    Calls Tryd.prog 11 #[.pointer (some ⟨t, 0, none⟩), .pointer (some ⟨m, 0, none⟩), .int .i64 2, .agg #[.int .u64 r0, .int .u64 r1, .int .u64 r2, .int .u64 r3, .int .u64 r4, .int .u64 r5, .int .u64 r6, .int .u64 r7, .int .u64 r8, .int .u64 r9, .int .u64 r10]] X fun e X' => e = .returned (.tuple #[.agg #[.int .u64 x, .int .u64 0, .int .u64 0, .int .u64 0, .int .u64 0, .int .u64 0, .int .u64 r6, .int .u64 r7, .int .u64 r8, .int .u64 r9, .int .u64 r10], .int .i64 0]) ∧ ∃ W, Below X.heap.size X W ∧ QP W X' := by
  have hfd1 : ∀ w : World, (Instr.field 28 (.agg #[.string nm, .int .i64 dk, .int .i64 dv, .int .i64 de]) 1).run Tryd.prog w = .ok (.int .i64 dk) w := fun _ => rfl
  have hfd2 : ∀ w : World, (Instr.field 28 (.agg #[.string nm, .int .i64 dk, .int .i64 dv, .int .i64 de]) 2).run Tryd.prog w = .ok (.int .i64 dv) w := fun _ => rfl
  have HB0 := Aside0.mk (boxes_start X #[.int .u64 r0, .int .u64 r1, .int .u64 r2, .int .u64 r3, .int .u64 r4, .int .u64 r5, .int .u64 r6, .int .u64 r7, .int .u64 r8, .int .u64 r9, .int .u64 r10] #[.int .u64 0, .int .u64 0, .int .u64 0, .int .u64 0, .int .u64 0, .int .u64 0, .int .u64 0, .int .u64 0, .int .u64 0, .int .u64 0, .int .u64 0] #[.pointer (some ⟨t, 0, none⟩), .int .i64 i, .slice none 0 0, .slice none 0 0])
  obtain ⟨W0, hW0⟩ : ∃ W0, (((X.alloc (.cells #[.int .u64 r0, .int .u64 r1, .int .u64 r2, .int .u64 r3, .int .u64 r4, .int .u64 r5, .int .u64 r6, .int .u64 r7, .int .u64 r8, .int .u64 r9, .int .u64 r10] 33)).alloc (.cells #[.int .u64 0, .int .u64 0, .int .u64 0, .int .u64 0, .int .u64 0, .int .u64 0, .int .u64 0, .int .u64 0, .int .u64 0, .int .u64 0, .int .u64 0] 33)).alloc (.cells #[.pointer (some ⟨t, 0, none⟩), .int .i64 i, .slice none 0 0, .slice none 0 0] 84)) = W0 := ⟨_, rfl⟩
  have HW0 := Aside0.mk hW0
  rw [hW0] at HB0
  clear hW0
  have HCELL2 : Aside0 (∀ w cs, Boxes X w #[.int .u64 r0, .int .u64 r1, .int .u64 r2, .int .u64 r3, .int .u64 r4, .int .u64 r5, .int .u64 r6, .int .u64 r7, .int .u64 r8, .int .u64 r9, .int .u64 r10] #[.int .u64 0, .int .u64 0, .int .u64 0, .int .u64 0, .int .u64 0, .int .u64 0, .int .u64 0, .int .u64 0, .int .u64 0, .int .u64 0, .int .u64 0] cs → w.cell? ⟨X.heap.size, 2, none⟩ = some (.int .u64 r2)) := ⟨fun w cs h => by simp [World.cell?, h.p]⟩
  have HCELL3 : Aside0 (∀ w cs, Boxes X w #[.int .u64 r0, .int .u64 r1, .int .u64 r2, .int .u64 r3, .int .u64 r4, .int .u64 r5, .int .u64 r6, .int .u64 r7, .int .u64 r8, .int .u64 r9, .int .u64 r10] #[.int .u64 0, .int .u64 0, .int .u64 0, .int .u64 0, .int .u64 0, .int .u64 0, .int .u64 0, .int .u64 0, .int .u64 0, .int .u64 0, .int .u64 0] cs → w.cell? ⟨X.heap.size, 3, none⟩ = some (.int .u64 r3)) := ⟨fun w cs h => by simp [World.cell?, h.p]⟩
  have HCC2 : Aside0 (∀ w c0 c1 c2 c3, Boxes X w #[.int .u64 r0, .int .u64 r1, .int .u64 r2, .int .u64 r3, .int .u64 r4, .int .u64 r5, .int .u64 r6, .int .u64 r7, .int .u64 r8, .int .u64 r9, .int .u64 r10] #[.int .u64 0, .int .u64 0, .int .u64 0, .int .u64 0, .int .u64 0, .int .u64 0, .int .u64 0, .int .u64 0, .int .u64 0, .int .u64 0, .int .u64 0] #[c0, c1, c2, c3] → w.cell? ⟨X.heap.size + 2, 2, none⟩ = some c2 ∧ w.frozen? ⟨X.heap.size + 2, 2, none⟩ = false) := ⟨fun w c0 c1 c2 c3 h => ⟨by simp [World.cell?, h.c], by simp [World.frozen?, h.c]⟩⟩
  have HCC3 : Aside0 (∀ w c0 c1 c2 c3, Boxes X w #[.int .u64 r0, .int .u64 r1, .int .u64 r2, .int .u64 r3, .int .u64 r4, .int .u64 r5, .int .u64 r6, .int .u64 r7, .int .u64 r8, .int .u64 r9, .int .u64 r10] #[.int .u64 0, .int .u64 0, .int .u64 0, .int .u64 0, .int .u64 0, .int .u64 0, .int .u64 0, .int .u64 0, .int .u64 0, .int .u64 0, .int .u64 0] #[c0, c1, c2, c3] → w.cell? ⟨X.heap.size + 2, 3, none⟩ = some c3 ∧ w.frozen? ⟨X.heap.size + 2, 3, none⟩ = false) := ⟨fun w c0 c1 c2 c3 h => ⟨by simp [World.cell?, h.c], by simp [World.frozen?, h.c]⟩⟩
  have HCCA : Aside0 (∀ w c0 c1 c2 c3, Boxes X w #[.int .u64 r0, .int .u64 r1, .int .u64 r2, .int .u64 r3, .int .u64 r4, .int .u64 r5, .int .u64 r6, .int .u64 r7, .int .u64 r8, .int .u64 r9, .int .u64 r10] #[.int .u64 0, .int .u64 0, .int .u64 0, .int .u64 0, .int .u64 0, .int .u64 0, .int .u64 0, .int .u64 0, .int .u64 0, .int .u64 0, .int .u64 0] #[c0, c1, c2, c3] → w.cell? ⟨X.heap.size + 2, 0, none⟩ = some c0 ∧ w.cell? ⟨X.heap.size + 2, 1, none⟩ = some c1 ∧ w.cell? ⟨X.heap.size + 2, 2, none⟩ = some c2 ∧ w.cell? ⟨X.heap.size + 2, 3, none⟩ = some c3) := ⟨fun w c0 c1 c2 c3 h => ⟨by simp [World.cell?, h.c], by simp [World.cell?, h.c], by simp [World.cell?, h.c], by simp [World.cell?, h.c]⟩⟩
  have hix : ∀ w : World, (Instr.index 87 (.agg #[.func (.func 53) #[] #[], .func (.func 54) #[] #[], .func (.func 55) #[] #[]]) (.int .i64 (IntKind.i64.wrap 1))).run Tryd.prog w = .ok (.func (.func 54) #[] #[]) w := fun _ => by kernel_rfl
  have HIN : Aside0 ((Tryd.prog.info? 33).map (·.size) = some 11) := ⟨by kernel_rfl⟩
  go_enter Tryd.func11, Tryd.ntmps11
  go_wp2_with fail
  refine (HI.out _ (below_alloc (below_alloc (Below.refl _ _) _) _)).mono ?_
  rintro e X' ⟨rfl, rfl⟩
  go_wp2_with fail
  rw [HW0.out]
  have hcur : Below W0.heap.size W0 W0.drew := below_drew (Below.refl _ _)
  have hbx := HB0.out.next hcur
  have hx2 := HCELL2.out _ _ hbx
  go_region_with (first | (go_at_call 32; refine (HD.out _ (Boxes.below (by assumption))).mono ?_; rintro e w4 ⟨rfl, hb4⟩; have hbx4 := Boxes.next (by assumption) hb4; have hx4 := HCELL2.out _ _ hbx4; have hcur4 := below_then (by assumption) (Below.size (by assumption)) hb4; clear hb4) | (go_at_call 22; refine (HY.out _ (Boxes.below (by assumption))).mono ?_; rintro e w5 ⟨⟨A, nn, c, rfl, hC⟩, hb5⟩; have HROW := Aside0.mk (RowC.new (by assumption) hC.out); have hbx5 := Boxes.next (by assumption) hb5; have hcur5 := below_then (by assumption) (Below.size (by assumption)) hb5; obtain ⟨hc5, hf5⟩ := HCC2.out _ _ _ _ _ hbx5; clear hb5 hC))
  all_goals
    have HBX6 := Aside0.mk (hbx5.setC 2 (.slice A nn c) _ rfl)
    have HRC6 := Aside0.mk (HROW.out.set 2 (.slice A nn c))
    obtain ⟨W6, hW6⟩ : ∃ W6, w5.setCell ⟨X.heap.size + 2, 2, none⟩ (.slice A nn c) = W6 := ⟨_, rfl⟩
    rw [hW6] at HBX6 HRC6 ⊢
    clear hW6 hbx5 hc5 hf5 hx4 hbx4 hx2 hbx hcur hcur4 hcur5 HROW
    have hcur : Below W6.heap.size W6 W6.drew := below_drew (Below.refl _ _)
    have hbx := HBX6.out.next hcur
    have hx3 := HCELL3.out _ _ hbx
    go_wp2_with fail
    go_region_with (first | (go_at_call 32; refine (HD.out _ (Boxes.below (by assumption))).mono ?_; rintro e w4 ⟨rfl, hb4⟩; have hbx4 := Boxes.next (by assumption) hb4; have hx4 := HCELL3.out _ _ hbx4; have hcur4 := below_then (by assumption) (Below.size (by assumption)) hb4; clear hb4) | (go_at_call 22; refine (HZ.out _ (Boxes.below (by assumption))).mono ?_; rintro e w5 ⟨⟨A, nn, c, rfl, hC⟩, hb5⟩; have HROW := Aside0.mk (RowC.new (by assumption) hC.out); have hbx5 := Boxes.next (by assumption) hb5; have hcur5 := below_then (by assumption) (Below.size (by assumption)) hb5; obtain ⟨hc5, hf5⟩ := HCC3.out _ _ _ _ _ hbx5; clear hb5 hC))
    all_goals
      have HBX7 := Aside0.mk (hbx5.setC 3 (.slice A nn c) _ rfl)
      have HRC7 := Aside0.mk (HROW.out.set 3 (.slice A nn c))
      have HRK := Aside0.mk ((HRC6.out.below hcur5).set 3 (.slice A nn c))
      obtain ⟨W7, hW6⟩ : ∃ W6, w5.setCell ⟨X.heap.size + 2, 3, none⟩ (.slice A nn c) = W6 := ⟨_, rfl⟩
      rw [hW6] at HBX7 HRC7 HRK ⊢
      clear hW6 hbx5 hc5 hf5 hx4 hbx4 hx3 hbx hcur hcur4 hcur5 HROW
      have hbx6 := HBX7.out.next (below_drew (Below.refl _ _))
      have hcur6 : Below W7.heap.size W7 W7.drew := below_drew (Below.refl _ _)
      obtain ⟨y0, y1, y2, y3⟩ := HCCA.out _ _ _ _ _ hbx6
      go_wp2_with fail
      go_region_with (first | (go_at_call 33; refine (helpers_c _).mono ?_; rintro e w8 ⟨rfl, hb8⟩; have hbx8 := Boxes.next hbx6 hb8; have hcur8 := below_then hcur6 hcur6.size hb8; obtain ⟨z0, z1, z2, z3⟩ := HCCA.out _ _ _ _ _ hbx8; unfold hV; clear hb8) | (go_at_call 54; refine (HV.out _ _ _ _ _ _ _ (Boxes.below hbx8) (HRK.out.below hcur8) (HRC7.out.below hcur8)).mono ?_; rintro e w9 ⟨rfl, hQ, hs9, hk9⟩; have HB9 := Aside0.mk hbx8.below; have hp9 := (hk9 _ (Nat.le_refl _) (Array.getElem?_eq_some_iff.1 hbx8.p).1).trans hbx8.p; have hr9 := (hk9 _ (Nat.le_succ _) (Array.getElem?_eq_some_iff.1 hbx8.r).1).trans hbx8.r; have HL9 := Aside0.mk (Array.getElem?_eq_some_iff.1 hbx8.r).1; have HQ := Aside0.mk hQ; have hq0 : w9.cell? ⟨X.heap.size, 0, none⟩ = some (.int .u64 r0) := (by simp [World.cell?, hp9]); have hf0 : w9.frozen? ⟨X.heap.size, 0, none⟩ = false := (by simp [World.frozen?, hp9]); clear hQ hs9 hk9))
      all_goals
        have HP9 := Aside0.mk (blk_put hp9 0 (.int .u64 x) rfl)
        have HR9 : Aside0 ((w9.setCell ⟨X.heap.size, 0, none⟩ (.int .u64 x)).heap[X.heap.size + 1]? = some (.cells #[.int .u64 0, .int .u64 0, .int .u64 0, .int .u64 0, .int .u64 0, .int .u64 0, .int .u64 0, .int .u64 0, .int .u64 0, .int .u64 0, .int .u64 0] 33 (0, 0))) := ⟨(Below.heap_setCell w9 ⟨X.heap.size, 0, none⟩ _ _ (Nat.succ_ne_self _)).trans hr9⟩
        have HQ9 := HOK.out _ _ _ HQ.out ((set_out w9 X.heap.size 0 (.int .u64 x)).mono (fun k _ hk => by rw [hk]; exact ⟨Nat.le_refl _, Nat.lt_of_succ_lt HL9.out⟩))
        have HQ9 := Aside0.mk HQ9
        obtain ⟨W10, hW10⟩ : ∃ W10, w9.setCell ⟨X.heap.size, 0, none⟩ (.int .u64 x) = W10 := ⟨_, rfl⟩
        rw [hW10] at HP9 HR9 HQ9 ⊢
        have hcl : ∀ ty, (Builtin.clear_ #[75] ty #[.slice (some ⟨X.heap.size, 1, none⟩) 5 10]).run Tryd.prog W10 = .ok (.tuple #[]) (W10.setCells X.heap.size 1 [.int .u64 0, .int .u64 0, .int .u64 0, .int .u64 0, .int .u64 0]) := fun ty => Lib.run_clear_slice W10 75 30 ty (.int .u64 0) Tryd.underlying75 zeroU64' rfl rfl X.heap.size 1 5 10 (by decide) (fun j hj => by
            have h := HP9.out
            simp [World.cell?, h]; omega) (fun j hj => by
            have h := HP9.out
            simp [World.frozen?, h])
        have HP11 : Aside0 ((W10.setCells X.heap.size 1 [.int .u64 0, .int .u64 0, .int .u64 0, .int .u64 0, .int .u64 0]).heap[X.heap.size]? = some (.cells #[.int .u64 x, .int .u64 0, .int .u64 0, .int .u64 0, .int .u64 0, .int .u64 0, .int .u64 r6, .int .u64 r7, .int .u64 r8, .int .u64 r9, .int .u64 r10] 33 (0, 0))) := ⟨by
          simp only [World.setCells]
          exact blk_put (blk_put (blk_put (blk_put (blk_put HP9.out 1 (.int .u64 0) rfl) 2 (.int .u64 0) rfl) 3 (.int .u64 0) rfl) 4 (.int .u64 0) rfl) 5 (.int .u64 0) rfl⟩
        have HS11 : ∀ k, k ≠ X.heap.size → (W10.setCells X.heap.size 1 [.int .u64 0, .int .u64 0, .int .u64 0, .int .u64 0, .int .u64 0]).heap[k]? = W10.heap[k]? := fun k hk => by
          simp only [World.setCells]
          rw [Below.heap_setCell _ ⟨X.heap.size, _, none⟩ _ k hk, Below.heap_setCell _ ⟨X.heap.size, _, none⟩ _ k hk, Below.heap_setCell _ ⟨X.heap.size, _, none⟩ _ k hk, Below.heap_setCell _ ⟨X.heap.size, _, none⟩ _ k hk, Below.heap_setCell _ ⟨X.heap.size, _, none⟩ _ k hk]
        have HR11 : Aside0 ((W10.setCells X.heap.size 1 [.int .u64 0, .int .u64 0, .int .u64 0, .int .u64 0, .int .u64 0]).heap[X.heap.size + 1]? = some (.cells #[.int .u64 0, .int .u64 0, .int .u64 0, .int .u64 0, .int .u64 0, .int .u64 0, .int .u64 0, .int .u64 0, .int .u64 0, .int .u64 0, .int .u64 0] 33 (0, 0))) := ⟨(HS11 _ (Nat.succ_ne_self _)).trans HR9.out⟩
        have HQ11 : Aside0 (Out (fun k => k = X.heap.size) W10 (W10.setCells X.heap.size 1 [.int .u64 0, .int .u64 0, .int .u64 0, .int .u64 0, .int .u64 0])) := ⟨by
          simp only [World.setCells]
          exact ((((set_out _ _ _ _).trans (set_out _ _ _ _) (fun _ _ h => h)).trans (set_out _ _ _ _) (fun _ _ h => h)).trans (set_out _ _ _ _) (fun _ _ h => h)).trans (set_out _ _ _ _) (fun _ _ h => h)⟩
        clear hW10 hp9 hr9 hq0 hf0 HS11 y0 y1 y2 y3 z0 z1 z2 z3 hbx6 hbx8 hcur6 hcur8
        go_upto_region 14 with (simp only [hcl])
        obtain ⟨W11, hW11⟩ : ∃ W11, W10.setCells X.heap.size 1 [.int .u64 0, .int .u64 0, .int .u64 0, .int .u64 0, .int .u64 0] = W11 := ⟨_, rfl⟩
        rw [hW11] at HP11 HR11 HQ11 ⊢
        have hp11 := HP11.out
        have hr11 := HR11.out
        clear hW11 hcl
        go_wp2_with (first | (refine wpList_load_row rfl _ _ rfl _ rfl _ _ _ _ hp11 Tryd.underlying33 rfl HIN.out ?_) | (refine wpList_store_row rfl _ _ _ rfl _ _ rfl rfl _ _ hr11 HIN.out rfl (one11 _ _ _ _ _ _ _ _ _ _ _) ?_))
        have hl := fun j => cell_setRow_same W11 (X.heap.size + 1) j _ #[.int .u64 x, .int .u64 0, .int .u64 0, .int .u64 0, .int .u64 0, .int .u64 0, .int .u64 r6, .int .u64 r7, .int .u64 r8, .int .u64 r9, .int .u64 r10] _ _ hr11
        have HFIN : Aside0 (∃ W, Below X.heap.size X W ∧ QP W (W11.setRow (X.heap.size + 1) #[.int .u64 x, .int .u64 0, .int .u64 0, .int .u64 0, .int .u64 0, .int .u64 0, .int .u64 r6, .int .u64 r7, .int .u64 r8, .int .u64 r9, .int .u64 r10])) := ⟨_, HB9.out, HOK.out _ _ _ HQ9.out ((HQ11.out.mono (fun k _ hk => by rw [hk]; exact ⟨Nat.le_refl _, Nat.lt_of_succ_lt HL9.out⟩)).trans ((out_row #[.int .u64 x, .int .u64 0, .int .u64 0, .int .u64 0, .int .u64 0, .int .u64 0, .int .u64 r6, .int .u64 r7, .int .u64 r8, .int .u64 r9, .int .u64 r10]).mono (fun k _ hk => by rw [hk]; exact ⟨Nat.le_succ _, HL9.out⟩)) (fun _ _ h => h))⟩
        exact bodyPost_ret (v := .tuple #[.agg #[.int .u64 x, .int .u64 0, .int .u64 0, .int .u64 0, .int .u64 0, .int .u64 0, .int .u64 r6, .int .u64 r7, .int .u64 r8, .int .u64 r9, .int .u64 r10], .int .i64 0]) (by simp [results, Tryd.results11, go_sem, hl]) rfl ⟨rfl, HFIN.out⟩
end Go.Proofs.YtomnfkihieinbaaDoor.PAll
/- helper: Call's walks without a fault at the key. Written by gen_call.py. -/
set_option linter.unusedVariables false
set_option linter.unusedSimpArgs false
namespace Go.Proofs.YtomnfkihieinbaaDoor.PAll
open Go.RowKit Go.Shelf Go.Maps Go.Proofs.YtomnfkihieinbaaDoorW.PrintWords Go.Proofs.YtomnfkihieinbaaDoorW.PrintLast Go.Proofs.YtomnfkihieinbaaDoorW.PrintMore
set_option maxHeartbeats 8000000 in
set_option maxRecDepth 100000 in
theorem call_noval (X : World) (t m : Nat) (i r0 r1 r2 r3 r4 r5 r6 r7 r8 r9 r10 dk dv de x : Int) (nm : ByteArray) (key value : List Int) (QP : World → World → Prop) (HI : Aside0 (IndexC X t r1 i true)) (HD : Aside0 (DefC X t i nm dk dv de)) (HY : Aside0 (BytesC X m r2 dk true key)) (HZ : Aside0 (BytesC X m r3 dv false value)) :
    Calls Tryd.prog 11 #[.pointer (some ⟨t, 0, none⟩), .pointer (some ⟨m, 0, none⟩), .int .i64 2, .agg #[.int .u64 r0, .int .u64 r1, .int .u64 r2, .int .u64 r3, .int .u64 r4, .int .u64 r5, .int .u64 r6, .int .u64 r7, .int .u64 r8, .int .u64 r9, .int .u64 r10]] X fun e X' => e = .returned (.tuple #[.agg #[.int .u64 r0, .int .u64 r1, .int .u64 r2, .int .u64 r3, .int .u64 r4, .int .u64 r5, .int .u64 r6, .int .u64 r7, .int .u64 r8, .int .u64 r9, .int .u64 r10], .int .i64 1]) ∧ Below X.heap.size X X' := by
  have hfd1 : ∀ w : World, (Instr.field 28 (.agg #[.string nm, .int .i64 dk, .int .i64 dv, .int .i64 de]) 1).run Tryd.prog w = .ok (.int .i64 dk) w := fun _ => rfl
  have hfd2 : ∀ w : World, (Instr.field 28 (.agg #[.string nm, .int .i64 dk, .int .i64 dv, .int .i64 de]) 2).run Tryd.prog w = .ok (.int .i64 dv) w := fun _ => rfl
  have HB0 := Aside0.mk (boxes_start X #[.int .u64 r0, .int .u64 r1, .int .u64 r2, .int .u64 r3, .int .u64 r4, .int .u64 r5, .int .u64 r6, .int .u64 r7, .int .u64 r8, .int .u64 r9, .int .u64 r10] #[.int .u64 0, .int .u64 0, .int .u64 0, .int .u64 0, .int .u64 0, .int .u64 0, .int .u64 0, .int .u64 0, .int .u64 0, .int .u64 0, .int .u64 0] #[.pointer (some ⟨t, 0, none⟩), .int .i64 i, .slice none 0 0, .slice none 0 0])
  obtain ⟨W0, hW0⟩ : ∃ W0, (((X.alloc (.cells #[.int .u64 r0, .int .u64 r1, .int .u64 r2, .int .u64 r3, .int .u64 r4, .int .u64 r5, .int .u64 r6, .int .u64 r7, .int .u64 r8, .int .u64 r9, .int .u64 r10] 33)).alloc (.cells #[.int .u64 0, .int .u64 0, .int .u64 0, .int .u64 0, .int .u64 0, .int .u64 0, .int .u64 0, .int .u64 0, .int .u64 0, .int .u64 0, .int .u64 0] 33)).alloc (.cells #[.pointer (some ⟨t, 0, none⟩), .int .i64 i, .slice none 0 0, .slice none 0 0] 84)) = W0 := ⟨_, rfl⟩
  have HW0 := Aside0.mk hW0
  rw [hW0] at HB0
  clear hW0
  have HCELL2 : Aside0 (∀ w cs, Boxes X w #[.int .u64 r0, .int .u64 r1, .int .u64 r2, .int .u64 r3, .int .u64 r4, .int .u64 r5, .int .u64 r6, .int .u64 r7, .int .u64 r8, .int .u64 r9, .int .u64 r10] #[.int .u64 0, .int .u64 0, .int .u64 0, .int .u64 0, .int .u64 0, .int .u64 0, .int .u64 0, .int .u64 0, .int .u64 0, .int .u64 0, .int .u64 0] cs → w.cell? ⟨X.heap.size, 2, none⟩ = some (.int .u64 r2)) := ⟨fun w cs h => by simp [World.cell?, h.p]⟩
  have HCELL3 : Aside0 (∀ w cs, Boxes X w #[.int .u64 r0, .int .u64 r1, .int .u64 r2, .int .u64 r3, .int .u64 r4, .int .u64 r5, .int .u64 r6, .int .u64 r7, .int .u64 r8, .int .u64 r9, .int .u64 r10] #[.int .u64 0, .int .u64 0, .int .u64 0, .int .u64 0, .int .u64 0, .int .u64 0, .int .u64 0, .int .u64 0, .int .u64 0, .int .u64 0, .int .u64 0] cs → w.cell? ⟨X.heap.size, 3, none⟩ = some (.int .u64 r3)) := ⟨fun w cs h => by simp [World.cell?, h.p]⟩
  have HCC2 : Aside0 (∀ w c0 c1 c2 c3, Boxes X w #[.int .u64 r0, .int .u64 r1, .int .u64 r2, .int .u64 r3, .int .u64 r4, .int .u64 r5, .int .u64 r6, .int .u64 r7, .int .u64 r8, .int .u64 r9, .int .u64 r10] #[.int .u64 0, .int .u64 0, .int .u64 0, .int .u64 0, .int .u64 0, .int .u64 0, .int .u64 0, .int .u64 0, .int .u64 0, .int .u64 0, .int .u64 0] #[c0, c1, c2, c3] → w.cell? ⟨X.heap.size + 2, 2, none⟩ = some c2 ∧ w.frozen? ⟨X.heap.size + 2, 2, none⟩ = false) := ⟨fun w c0 c1 c2 c3 h => ⟨by simp [World.cell?, h.c], by simp [World.frozen?, h.c]⟩⟩
  have HCC3 : Aside0 (∀ w c0 c1 c2 c3, Boxes X w #[.int .u64 r0, .int .u64 r1, .int .u64 r2, .int .u64 r3, .int .u64 r4, .int .u64 r5, .int .u64 r6, .int .u64 r7, .int .u64 r8, .int .u64 r9, .int .u64 r10] #[.int .u64 0, .int .u64 0, .int .u64 0, .int .u64 0, .int .u64 0, .int .u64 0, .int .u64 0, .int .u64 0, .int .u64 0, .int .u64 0, .int .u64 0] #[c0, c1, c2, c3] → w.cell? ⟨X.heap.size + 2, 3, none⟩ = some c3 ∧ w.frozen? ⟨X.heap.size + 2, 3, none⟩ = false) := ⟨fun w c0 c1 c2 c3 h => ⟨by simp [World.cell?, h.c], by simp [World.frozen?, h.c]⟩⟩
  have HCCA : Aside0 (∀ w c0 c1 c2 c3, Boxes X w #[.int .u64 r0, .int .u64 r1, .int .u64 r2, .int .u64 r3, .int .u64 r4, .int .u64 r5, .int .u64 r6, .int .u64 r7, .int .u64 r8, .int .u64 r9, .int .u64 r10] #[.int .u64 0, .int .u64 0, .int .u64 0, .int .u64 0, .int .u64 0, .int .u64 0, .int .u64 0, .int .u64 0, .int .u64 0, .int .u64 0, .int .u64 0] #[c0, c1, c2, c3] → w.cell? ⟨X.heap.size + 2, 0, none⟩ = some c0 ∧ w.cell? ⟨X.heap.size + 2, 1, none⟩ = some c1 ∧ w.cell? ⟨X.heap.size + 2, 2, none⟩ = some c2 ∧ w.cell? ⟨X.heap.size + 2, 3, none⟩ = some c3) := ⟨fun w c0 c1 c2 c3 h => ⟨by simp [World.cell?, h.c], by simp [World.cell?, h.c], by simp [World.cell?, h.c], by simp [World.cell?, h.c]⟩⟩
  have hix : ∀ w : World, (Instr.index 87 (.agg #[.func (.func 53) #[] #[], .func (.func 54) #[] #[], .func (.func 55) #[] #[]]) (.int .i64 (IntKind.i64.wrap 1))).run Tryd.prog w = .ok (.func (.func 54) #[] #[]) w := fun _ => by kernel_rfl
  have HIN : Aside0 ((Tryd.prog.info? 33).map (·.size) = some 11) := ⟨by kernel_rfl⟩
  go_enter Tryd.func11, Tryd.ntmps11
  go_wp2_with fail
  refine (HI.out _ (below_alloc (below_alloc (Below.refl _ _) _) _)).mono ?_
  rintro e X' ⟨rfl, rfl⟩
  go_wp2_with fail
  rw [HW0.out]
  have hcur : Below W0.heap.size W0 W0.drew := below_drew (Below.refl _ _)
  have hbx := HB0.out.next hcur
  have hx2 := HCELL2.out _ _ hbx
  go_region_with (first | (go_at_call 32; refine (HD.out _ (Boxes.below (by assumption))).mono ?_; rintro e w4 ⟨rfl, hb4⟩; have hbx4 := Boxes.next (by assumption) hb4; have hx4 := HCELL2.out _ _ hbx4; have hcur4 := below_then (by assumption) (Below.size (by assumption)) hb4; clear hb4) | (go_at_call 22; refine (HY.out _ (Boxes.below (by assumption))).mono ?_; rintro e w5 ⟨⟨A, nn, c, rfl, hC⟩, hb5⟩; have HROW := Aside0.mk (RowC.new (by assumption) hC.out); have hbx5 := Boxes.next (by assumption) hb5; have hcur5 := below_then (by assumption) (Below.size (by assumption)) hb5; obtain ⟨hc5, hf5⟩ := HCC2.out _ _ _ _ _ hbx5; clear hb5 hC))
  all_goals
    have HBX6 := Aside0.mk (hbx5.setC 2 (.slice A nn c) _ rfl)
    have HRC6 := Aside0.mk (HROW.out.set 2 (.slice A nn c))
    obtain ⟨W6, hW6⟩ : ∃ W6, w5.setCell ⟨X.heap.size + 2, 2, none⟩ (.slice A nn c) = W6 := ⟨_, rfl⟩
    rw [hW6] at HBX6 HRC6 ⊢
    clear hW6 hbx5 hc5 hf5 hx4 hbx4 hx2 hbx hcur hcur4 hcur5 HROW
    have hcur : Below W6.heap.size W6 W6.drew := below_drew (Below.refl _ _)
    have hbx := HBX6.out.next hcur
    have hx3 := HCELL3.out _ _ hbx
    go_wp2_with fail
    go_region_with (first | (go_at_call 32; refine (HD.out _ (Boxes.below (by assumption))).mono ?_; rintro e w4 ⟨rfl, hb4⟩; have hbx4 := Boxes.next (by assumption) hb4; have hx4 := HCELL3.out _ _ hbx4; have hcur4 := below_then (by assumption) (Below.size (by assumption)) hb4; clear hb4) | (go_at_call 22; refine (HZ.out _ (Boxes.below (by assumption))).mono ?_; rintro e w5 ⟨⟨A, nn, c, rfl, hC⟩, hb5⟩; have HROW := Aside0.mk (RowC.new (by assumption) hC.out); have hbx5 := Boxes.next (by assumption) hb5; have hcur5 := below_then (by assumption) (Below.size (by assumption)) hb5; obtain ⟨hc5, hf5⟩ := HCC3.out _ _ _ _ _ hbx5; clear hb5 hC))
    all_goals
      have HBX7 := Aside0.mk (hbx5.setC 3 (.slice A nn c) _ rfl)
      have HRC7 := Aside0.mk (HROW.out.set 3 (.slice A nn c))
      have HRK := Aside0.mk ((HRC6.out.below hcur5).set 3 (.slice A nn c))
      obtain ⟨W7, hW6⟩ : ∃ W6, w5.setCell ⟨X.heap.size + 2, 3, none⟩ (.slice A nn c) = W6 := ⟨_, rfl⟩
      rw [hW6] at HBX7 HRC7 HRK ⊢
      clear hW6 hbx5 hc5 hf5 hx4 hbx4 hx3 hbx hcur hcur4 hcur5 HROW
      have hp6 := HBX7.out.p
      have hr6 := HBX7.out.r
      go_wp2_with (first | (refine wpList_load_row rfl _ _ rfl _ rfl _ _ _ _ hp6 Tryd.underlying33 rfl HIN.out ?_) | (refine wpList_store_row rfl _ _ _ rfl _ _ rfl rfl _ _ hr6 HIN.out rfl (one11 _ _ _ _ _ _ _ _ _ _ _) ?_))
      have hl := fun j => cell_setRow_same W7 (X.heap.size + 1) j _ #[.int .u64 r0, .int .u64 r1, .int .u64 r2, .int .u64 r3, .int .u64 r4, .int .u64 r5, .int .u64 r6, .int .u64 r7, .int .u64 r8, .int .u64 r9, .int .u64 r10] _ _ hr6
      exact bodyPost_ret (v := .tuple #[.agg #[.int .u64 r0, .int .u64 r1, .int .u64 r2, .int .u64 r3, .int .u64 r4, .int .u64 r5, .int .u64 r6, .int .u64 r7, .int .u64 r8, .int .u64 r9, .int .u64 r10], .int .i64 1]) (by simp [results, Tryd.results11, go_sem, hl]) rfl ⟨rfl, below_setRow HBX7.out.below (Nat.le_succ _) _⟩
end Go.Proofs.YtomnfkihieinbaaDoor.PAll
/- helper: Call by what it answers. -/
set_option linter.unusedVariables false
set_option linter.unusedSimpArgs false
namespace Go.Proofs.YtomnfkihieinbaaDoor.PAll
open Go.RowKit Go.Shelf Go.Maps Go.Proofs.YtomnfkihieinbaaDoorW.PrintWords Go.Proofs.YtomnfkihieinbaaDoorW.PrintLast Go.Proofs.YtomnfkihieinbaaDoorW.PrintMore
/-- What a call answers and leaves. -/
structure CallR where
  fault : Int
  x : Int
  S : List MapS
  K : List Reg
def callG (S : List MapS) (K : List Reg) (which r1 r2 r3 : Int) : CallR :=
  if (indexF S.length r1).2 = true then
    match bytesF K r2 (defF S (indexF S.length r1).1).f1 with
    | none => ⟨1, 0, S, K⟩
    | some key =>
      if which = 2 then
        match bytesF K r3 (defF S (indexF S.length r1).1).f2 with
        | none => ⟨1, 0, S, K⟩
        | some value => ⟨0, IntKind.u64.wrap (updR S (indexF S.length r1).1 key value), updS S (indexF S.length r1).1 key value, updK S K (indexF S.length r1).1 key value⟩
      else if which = 1 then ⟨0, lookF S (indexF S.length r1).1 key, S, K⟩
      else ⟨0, IntKind.u64.wrap (delR S (indexF S.length r1).1 key), delS S (indexF S.length r1).1 key, delK S K (indexF S.length r1).1 key⟩
  else ⟨2, 0, S, K⟩
def KeysOk (S : List MapS) : Prop := ∀ s ∈ S, 0 ≤ s.key ∧ s.key ≤ 64
theorem index_ok {n : Nat} {h : Int} (hx : (indexF n h).2 = true) : 0 ≤ (indexF n h).1 ∧ (indexF n h).1 < n := by
  unfold indexF at hx ⊢
  split
  · rename_i h1; simp only; omega
  · rename_i h1; rw [if_neg h1] at hx; cases hx
theorem defF_ok {N : Nat} {S : List MapS} (hG : GoodS N S) (hS : KeysOk S) (i : Int) : 0 ≤ (defF S i).f1 ∧ (defF S i).f1 ≤ 64 ∧ 0 ≤ (defF S i).f2 ∧ (defF S i).f2 ≤ 65536 := by
  unfold defF
  cases hg : getP S i with
  | none => exact ⟨by decide, by decide, by decide, by decide⟩
  | some s =>
    have := hS s (getP_mem hg)
    have h2 := hG.2 s (getP_mem hg)
    exact ⟨this.1, this.2, h2.v0, h2.v1⟩
theorem index_C {B N : Nat} {F : Nat → Prop} {X : World} {t m : Nat} {S : List MapS} {K : List Reg} (h : LMF B N F X t m S K) {r1 : Int} (h0 : 0 ≤ r1) (h1 : r1 < 18446744073709551616) (i : Int) (ok : Bool) (hx : indexF S.length r1 = (i, ok)) : Aside0 (IndexC X t r1 i ok) :=
  ⟨fun W hb => lm_index W B N t m S K r1 (h.lm.below hb) h0 h1 (i, ok) hx⟩
theorem def_C {B N : Nat} {F : Nat → Prop} {X : World} {t m : Nat} {S : List MapS} {K : List Reg} (h : LMF B N F X t m S K) (i : Int) : Aside0 (DefC X t i (defF S i).f0 (defF S i).f1 (defF S i).f2 (defF S i).f3) :=
  ⟨fun W hb => lm_def W B N t m S K i (h.lm.below hb) _ rfl⟩
theorem bytes_C {B N : Nat} {F : Nat → Prop} {X : World} {t m : Nat} {S : List MapS} {K : List Reg} (h : LMF B N F X t m S K) (hK : K.length ≤ 99999) {a n : Int} (h0 : 0 ≤ a) (h1 : a < 18446744073709551616) (hn0 : 0 ≤ n) (hn1 : n ≤ 65536) (o : Option (List Int)) (ho : bytesF K a n = o) : Aside0 (BytesC X m a n o.isSome (o.getD [])) :=
  ⟨fun W hb => by
    subst ho
    refine (lm_bytes W B N t m S K a n (h.lm.below hb) (by omega) h0 h1 (by omega) (by omega)).mono ?_
    intro e X' hp
    obtain ⟨hb2, v, rfl, hR⟩ := hp
    obtain ⟨A, c, rfl, hc, hC⟩ := (byteS_R hR).C
    refine ⟨⟨A, _, c, rfl, ⟨hC, hc, fun ad e hn => ?_⟩⟩, hb2⟩
    subst e
    exact ((byteS_R hR).own ad.block rfl).1⟩
theorem LMF.dl {B N : Nat} {F : Nat → Prop} {w : World} {t m : Nat} {S : List MapS} {K : List Reg} (h : LMF B N F w t m S K) : DL K := by
  obtain ⟨_, _, _, v, ps, _, h⟩ := h
  exact h.swap.left.dlP
theorem bytes_wf {K : List Reg} (h : DL K) {a n : Int} {bs : List Int} (hb : bytesF K a n = some bs) (hn : n ≤ 65536) : IsBytes bs ∧ bs.length ≤ 65536 := by
  obtain ⟨h1, h2⟩ := bytesF_wf (fun r hr => (h.ok r hr).wf) hb
  exact ⟨h2, by omega⟩
/-- What stands behind the call. -/
def QC (B N : Nat) (F : Nat → Prop) (X : World) (t m : Nat) (S : List MapS) (K : List Reg) (W X' : World) : Prop := LMF B N (fun k => F k ∨ (X.heap.size ≤ k ∧ k < W.heap.size)) X' t m S K ∧ Kept F X X'
theorem qc_ok {B N : Nat} {F : Nat → Prop} {X : World} {t m : Nat} {S : List MapS} {K : List Reg} (hF : ∀ k, F k → k < X.heap.size) : Aside0 (QPok X (QC B N F X t m S K)) :=
  ⟨fun W X' X'' ⟨h1, h2⟩ ho => ⟨h1.other ho.size (fun k hk hn => ho.block k hk (fun hq => hn (.inr hq))), h2.trans (ho.mono (fun k _ hq hf => by have := hF k hf; omega))⟩⟩
theorem RowC.F {X W : World} {F : Nat → Prop} {A : Option Addr} {n c : Nat} {bs : List Int} (h : RowC X W A n c bs) : ∀ ad, A = some ad → 0 < bs.length → (F ad.block ∨ (X.heap.size ≤ ad.block ∧ ad.block < W.heap.size)) := fun ad e hn => by
  have hl := h.1.1
  refine .inr ⟨by have := h.2.2 ad e (by omega); omega, ?_⟩
  have hr := Kd.reads_of_C (enc := Value.int .u8) (d := (0 : Int)) (h1 := fun _ => rfl) h.1
  obtain ⟨ad', e', hc⟩ := hr.2.2 (by omega)
  rw [e] at e'
  cases e'
  have hb : (ad.add 0).block = ad.block := by simp only [Addr.add]; split <;> rfl
  rw [← hb]
  exact World.block_lt_of_cell? W _ (hc 0 (by omega))
theorem fin_post {P : Program} {B N : Nat} {F : Nat → Prop} {X W : World} {t m f : Nat} {S : List MapS} {K : List Reg} {args : Array Value} {x : Int} (hF : ∀ k, F k → k < X.heap.size) (hb : Below X.heap.size X W)
    (hc : Calls P f args W fun e X' => e = .returned (.int .u64 x) ∧ LMF B N (fun k => F k ∨ (X.heap.size ≤ k ∧ k < W.heap.size)) X' t m S K ∧ Kept (fun k => F k ∨ (X.heap.size ≤ k ∧ k < W.heap.size)) W X') :
    Calls P f args W fun e X' => e = .returned (.int .u64 x) ∧ QC B N F X t m S K W X' ∧ W.heap.size ≤ X'.heap.size ∧ ∀ k, X.heap.size ≤ k → k < W.heap.size → X'.heap[k]? = W.heap[k]? :=
  hc.mono fun e X' ⟨he, hm, hk⟩ => ⟨he, ⟨hm, (below_kept hb F).trans (hk.mono (fun k h => .inl h))⟩, hk.size, fun k h1 h2 => hk.block h2 (.inr ⟨h1, h2⟩)⟩
theorem qc_done {B N : Nat} {F : Nat → Prop} {X : World} {t m : Nat} {S : List MapS} {K : List Reg} {X' : World} (hB : ∀ k, k < B → F k) (h : ∃ W, Below X.heap.size X W ∧ QC B N F X t m S K W X') : LMF B N F X' t m S K ∧ Kept F X X' := by
  obtain ⟨W, _, h1, h2⟩ := h
  exact ⟨h1.weaken (fun k hk => .inl hk) hB, h2⟩
set_option maxHeartbeats 1000000 in
theorem call_ok (w : World) (B N : Nat) (F : Nat → Prop) (t m : Nat) (S : List MapS) (K : List Reg) (which r0 r1 r2 r3 r4 r5 r6 r7 r8 r9 r10 : Int) (h : LMF B N F w t m S K) (hN : N ≤ 10000) (hK : K.length ≤ 99999) (hS : KeysOk S) (h10 : 0 ≤ r1) (h11 : r1 < 18446744073709551616) (h20 : 0 ≤ r2) (h21 : r2 < 18446744073709551616) (h30 : 0 ≤ r3) (h31 : r3 < 18446744073709551616) (hw : which = 1 ∨ which = 2 ∨ which = 3)
    (x : Int) (S' : List MapS) (K' : List Reg) (hg : callG S K which r1 r2 r3 = ⟨0, x, S', K'⟩) :
    Calls Tryd.prog 11 #[.pointer (some ⟨t, 0, none⟩), .pointer (some ⟨m, 0, none⟩), .int .i64 which, .agg #[.int .u64 r0, .int .u64 r1, .int .u64 r2, .int .u64 r3, .int .u64 r4, .int .u64 r5, .int .u64 r6, .int .u64 r7, .int .u64 r8, .int .u64 r9, .int .u64 r10]] w fun e X' =>
      e = .returned (.tuple #[.agg #[.int .u64 x, .int .u64 0, .int .u64 0, .int .u64 0, .int .u64 0, .int .u64 0, .int .u64 r6, .int .u64 r7, .int .u64 r8, .int .u64 r9, .int .u64 r10], .int .i64 0]) ∧ LMF B (N + 1) F X' t m S' K' ∧ Kept F w X' := by
  obtain ⟨i, ok, hix⟩ : ∃ i ok, indexF S.length r1 = (i, ok) := ⟨_, _, rfl⟩
  have hd := defF_ok h.2.1 hS i
  have hlow := h.low
  unfold callG at hg
  rw [hix] at hg
  cases ok with
  | false => simp at hg
  | true =>
    have HI := index_C h h10 h11 i true hix
    have HD := def_C h i
    rw [if_pos rfl] at hg
    dsimp only at hg
    cases hk : bytesF K r2 (defF S i).f1 with
    | none => rw [hk] at hg; simp at hg
    | some key =>
      rw [hk] at hg
      dsimp only at hg
      obtain ⟨kb, kl⟩ := bytes_wf h.dl hk (by omega)
      have HY : Aside0 (BytesC w m r2 (defF S i).f1 true key) := bytes_C h hK h20 h21 hd.1 (by omega) _ hk
      rcases hw with rfl | rfl | rfl
      · rw [if_neg (by decide), if_pos rfl] at hg
        cases hg
        refine (call_look w t m i r0 r1 r2 r3 r4 r5 r6 r7 r8 r9 r10 _ _ _ _ _ key [] (QC B (N + 1) F w t m S K) HI HD HY (qc_ok hlow) ⟨fun W A1 n1 c1 A2 n2 c2 hb hk1 hk2 => fin_post hlow hb ?_⟩).mono fun e X' ⟨he, hq⟩ => ⟨he, qc_done h.2.2.1 hq⟩
        exact hlook_c W B N _ t m S K i A1 A2 n1 c1 n2 c2 key (h.more hb) hk1.1 kb _ rfl
      · rw [if_pos rfl] at hg
        cases hv : bytesF K r3 (defF S i).f2 with
        | none => rw [hv] at hg; simp at hg
        | some value =>
          rw [hv] at hg
          dsimp only at hg
          cases hg
          obtain ⟨vb, vl⟩ := bytes_wf h.dl hv (by omega)
          have HZ : Aside0 (BytesC w m r3 (defF S i).f2 true value) := bytes_C h hK h30 h31 hd.2.2.1 (by omega) _ hv
          refine (call_upd w t m i r0 r1 r2 r3 r4 r5 r6 r7 r8 r9 r10 _ _ _ _ _ key value (QC B (N + 1) F w t m _ _) HI HD HY HZ (qc_ok hlow) ⟨fun W A1 n1 c1 A2 n2 c2 hb hk1 hk2 => fin_post hlow hb ?_⟩).mono fun e X' ⟨he, hq⟩ => ⟨he, qc_done h.2.2.1 hq⟩
          exact hupd_c W B N _ t m S K i A1 A2 n1 c1 n2 c2 key value (h.more hb) hN hK hk1.1 hk1.F kb kl hk2.1 hk2.F vb hk2.2.1 vl
      · rw [if_neg (by decide), if_neg (by decide)] at hg
        cases hg
        refine (call_del w t m i r0 r1 r2 r3 r4 r5 r6 r7 r8 r9 r10 _ _ _ _ _ key [] (QC B (N + 1) F w t m _ _) HI HD HY (qc_ok hlow) ⟨fun W A1 n1 c1 A2 n2 c2 hb hk1 hk2 => fin_post hlow hb ?_⟩).mono fun e X' ⟨he, hq⟩ => ⟨he, qc_done h.2.2.1 hq⟩
        exact hdel_c W B N _ t m S K i A1 A2 n1 c1 n2 c2 key (h.more hb) hN hK hk1.1 hk1.F kb
set_option maxHeartbeats 1000000 in
theorem call_fault (w : World) (B N : Nat) (F : Nat → Prop) (t m : Nat) (S : List MapS) (K : List Reg) (which r0 r1 r2 r3 r4 r5 r6 r7 r8 r9 r10 : Int) (h : LMF B N F w t m S K) (hK : K.length ≤ 99999) (hS : KeysOk S) (h10 : 0 ≤ r1) (h11 : r1 < 18446744073709551616) (h20 : 0 ≤ r2) (h21 : r2 < 18446744073709551616) (h30 : 0 ≤ r3) (h31 : r3 < 18446744073709551616) (hw : which = 1 ∨ which = 2 ∨ which = 3)
    (f : Int) (hg : (callG S K which r1 r2 r3).fault = f) (hf : f ≠ 0) :
    Calls Tryd.prog 11 #[.pointer (some ⟨t, 0, none⟩), .pointer (some ⟨m, 0, none⟩), .int .i64 which, .agg #[.int .u64 r0, .int .u64 r1, .int .u64 r2, .int .u64 r3, .int .u64 r4, .int .u64 r5, .int .u64 r6, .int .u64 r7, .int .u64 r8, .int .u64 r9, .int .u64 r10]] w fun e X' =>
      e = .returned (.tuple #[.agg #[.int .u64 r0, .int .u64 r1, .int .u64 r2, .int .u64 r3, .int .u64 r4, .int .u64 r5, .int .u64 r6, .int .u64 r7, .int .u64 r8, .int .u64 r9, .int .u64 r10], .int .i64 f]) ∧ Below w.heap.size w X' := by
  obtain ⟨i, ok, hix⟩ : ∃ i ok, indexF S.length r1 = (i, ok) := ⟨_, _, rfl⟩
  have hd := defF_ok h.2.1 hS i
  unfold callG at hg
  rw [hix] at hg
  cases ok with
  | false =>
    have HI := index_C h h10 h11 i false hix
    simp at hg
    subst hg
    exact call_bad w t m which i r0 r1 r2 r3 r4 r5 r6 r7 r8 r9 r10 HI
  | true =>
    have HI := index_C h h10 h11 i true hix
    have HD := def_C h i
    rw [if_pos rfl] at hg
    dsimp only at hg
    cases hk : bytesF K r2 (defF S i).f1 with
    | none =>
      rw [hk] at hg
      dsimp only at hg
      subst hg
      have HY : Aside0 (BytesC w m r2 (defF S i).f1 false []) := bytes_C h hK h20 h21 hd.1 (by omega) _ hk
      exact call_nokey w t m which i r0 r1 r2 r3 r4 r5 r6 r7 r8 r9 r10 _ _ _ _ [] HI HD HY
    | some key =>
      rw [hk] at hg
      dsimp only at hg
      have HY : Aside0 (BytesC w m r2 (defF S i).f1 true key) := bytes_C h hK h20 h21 hd.1 (by omega) _ hk
      rcases hw with rfl | rfl | rfl
      · rw [if_neg (by decide), if_pos rfl] at hg
        exact absurd hg.symm hf
      · rw [if_pos rfl] at hg
        cases hv : bytesF K r3 (defF S i).f2 with
        | none =>
          rw [hv] at hg
          dsimp only at hg
          subst hg
          have HZ : Aside0 (BytesC w m r3 (defF S i).f2 false []) := bytes_C h hK h30 h31 hd.2.2.1 (by omega) _ hv
          exact call_noval w t m i r0 r1 r2 r3 r4 r5 r6 r7 r8 r9 r10 _ _ _ 0 _ key [] (fun _ _ => True) HI HD HY HZ
        | some value =>
          rw [hv] at hg
          exact absurd hg.symm hf
      · rw [if_neg (by decide), if_neg (by decide)] at hg
        exact absurd hg.symm hf
end Go.Proofs.YtomnfkihieinbaaDoor.PAll
