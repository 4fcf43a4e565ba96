/- helper: the law HelperValues. -/
import Derived.Test.YtomnfkihieinbaaDoorGHelpC
set_option linter.unusedVariables false
set_option linter.unusedSimpArgs false
namespace Go.Proofs.YtomnfkihieinbaaDoor.PAll
open Go.RowKit Go.Shelf Go.Maps Go.Proofs.YtomnfkihieinbaaDoorW.PrintWords Go.Proofs.YtomnfkihieinbaaDoorW.PrintLast Go.Proofs.YtomnfkihieinbaaDoorW.PrintMore
def vD : S28 := ⟨⟨#[]⟩, 1, 1, 2⟩
def vK0 (a b : Int) : List Reg := [⟨4294967296, [a, b]⟩]
def vK1 (a b : Int) : List Reg := [⟨4611686018427387904, [b]⟩, ⟨4294967296, [a, b]⟩]
def vK2 (a b : Int) : List Reg := [⟨4611686018427453440, [b]⟩, ⟨4611686018427387904, [b]⟩, ⟨4294967296, [a, b]⟩]
theorem vx0 : [vD].map newS = kS 1 1 2 [] 0 := rfl
theorem vx1 (a b : Int) : callG (kS 1 1 2 [] 0) (vK0 a b) 2 2305843009213693952 4294967296 4294967297 = ⟨0, 0, kS 1 1 2 [([a], 0)] 1, vK1 a b⟩ := by kernel_rfl
theorem vx2 (a : Int) : lookF (kS 1 1 2 [([a], 0)] 1) 0 [a] = 4611686018427387904 := by
  rw [one_look (z := 0) (by rw [look1]; simp)]
  exact a00
theorem vx3 (a b : Int) (h : a ≠ b) : callG (kS 1 1 2 [([a], 0)] 1) (vK1 a b) 2 2305843009213693952 4611686018427387904 4611686018427387904 = ⟨0, 0, kS 1 1 2 [([a], 0), ([b], 1)] 2, vK2 a b⟩ := by
  have hl : lookE [([a], (0 : Int))] [b] = none := by rw [look1, if_neg (by simpa using h)]
  obtain ⟨e1, e2, e3⟩ := one_new (kl := 1) (vl := 1) (n := 2) (key := [b]) (value := [b]) (ents := [([a], 0)]) (next := 1) (K := vK1 a b) rfl rfl hl (by show ((1 : Nat) : Int) < 2; decide)
  have hb : bytesF (vK1 a b) 4611686018427387904 1 = some [b] := by kernel_rfl
  unfold callG
  rw [show indexF (kS 1 1 2 [([a], 0)] 1).length 2305843009213693952 = (0, true) by kernel_rfl, if_pos rfl]
  dsimp only
  rw [show (defF (kS 1 1 2 [([a], 0)] 1) 0).f1 = 1 by kernel_rfl, show (defF (kS 1 1 2 [([a], 0)] 1) 0).f2 = 1 by kernel_rfl, hb]
  dsimp only
  have e4 : addG (vK1 a b) (addrF 0 1) [b] = vK2 a b := by kernel_rfl
  have e5 : IntKind.u64.wrap 0 = 0 := by kernel_rfl
  rw [if_pos rfl, e1, e2, e3, e4, e5, wr2]
  rfl
theorem vx4 (a b : Int) : entF (kS 1 1 2 [([a], 0), ([b], 1)] 2) (vK2 a b) 0 = [⟨[a], [b]⟩, ⟨[b], [b]⟩] := by kernel_rfl
theorem vks (ents : List (List Int × Int)) (next : Int) : KeysOk (kS 1 1 2 ents next) := fun s hs => by
  rw [List.mem_singleton.1 hs]; exact ⟨(by decide : (0 : Int) ≤ 1), (by decide : (1 : Int) ≤ 64)⟩
theorem lf_lookup1 (w : World) (B N : Nat) (F : Nat → Prop) (t m : Nat) (S : List MapS) (K : List Reg) (i : Int) (ck : Array Value) (n1 : Nat) (key : List Int) (h : LMF B N F w t m S K)
    (hck : ck = (nums .u8 key).toArray) (h1 : key.length = n1) (hkb : IsBytes key) (hkl : n1 ≤ 65536) (r : Int) (hr : lookF S i key = r) :
    Calls Tryd.prog 12 #[.pointer (some ⟨t, 0, none⟩), .int .i64 i, .slice (some ⟨w.heap.size, 0, none⟩) n1 n1] (w.alloc (.cells ck 5)) fun e X' => e = .returned (.int .u64 r) ∧ LMF B N F X' t m S K ∧ Below w.heap.size w X' := by
  subst h1
  have hb : Below w.heap.size w (w.alloc (.cells ck 5)) := below_alloc (Below.refl _ _) _
  refine (lm_lookup _ B N t m S K i _ key.length key.length key (h.lm.below hb) (lit_C w key ck hck (by unfold maxLen; omega)) hkb r hr).mono ?_
  rintro e X' ⟨he, hbb⟩
  exact ⟨he, (h.below hb).below hbb, hb.trans (hbb.mono hb.size)⟩
theorem isB1 {a : Int} (h0 : 0 ≤ a) (h1 : a < 256) : IsBytes [a] := fun x hx => by rw [List.mem_singleton.1 hx]; exact ⟨h0, h1⟩
theorem ent_lit2 (X : World) (e f : Ent) (g : Nat) (A0 A1 A2 A3 : Option Addr) (c0 c1 c2 c3 : Nat) (h : X.heap[g]? = some (.cells #[.slice A0 e.f0.length c0, .slice A1 e.f1.length c1, .slice A2 f.f0.length c2, .slice A3 f.f1.length c3] 42 (0, 0))) (l0 : e.f0.length ≤ c0) (k0 : Kd.C (Kd.int .u8) X A0 e.f0.length e.f0) (l1 : e.f1.length ≤ c1) (k1 : Kd.C (Kd.int .u8) X A1 e.f1.length e.f1)
    (l2 : f.f0.length ≤ c2) (k2 : Kd.C (Kd.int .u8) X A2 f.f0.length f.f0) (l3 : f.f1.length ≤ c3) (k3 : Kd.C (Kd.int .u8) X A3 f.f1.length f.f1) : Kd.C k42 X (some ⟨g, 0, none⟩) 2 [e, f] := by
  have hL : X.heap[g]? = some (.cells ([.slice A0 e.f0.length c0, .slice A1 e.f1.length c1, .slice A2 f.f0.length c2, .slice A3 f.f1.length c3] : List Value).toArray 42 (0, 0)) := h
  refine ⟨rfl, by decide, fun _ => ⟨_, rfl, fun j p hp => ?_⟩⟩
  match j, hp with
  | 0, hp =>
    cases hp
    refine ⟨_, rfl, k42_mk X e l0 k0 l1 k1, fun i u hu => ?_⟩
    rw [show ((⟨g, 0, none⟩ : Addr).add (0 * (k42).sz + i)) = ⟨g, i, none⟩ by rw [add_plain]; simp]
    rw [blk_cell hL i]
    match i, hu with
    | 0, hu => exact hu
    | 1, hu => exact hu
    | i + 2, hu => simp at hu
  | 1, hp =>
    cases hp
    refine ⟨_, rfl, k42_mk X f l2 k2 l3 k3, fun i u hu => ?_⟩
    rw [show ((⟨g, 0, none⟩ : Addr).add (1 * (k42).sz + i)) = ⟨g, 2 + i, none⟩ by rw [add_plain, Nat.one_mul]; rfl]
    rw [blk_cell hL (2 + i)]
    match i, hu with
    | 0, hu => exact hu
    | 1, hu => exact hu
    | i + 2, hu => simp at hu
  | j + 2, hp => simp at hp
set_option maxHeartbeats 8000000 in
set_option maxRecDepth 100000 in
theorem helperValues_r (X : World) (hL : LaidH X) (a b : Int) (hab : IntKind.u8.wrap (a + 1) = b) (hne : a ≠ b) (ha0 : 0 ≤ a) (ha1 : a < 256) (hb0 : 0 ≤ b) (hb1 : b < 256) :
    Calls Tryd.prog 3 #[.int .u8 a] X fun e X' => e = .returned (.bool true) ∧ Below X.heap.size X X' := by
  have HL := Aside0.mk hL
  have HAB := Aside0.mk (vx3 a b hne)
  have HWF := Aside0.mk (And.intro (isB1 ha0 ha1) (isB1 hb0 hb1))
  have HWF2 : Aside0 (IsBytes [a, b]) := ⟨fun x hx => by
    rcases List.mem_cons.1 hx with rfl | hx
    · exact ⟨ha0, ha1⟩
    · rw [List.mem_singleton.1 hx]; exact ⟨hb0, hb1⟩⟩
  obtain ⟨W0, hW0⟩ : ∃ W0, (X.alloc (.cells #[.int .u8 a, .int .u8 b] 5)).alloc (.cells #[.string ⟨#[]⟩, .int .i64 1, .int .i64 1, .int .i64 2] 28) = W0 := ⟨_, rfl⟩
  have HW0 := Aside0.mk hW0
  have HX0 : Aside0 (Below X.heap.size X W0) := ⟨by rw [← hW0]; exact below_alloc (below_alloc (Below.refl _ _) _) _⟩
  have HC0 : Aside0 (Kd.C (Kd.int .u8) W0 (some ⟨X.heap.size, 0, none⟩) 2 [a, b] ∧ Kd.C k28 W0 (some ⟨X.heap.size + 1, 0, none⟩) 1 [vD]) := ⟨by
    rw [← hW0]
    refine ⟨Kd.C_below (lit_C X [a, b] _ rfl (by unfold maxLen; show 2 ≤ _; decide)) (below_alloc (Below.refl _ _) _), def_lit _ vD _ ?_⟩
    have := heap_alloc_new (X.alloc (.cells #[.int .u8 a, .int .u8 b] 5)) (.cells #[.string ⟨#[]⟩, .int .i64 1, .int .i64 1, .int .i64 2] 28)
    have h2 : (X.alloc (.cells #[.int .u8 a, .int .u8 b] 5)).heap.size = X.heap.size + 1 := by simp
    rw [h2] at this
    exact this⟩
  clear hL hW0 hne ha0 ha1 hb0 hb1
  go_enter Tryd.func3, Tryd.ntmps3
  go_wp2_with fail
  have HABE := Aside0.mk hab
  clear hab
  rw [HW0.out]
  refine (start_c W0 _ _ 2 1 [a, b] [vD] HC0.out.1 (Nat.le_refl 2) (Nat.zero_lt_succ 1) (Nat.le_trans (Nat.le_refl 2) (by decide)) HWF2.out HC0.out.2 (by decide) (by decide)).mono ?_
  rintro e w1 ⟨⟨t, m, rfl, hm1⟩, hb1⟩
  rw [vx0] at hm1
  have HM1 := Aside0.mk hm1
  have HB1 : Aside0 (Below X.heap.size X w1) := ⟨HX0.out.trans (hb1.mono HX0.out.size)⟩
  obtain ⟨B, hB⟩ : ∃ B, W0.heap.size = B := ⟨_, rfl⟩
  have HXB : Aside0 (X.heap.size ≤ B) := ⟨hB ▸ HX0.out.size⟩
  rw [hB] at HM1
  obtain ⟨F, hF⟩ : ∃ F : Nat → Prop, (fun k => k < B) = F := ⟨_, rfl⟩
  rw [hF] at HM1
  clear hm1 hb1 hB hF
  go_wp2_with fail
  refine (handle_c 0 2305843009213693952 _ (by kernel_rfl)).mono ?_
  rintro e w' ⟨rfl, k1, rfl⟩
  have hdr : Below w1.heap.size w1 (w1.drewN k1) := pw_below_drewN (Below.refl _ _) _
  have HM1d := Aside0.mk (HM1.out.below hdr)
  have HB1d : Aside0 (Below X.heap.size X (w1.drewN k1)) := ⟨HB1.out.trans (hdr.mono HB1.out.size)⟩
  clear hdr
  go_wp2_with fail
  refine (call_ok _ B 0 F t m (kS 1 1 2 [] 0) (vK0 a b) 2 0 2305843009213693952 4294967296 4294967297 0 0 0 0 0 0 0 HM1d.out (by decide) (show 1 ≤ 99999 by decide) (vks _ _) (by decide) (by decide) (by decide) (by decide) (by decide) (by decide) (by decide) 0 _ _ (vx1 a b)).mono ?_
  rintro e w2 ⟨rfl, hm, hk⟩
  have HB2 : Aside0 (Below X.heap.size X w2) := ⟨HB1d.out.trans ((hk.below HM1d.out.1 HM1d.out.2.2.1).mono HXB.out)⟩
  have HM2 := Aside0.mk hm
  clear hm hk
  go_wp2_with fail
  obtain ⟨W3, hW3⟩ : ∃ W3, w2.alloc (.cells #[.int .u64 0, .int .u64 0, .int .u64 0, .int .u64 0, .int .u64 0, .int .u64 0, .int .u64 0, .int .u64 0, .int .u64 0, .int .u64 0, .int .u64 0] 33) = W3 := ⟨_, rfl⟩
  have hs3 : w2.heap.size + 1 = W3.heap.size := by rw [← hW3]; simp
  rw [hW3, hs3]
  have HM3 : Aside0 (LMF B 1 F W3 t m (kS 1 1 2 [([a], 0)] 1) (vK1 a b)) := ⟨hW3 ▸ HM2.out.below (below_alloc (Below.refl _ _) _)⟩
  have HB3 : Aside0 (Below X.heap.size X W3) := ⟨hW3 ▸ below_alloc HB2.out _⟩
  clear hW3 hs3
  refine (lf_lookup1 W3 B 1 F t m (kS 1 1 2 [([a], 0)] 1) (vK1 a b) 0 _ 1 [a] HM3.out rfl rfl HWF.out.1 (by decide) _ (vx2 a)).mono ?_
  rintro e w5 ⟨rfl, hm5, hb45⟩
  have HM5 := Aside0.mk hm5
  have HB5 : Aside0 (Below X.heap.size X w5) := ⟨HB3.out.trans (hb45.mono HB3.out.size)⟩
  clear hm5 hb45
  go_wp2_with fail
  refine (call_ok _ B 1 F t m (kS 1 1 2 [([a], 0)] 1) (vK1 a b) 2 0 2305843009213693952 4611686018427387904 4611686018427387904 0 0 0 0 0 0 0 HM5.out (by decide) (show 2 ≤ 99999 by decide) (vks _ _) (by decide) (by decide) (by decide) (by decide) (by decide) (by decide) (by decide) 0 _ _ HAB.out).mono ?_
  rintro e w6 ⟨rfl, hm, hk⟩
  have HB6 : Aside0 (Below X.heap.size X w6) := ⟨HB5.out.trans ((hk.below HM5.out.1 HM5.out.2.2.1).mono HXB.out)⟩
  have HM6 := Aside0.mk hm
  clear hm hk
  go_wp2_with fail
  obtain ⟨W7, hW7⟩ : ∃ W7, w6.alloc (.cells #[.int .u64 0, .int .u64 0, .int .u64 0, .int .u64 0, .int .u64 0, .int .u64 0, .int .u64 0, .int .u64 0, .int .u64 0, .int .u64 0, .int .u64 0] 33) = W7 := ⟨_, rfl⟩
  rw [hW7]
  have HM7 : Aside0 (LMF B 2 F W7 t m (kS 1 1 2 [([a], 0), ([b], 1)] 2) (vK2 a b)) := ⟨hW7 ▸ HM6.out.below (below_alloc (Below.refl _ _) _)⟩
  have HB7 : Aside0 (Below X.heap.size X W7) := ⟨hW7 ▸ below_alloc HB6.out _⟩
  clear hW7
  refine (lm_entries W7 B 2 t m (kS 1 1 2 [([a], 0), ([b], 1)] 2) (vK2 a b) 0 HM7.out.lm (by decide) (show 3 ≤ 99999 by decide) _ (vx4 a b)).mono ?_
  rintro e w8 ⟨⟨vR, vs, rfl, hR⟩, hb8⟩
  obtain ⟨A8, c8, rfl⟩ := own_slice hR.row
  have HR := Aside0.mk hR
  have HB8 : Aside0 (Below X.heap.size X w8) := ⟨HB7.out.trans (hb8.mono HB7.out.size)⟩
  clear hR hb8
  go_wp2_with fail
  refine (halive_c w8 (HL.out.below HB8.out)).mono ?_
  rintro e w9 ⟨rfl, hb9⟩
  have HR9 := Aside0.mk (HR.out.below hb9)
  have HB9 : Aside0 (Below X.heap.size X w9) := ⟨HB8.out.trans (hb9.mono HB8.out.size)⟩
  clear hb9
  have hab := HABE.out
  obtain ⟨o1, ho1⟩ : ∃ o1 : Obj, Obj.cells #[.int .u8 a] 5 (0, 0) = o1 := ⟨_, rfl⟩
  obtain ⟨o2, ho2⟩ : ∃ o2 : Obj, Obj.cells #[.int .u8 b] 5 (0, 0) = o2 := ⟨_, rfl⟩
  obtain ⟨W10, hW10⟩ : ∃ W10, ((((w9.alloc (.cells #[.int .u8 a] 5)).alloc (.cells #[.int .u8 b] 5)).alloc (.cells #[.int .u8 b] 5)).alloc (.cells #[.int .u8 b] 5)).alloc (.cells #[.slice (some ⟨w9.heap.size, 0, none⟩) 1 1, .slice (some ⟨w9.heap.size + 1, 0, none⟩) 1 1, .slice (some ⟨w9.heap.size + 1 + 1, 0, none⟩) 1 1, .slice (some ⟨w9.heap.size + 1 + 1 + 1, 0, none⟩) 1 1] 42) = W10 := ⟨_, rfl⟩
  have HW10 := Aside0.mk hW10
  have HE : Aside0 (Below w9.heap.size w9 W10 ∧ Kd.C k42 W10 (some ⟨w9.heap.size + 1 + 1 + 1 + 1, 0, none⟩) 2 [⟨[a], [b]⟩, ⟨[b], [b]⟩]) := ⟨by
    have q1 := below_alloc (Below.refl w9.heap.size w9) o1
    have q2 := below_alloc (Below.refl (w9.alloc o1).heap.size (w9.alloc o1)) o2
    have q3 := below_alloc (Below.refl ((w9.alloc o1).alloc o2).heap.size ((w9.alloc o1).alloc o2)) o2
    have q4 := below_alloc (Below.refl (((w9.alloc o1).alloc o2).alloc o2).heap.size (((w9.alloc o1).alloc o2).alloc o2)) o2
    have q5 := fun o => below_alloc (Below.refl ((((w9.alloc o1).alloc o2).alloc o2).alloc o2).heap.size ((((w9.alloc o1).alloc o2).alloc o2).alloc o2)) o
    have s1 : (w9.alloc o1).heap.size = w9.heap.size + 1 := by simp
    have s2 : ((w9.alloc o1).alloc o2).heap.size = w9.heap.size + 1 + 1 := by simp
    have s3 : (((w9.alloc o1).alloc o2).alloc o2).heap.size = w9.heap.size + 1 + 1 + 1 := by simp
    have s4 : ((((w9.alloc o1).alloc o2).alloc o2).alloc o2).heap.size = w9.heap.size + 1 + 1 + 1 + 1 := by simp
    have k1 := lit_C w9 [a] _ rfl (by unfold maxLen; show 1 ≤ _; decide)
    have k2 := lit_C (w9.alloc o1) [b] _ rfl (by unfold maxLen; show 1 ≤ _; decide)
    have k3 := lit_C ((w9.alloc o1).alloc o2) [b] _ rfl (by unfold maxLen; show 1 ≤ _; decide)
    have k4 := lit_C (((w9.alloc o1).alloc o2).alloc o2) [b] _ rfl (by unfold maxLen; show 1 ≤ _; decide)
    rw [s1] at k2
    rw [s2] at k3
    rw [s3] at k4
    rw [← hW10]
    refine ⟨below_alloc (below_alloc (below_alloc (below_alloc (below_alloc (Below.refl _ _) _) _) _) _) _, ?_⟩
    have c1 : Kd.C (Kd.int .u8) (w9.alloc o1) (some ⟨w9.heap.size, 0, none⟩) 1 [a] := ho1 ▸ k1
    have c2 : Kd.C (Kd.int .u8) ((w9.alloc o1).alloc o2) (some ⟨w9.heap.size + 1, 0, none⟩) 1 [b] := ho2 ▸ k2
    have c3 : Kd.C (Kd.int .u8) (((w9.alloc o1).alloc o2).alloc o2) (some ⟨w9.heap.size + 1 + 1, 0, none⟩) 1 [b] := by rw [← ho2] at k3 ⊢; exact k3
    have c4 : Kd.C (Kd.int .u8) ((((w9.alloc o1).alloc o2).alloc o2).alloc o2) (some ⟨w9.heap.size + 1 + 1 + 1, 0, none⟩) 1 [b] := by rw [← ho2] at k4 ⊢; exact k4
    have hn := heap_alloc_new ((((w9.alloc o1).alloc o2).alloc o2).alloc o2) (.cells #[.slice (some ⟨w9.heap.size, 0, none⟩) 1 1, .slice (some ⟨w9.heap.size + 1, 0, none⟩) 1 1, .slice (some ⟨w9.heap.size + 1 + 1, 0, none⟩) 1 1, .slice (some ⟨w9.heap.size + 1 + 1 + 1, 0, none⟩) 1 1] 42)
    rw [s4] at hn
    rw [ho1, ho2]
    exact ent_lit2 _ ⟨[a], [b]⟩ ⟨[b], [b]⟩ _ _ _ _ _ 1 1 1 1 hn (Nat.le_refl 1) (Kd.C_below (Kd.C_below (Kd.C_below (Kd.C_below c1 q2) q3) q4) (q5 _)) (Nat.le_refl 1) (Kd.C_below (Kd.C_below (Kd.C_below c2 q3) q4) (q5 _)) (Nat.le_refl 1) (Kd.C_below (Kd.C_below c3 q4) (q5 _)) (Nat.le_refl 1) (Kd.C_below c4 (q5 _))⟩
  clear ho1 ho2 hW10
  go_wp2_with fail
  clear hab
  rw [HW10.out]
  have HR10 := Aside0.mk (HR9.out.below HE.out.1)
  have HB10 : Aside0 (Below X.heap.size X W10) := ⟨HB9.out.trans (HE.out.1.mono HB9.out.size)⟩
  obtain ⟨A', c', hv', hc', hC'⟩ := HR10.out.C
  cases hv'
  refine (same21_c [⟨[a], [b]⟩, ⟨[b], [b]⟩] (by show 2 ≤ _; decide) (fun e he => by
    rcases List.mem_cons.1 he with rfl | he
    · exact ⟨by show 1 ≤ _; decide, by show 1 ≤ _; decide⟩
    · rw [List.mem_singleton.1 he]; exact ⟨by show 1 ≤ _; decide, by show 1 ≤ _; decide⟩) _ _ _ 2 _ hC' hc' HE.out.2 (Nat.le_refl 2)).mono ?_
  rintro e w11 ⟨rfl, k11, rfl⟩
  have HB11 : Aside0 (Below X.heap.size X (W10.drewN k11)) := ⟨HB10.out.trans (pw_below_drewN (Below.refl _ _) _)⟩
  clear hC' hc'
  go_wp2_with fail
  go_ret
  exact ⟨rfl, HB11.out⟩
theorem helperValues_c (X : World) (hL : LaidH X) (a : Int) (h0 : 0 ≤ a) (h1 : a < 256) : Calls Tryd.prog 3 #[.int .u8 a] X fun e X' => e = .returned (.bool true) ∧ Below X.heap.size X X' := by
  have hw : IntKind.u8.wrap (a + 1) = (a + 1) % 256 := IntKind.wrap_u8' _
  exact helperValues_r X hL a _ hw (by omega) h0 h1 (by omega) (by omega)
end Go.Proofs.YtomnfkihieinbaaDoor.PAll
