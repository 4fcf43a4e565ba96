/- The texts RMapBase, RMapW1, RMapNew of this claim, joined. -/
import Derived.Test.YtomnfkihieinbaaDoorGMapsC
import Derived.Test.YtomnfkihieinbaaDoorPAllx2
import Derived.Deep.AppendLies
/- maps: the reference's maps in the heap. -/
set_option linter.unusedVariables false
set_option linter.unusedSimpArgs false
namespace Go.Proofs.YtomnfkihieinbaaDoor.PAll
open Go.RowKit Go.Shelf Go.Maps Go.Proofs.YtomnfkihieinbaaDoorW.PrintWords Go.Proofs.YtomnfkihieinbaaDoorW.PrintLast Go.Proofs.YtomnfkihieinbaaDoorW.PrintMore
/-- The cells of one of the reference's maps, its list in lv. -/
def rcell (s : MapS) (lv : Value) : List Value := [.string s.name, .int .i64 s.key, .int .i64 s.value, .int .i64 s.entries, lv, .int .u64 s.next]
def rcells : List MapS → List Value → List Value
  | s :: S, lv :: lvs => rcell s lv ++ rcells S lvs
  | _, _ => []
theorem rcells_snoc : ∀ (S : List MapS) (lvs : List Value) (s : MapS) (lv : Value), lvs.length = S.length → rcells (S ++ [s]) (lvs ++ [lv]) = rcells S lvs ++ rcell s lv
  | [], [], _, _, _ => by simp [rcells]
  | t :: S, u :: lvs, s, lv, h => by
    simp only [List.cons_append, rcells, rcells_snoc S lvs s lv (by simpa using h), List.append_assoc]
  | [], _ :: _, _, _, h => by simp at h
  | _ :: _, [], _, _, h => by simp at h
theorem rcells_at : ∀ (S : List MapS) (lvs : List Value) (i : Nat) (s : MapS) (lv : Value), S[i]? = some s → lvs[i]? = some lv → ∀ j, j < 6 → (rcells S lvs)[i * 6 + j]? = (rcell s lv)[j]?
  | [], _, i, s, lv, h, _, _, _ => by simp at h
  | _ :: _, [], i, s, lv, _, h, _, _ => by simp at h
  | t :: S, u :: lvs, 0, s, lv, hs, hl, j, hj => by
    simp at hs hl
    subst hs; subst hl
    simp only [rcells, Nat.zero_mul, Nat.zero_add]
    rw [List.getElem?_append_left (by simp [rcell]; omega)]
  | t :: S, u :: lvs, i + 1, s, lv, hs, hl, j, hj => by
    have ih := rcells_at S lvs i s lv (by simpa using hs) (by simpa using hl) j hj
    simp only [rcells]
    rw [List.getElem?_append_right (by simp [rcell]; omega), ← ih]
    congr 1
    simp [rcell]
    omega
/-- The cells of entries, the keys' rows at the places qs. -/
def lcells : List (List Int × Int) → List (Nat × Nat) → List Value
  | e :: es, q :: qs => .slice (some ⟨q.1, 0, none⟩) e.1.length q.2 :: .int .u64 e.2 :: lcells es qs
  | _, _ => []
theorem lcells_snoc : ∀ (es : List (List Int × Int)) (qs : List (Nat × Nat)) (e : List Int × Int) (q : Nat × Nat), qs.length = es.length → lcells (es ++ [e]) (qs ++ [q]) = lcells es qs ++ [.slice (some ⟨q.1, 0, none⟩) e.1.length q.2, .int .u64 e.2]
  | [], [], _, _, _ => by simp [lcells]
  | t :: es, u :: qs, e, q, h => by simp only [List.cons_append, lcells, lcells_snoc es qs e q (by simpa using h)]
  | [], _ :: _, _, _, h => by simp at h
  | _ :: _, [], _, _, h => by simp at h
theorem lcells_at : ∀ (es : List (List Int × Int)) (qs : List (Nat × Nat)) (i : Nat) (e : List Int × Int) (q : Nat × Nat), es[i]? = some e → qs[i]? = some q → (lcells es qs)[i * 2]? = some (.slice (some ⟨q.1, 0, none⟩) e.1.length q.2) ∧ (lcells es qs)[i * 2 + 1]? = some (.int .u64 e.2)
  | [], _, i, e, q, h, _ => by simp at h
  | _ :: _, [], i, e, q, _, h => by simp at h
  | t :: es, u :: qs, 0, e, q, h, k => by
    simp at h k
    subst h; subst k
    exact ⟨rfl, rfl⟩
  | t :: es, u :: qs, i + 1, e, q, h, k => by
    have ih := lcells_at es qs i e q (by simpa using h) (by simpa using k)
    rw [show (i + 1) * 2 = i * 2 + 1 + 1 by omega, show i * 2 + 1 + 1 + 1 = (i * 2 + 1) + 1 + 1 by omega]
    simpa [lcells] using ih
/-- One list of entries. -/
def LR (lv : Value) (qs : List (Nat × Nat)) (es : List (List Int × Int)) : Res where
  at_ X own := (∀ k, own k ↔ lv.ownBlock = some k ∨ k ∈ qs.map (·.1)) ∧ qs.length = es.length ∧ (qs.map (·.1)).Nodup ∧ (∀ k, lv.ownBlock = some k → k ∉ qs.map (·.1)) ∧ X.ownsRow 0 122 2 lv es.length (lcells es qs) ∧
    ∀ (i : Nat) (q : Nat × Nat) (e : List Int × Int), qs[i]? = some q → es[i]? = some e → X.ownsRow 0 5 1 (.slice (some ⟨q.1, 0, none⟩) e.1.length q.2) e.1.length (nums .u8 e.1)
  keep := fun {X X' own} ⟨h1, h2, h3, h4, h5, h6⟩ hk => by
    refine ⟨h1, h2, h3, h4, row_keep h5 (fun k hk' => hk k ((h1 k).2 (.inl hk')) (own_lt h5 k hk')), fun i q e hq he => ?_⟩
    have hr := h6 i q e hq he
    exact row_keep hr (fun k hk' => hk k ((h1 k).2 (.inr (by cases hk'; exact List.mem_map_of_mem (List.mem_of_getElem? hq)))) (own_lt hr k hk'))
/-- Nothing is such. -/
def Res.no : Res := ⟨fun _ _ => False, fun h _ => h⟩
def LRs : List Value → List (List (Nat × Nat)) → List MapS → Res
  | lv :: lvs, qs :: qss, s :: S => (LR lv qs s.ents).and (LRs lvs qss S)
  | [], [], [] => Res.none
  | _, _, _ => Res.no
/-- The struct Maps of the reference in block b: its memory in block mb, its maps in v. -/
def RHead (b mb : Nat) (v : Value) (lvs : List Value) (S : List MapS) : Res where
  at_ X own := (∀ k, own k ↔ k = b ∨ v.ownBlock = some k) ∧ lvs.length = S.length ∧ X.heap[b]? = some (.cells #[.pointer (some ⟨mb, 0, none⟩), v] 55 (0, 0)) ∧ X.ownsRow 0 106 6 v S.length (rcells S lvs)
  keep := fun {X X' own} ⟨h1, h2, h3, h4⟩ hk => ⟨h1, h2, (hk b ((h1 b).2 (.inl rfl)) (Array.getElem?_eq_some_iff.1 h3).1).trans h3, row_keep h4 (fun k hk' => hk k ((h1 k).2 (.inr hk')) (own_lt h4 k hk'))⟩
/-- The reference's maps. -/
def RP (b mb : Nat) (v : Value) (lvs : List Value) (qss : List (List (Nat × Nat))) (S : List MapS) : Res := (RHead b mb v lvs S).and (LRs lvs qss S)
end Go.Proofs.YtomnfkihieinbaaDoor.PAll
/- maps: the reference's Index. -/
set_option linter.unusedVariables false
set_option linter.unusedSimpArgs false
namespace Go.Proofs.YtomnfkihieinbaaDoor.PAll
open Go.RowKit Go.Shelf Go.Maps Go.Proofs.YtomnfkihieinbaaDoorW.PrintWords Go.Proofs.YtomnfkihieinbaaDoorW.PrintLast Go.Proofs.YtomnfkihieinbaaDoorW.PrintMore
theorem rp_head {X : World} {own : Nat → Prop} {b mb : Nat} {v : Value} {lvs : List Value} {qss : List (List (Nat × Nat))} {S : List MapS} (h : (RP b mb v lvs qss S).at_ X own) : ∃ A c, v = .slice A S.length c ∧ X.cell? ⟨b, 0, none⟩ = some (.pointer (some ⟨mb, 0, none⟩)) ∧ X.cell? ⟨b, 1, none⟩ = some v ∧ own b ∧ b < X.heap.size := by
  obtain ⟨o1, o2, h1, h2, ⟨f1, f2, f3, f4⟩, h4⟩ := h
  obtain ⟨A, c, rfl⟩ := own_slice f4
  exact ⟨A, c, rfl, (blk2 f3).1, (blk2 f3).2.1, (h1 b).2 (.inl ((f1 b).2 (.inl rfl))), (Array.getElem?_eq_some_iff.1 f3).1⟩
theorem rhandle_c (i : Nat) (hi : i ≤ 254) (w : World) : Calls Tryd.prog 58 #[.int .i64 i] w fun e w' => e = .returned (.int .u64 (2305843009213693952 + i)) ∧ ∃ k, w' = w.drewN k := by
  refine (slotcoderef21_Handle.calls i (2305843009213693952 + i) w ?_).mono fun e w' ⟨h1, h2⟩ => ⟨h1, by obtain ⟨k, hk⟩ := h2.out; exact ⟨k, hk⟩⟩
  unfold slotcoderef21_Handle.f
  have h1 : IntKind.u64.wrap (i : Int) = i := by rw [u64_mod]; exact Int.emod_eq_of_lt (by omega) (by omega)
  have h2 : IntKind.u64.wrap (2305843009213693952 + (i : Int)) = 2305843009213693952 + i := by rw [u64_mod]; exact Int.emod_eq_of_lt (by omega) (by omega)
  rw [if_neg (by omega)]
  rw [if_neg (by omega), h1, h2]
set_option maxHeartbeats 2000000 in
set_option maxRecDepth 100000 in
theorem rindex_c' (X : World) (b n c : Nat) (A : Option Addr) (hd : Int) (hc1 : X.cell? ⟨b, 1, none⟩ = some (.slice A n c)) (hbl : b < X.heap.size) (hl : n ≤ 255) (h0 : 0 ≤ hd) (h1 : hd < 18446744073709551616) :
    Calls Tryd.prog 39 #[.pointer (some ⟨b, 0, none⟩), .int .u64 hd] X fun e X' => e = .returned (.tuple #[.int .i64 (indexF n hd).1, .bool (indexF n hd).2]) ∧ Below X.heap.size X X' := by
  have HC1 := Aside0.mk hc1
  have HL := Aside0.mk hl
  have HBL := Aside0.mk hbl
  obtain ⟨r, hr⟩ : ∃ r, indexF n hd = r := ⟨_, rfl⟩
  have HR := Aside0.mk hr
  rw [hr]
  clear hl hc1 h0 h1 hbl hr
  go_enter Tryd.func39, Tryd.ntmps39
  go_wp2_with fail
  go_loopw [6] (fun v6 w => ∃ i : Nat, i ≤ n ∧ v6 = .int .i64 i ∧ Aside0 (∀ j : Nat, j < i → (2305843009213693952 + (j : Int)) ≠ hd) ∧ Aside0 (Below X.heap.size X w)) (fun v6 _ => n - (intOf v6).toNat)
  case atStart => exact ⟨0, Nat.zero_le _, rfl, ⟨fun j hj => absurd hj (Nat.not_lt_zero j)⟩, ⟨Below.refl _ _⟩⟩
  case round =>
    obtain ⟨i, hi, rfl, HJ, HB⟩ := hrel
    have hcell := cell_keep HC1.out (HB.out.block b HBL.out)
    by_cases hlt : i < n
    · have hwk : wrap64 ((i : Int) + 1) = ((i + 1 : Nat) : Int) := wk hlt (Nat.le_trans HL.out (by decide))
      have hil : i ≤ 254 := by have := HL.out; omega
      have HHD : Aside0 (∀ w, Calls Tryd.prog 58 #[.int .i64 i] w fun e w' => e = .returned (.int .u64 (2305843009213693952 + i)) ∧ ∃ k, w' = w.drewN k) := ⟨fun w => rhandle_c i hil w⟩
      clear hil
      by_cases he : (2305843009213693952 + (i : Int)) = hd
      · have hb : ((2305843009213693952 + (i : Int)) == hd) = true := by rw [he]; simp
        have hdq : decide ((2305843009213693952 + (i : Int)) = hd) = true := decide_eq_true he
        have HF : Aside0 (r = ((i : Int), true)) := ⟨by
          rw [← HR.out, ← he]
          unfold indexF
          have h2 : (2305843009213693952 : Int) ≤ 2305843009213693952 + (i : Int) ∧ 2305843009213693952 + (i : Int) < 2305843009213693952 + (n : Int) := by omega
          rw [if_pos h2]
          congr 1
          omega⟩
        obtain ⟨z, hz⟩ : ∃ z, (2305843009213693952 + (i : Int)) = z := ⟨_, rfl⟩
        rw [hz] at HHD hb hdq
        clear he hz
        go_wp2_with fail
        refine (HHD.out _).mono ?_
        rintro e w1 ⟨rfl, k1, rfl⟩
        have HB1 : Aside0 (Below X.heap.size X (wr.drewN k1)) := ⟨pw_below_drewN HB.out _⟩
        go_wp2_with fail
        go_ret2
        exact ⟨by rw [HF.out]; rfl, HB1.out⟩
      · have hb : ((2305843009213693952 + (i : Int)) == hd) = false := by rw [beq_eq_false_iff_ne]; exact he
        have hdq : decide ((2305843009213693952 + (i : Int)) = hd) = false := decide_eq_false he
        have HJ1 : Aside0 (∀ j : Nat, j < i + 1 → (2305843009213693952 + (j : Int)) ≠ hd) := ⟨fun j hj => by
          rcases Nat.lt_succ_iff_lt_or_eq.1 hj with hj | rfl
          · exact HJ.out j hj
          · exact he⟩
        obtain ⟨z, hz⟩ : ∃ z, (2305843009213693952 + (i : Int)) = z := ⟨_, rfl⟩
        rw [hz] at HHD hb hdq
        clear he hz
        go_wp2_with fail
        refine (HHD.out _).mono ?_
        rintro e w1 ⟨rfl, k1, rfl⟩
        have HB1 : Aside0 (Below X.heap.size X (wr.drewN k1)) := ⟨pw_below_drewN HB.out _⟩
        go_wp2_with fail
        rw [hwk]
        refine ⟨⟨i + 1, hlt, rfl, HJ1, HB1⟩, ?_⟩
        show n - (((i + 1 : Nat) : Int)).toNat < n - ((i : Nat) : Int).toNat
        rw [Int.toNat_natCast, Int.toNat_natCast]
        exact Nat.sub_lt_sub_left hlt (Nat.lt_succ_self i)
    · obtain rfl : i = n := Nat.le_antisymm hi (Nat.le_of_not_lt hlt)
      have HF : Aside0 (r = (0, false)) := ⟨by
        rw [← HR.out]
        unfold indexF
        refine if_neg fun h => ?_
        have hj := HJ.out (hd - 2305843009213693952).toNat (by omega)
        omega⟩
      go_wp2_with fail
      go_ret2
      exact ⟨by rw [HF.out]; rfl, HB.out⟩
theorem rindex_c (X : World) (own : Nat → Prop) (b mb : Nat) (v : Value) (lvs : List Value) (qss : List (List (Nat × Nat))) (S : List MapS) (hd : Int) (h : (RP b mb v lvs qss S).at_ X own) (hl : S.length ≤ 255) (h0 : 0 ≤ hd) (h1 : hd < 18446744073709551616) :
    Calls Tryd.prog 39 #[.pointer (some ⟨b, 0, none⟩), .int .u64 hd] X fun e X' => e = .returned (.tuple #[.int .i64 (indexF S.length hd).1, .bool (indexF S.length hd).2]) ∧ Below X.heap.size X X' := by
  obtain ⟨A, c, rfl, _, hc1, _, hbl⟩ := rp_head h
  exact rindex_c' X b S.length c A hd hc1 hbl hl h0 h1
end Go.Proofs.YtomnfkihieinbaaDoor.PAll
/- maps: the reference's New. -/
set_option linter.unusedVariables false
set_option linter.unusedSimpArgs false
namespace Go.Proofs.YtomnfkihieinbaaDoor.PAll
open Go.RowKit Go.Shelf Go.Maps Go.Proofs.YtomnfkihieinbaaDoorW.PrintWords Go.Proofs.YtomnfkihieinbaaDoorW.PrintLast Go.Proofs.YtomnfkihieinbaaDoorW.PrintMore
theorem infoMap : (Tryd.prog.info? 106).map (fun i => (i.zero, i.size, i.bytes)) = some (some (.agg #[.string ⟨#[]⟩, .int .i64 0, .int .i64 0, .int .i64 0, .slice none 0 0, .int .u64 0]), 6, 72) := by kernel_rfl
def nilV : Value := .slice none 0 0
theorem frozen0 {w : World} {g o : Nat} {cs : Array Value} {t : TypeId} (h : w.heap[g]? = some (.cells cs t (0, 0))) : w.frozen? ⟨g, o, none⟩ = false := by simp [World.frozen?, h]
set_option maxHeartbeats 4000000 in
set_option maxRecDepth 100000 in
theorem rnew_c (X : World) (mb : Nat) (A0 : Option Addr) (c0 : Nat) (ds : List S28) (hC : Kd.C k28 X A0 ds.length ds) (hl : ds.length ≤ 255) :
    Calls Tryd.prog 17 #[.pointer (some ⟨mb, 0, none⟩), .slice A0 ds.length c0] X fun e X' => (∃ v, e = .returned (.pointer (some ⟨X.heap.size, 0, none⟩)) ∧ X'.heap[X.heap.size]? = some (.cells #[.pointer (some ⟨mb, 0, none⟩), v] 55 (0, 0)) ∧ X'.ownsRow X.heap.size 106 6 v ds.length (rcells (ds.map newS) (List.replicate ds.length nilV))) ∧ Below X.heap.size X X' := by
  have HC := Aside0.mk hC
  have HL := Aside0.mk hl
  obtain ⟨i0, hi, hz0, hz1, hz2⟩ := info_parts infoMap
  clear hC hl
  go_enter Tryd.func17, Tryd.ntmps17
  go_wp2_with fail
  go_loopw [6] (fun v6 w => ∃ (i : Nat) (v : Value), i ≤ ds.length ∧ v6 = .int .i64 i ∧ Aside0 (w.heap[X.heap.size]? = some (.cells #[.pointer (some ⟨mb, 0, none⟩), v] 55 (0, 0))) ∧ Aside0 (w.ownsRow X.heap.size 106 6 v i (rcells ((ds.take i).map newS) (List.replicate i nilV))) ∧ Aside0 (Below X.heap.size X w)) (fun v6 _ => ds.length - (intOf v6).toNat)
  case atStart => exact ⟨0, .slice none 0 0, Nat.zero_le _, rfl, ⟨heap_alloc_new X _⟩, ⟨World.ownsRow_nil _ _ _ _⟩, ⟨below_alloc (Below.refl _ _) _⟩⟩
  case round =>
    obtain ⟨i, v, hil, rfl, HX, HO, HB⟩ := hrel
    obtain ⟨A, c, rfl⟩ := own_slice HO.out
    by_cases hlt : i < ds.length
    · obtain ⟨d, hd⟩ : ∃ d, ds[i]? = some d := ⟨_, List.getElem?_eq_getElem hlt⟩
      have hrd : rd_T28 ds (i : Int) = d := by
        unfold rd_T28
        rw [Int.toNat_natCast, List.getD_eq_getElem?_getD, hd]
        rfl
      have HAT : Aside0 (∀ w, Below X.heap.size X w → ∃ ad, A0 = some ad ∧ w.cell? (ad.add ((i : Int).toNat * 4)) = some (.string d.f0) ∧ w.cell? ⟨(ad.add ((i : Int).toNat * 4)).block, (ad.add ((i : Int).toNat * 4)).off + 1, none⟩ = some (.int .i64 d.f1) ∧ w.cell? ⟨(ad.add ((i : Int).toNat * 4)).block, (ad.add ((i : Int).toNat * 4)).off + 2, none⟩ = some (.int .i64 d.f2) ∧ w.cell? ⟨(ad.add ((i : Int).toNat * 4)).block, (ad.add ((i : Int).toNat * 4)).off + 3, none⟩ = some (.int .i64 d.f3)) := ⟨fun w hb => by
        rw [← hrd]
        exact at_T28 (Kd.C_below HC.out hb) (i : Int) (Int.natCast_nonneg i) (by omega)⟩
      have hwd : Below X.heap.size X wr.drew := below_drew HB.out
      obtain ⟨ad, rfl, x0, x1, x2, x3⟩ := HAT.out wr.drew hwd
      rw [Int.toNat_natCast] at x0 x1 x2 x3
      have hm : wr.drew.cell? ⟨X.heap.size, 1, none⟩ = some (.slice A i c) := (blk2 HX.out).2.1
      have hfx : wr.drew.frozen? ⟨X.heap.size, 1, none⟩ = false := by
        have h := HX.out
        show wr.frozen? ⟨X.heap.size, 1, none⟩ = false
        simp [World.frozen?, h]
      have hi0 : (0 : Int) ≤ (i : Int) := Int.natCast_nonneg i
      have hi1 : (i : Int) < (ds.length : Int) := by omega
      have HLT := Aside0.mk hlt
      have HROWD : Aside0 (wr.drew.ownsRow X.heap.size 106 6 (.slice A i c) i (rcells ((ds.take i).map newS) (List.replicate i nilV))) := ⟨HO.out⟩
      have HBX : Aside0 (X.heap.size ≤ wr.drew.heap.size) := ⟨hwd.size⟩
      have HIL : Aside0 (i ≤ 255) := ⟨Nat.le_trans hil HL.out⟩
      have hmd9 : (wr.alloc (.cells #[.string d.f0, .int .i64 d.f1, .int .i64 d.f2, .int .i64 d.f3, .slice none 0 0, .int .u64 0] 106)).drew.cell? ⟨X.heap.size, 1, none⟩ = some (.slice A i c) := pw_cell_below (below_alloc (Below.refl wr.drew.heap.size wr.drew) _) hm
      have hnb : (Value.slice A i c).ownBlock ≠ some X.heap.size := fun e => by
        rcases HO.out.2 with ⟨h', _⟩ | ⟨g', cap', cur', h', _, hh', _⟩
        · rw [h'] at e; simp [Value.ownBlock] at e
        · rw [h'] at e
          obtain rfl : g' = X.heap.size := by simpa [Value.ownBlock] using e
          exact two_blocks hh' HX.out (by decide) rfl
      have hbl' : X.heap.size < wr.heap.size := (Array.getElem?_eq_some_iff.1 HX.out).1
      have HK5 : Aside0 (∀ (o : Obj) (w5 : World), (wr.drew.alloc o).grownBy w5 (Value.slice A i c).ownBlock → w5.heap[X.heap.size]? = some (.cells #[.pointer (some ⟨mb, 0, none⟩), .slice A i c] 55 (0, 0))) := ⟨fun o w5 hg => by
        rw [hg.block _ (Nat.lt_of_lt_of_le hbl' (below_alloc (Below.refl _ _) o).size) (fun e => hnb e.symm)]
        exact ((below_alloc (Below.refl wr.drew.heap.size _) o).block _ hbl').trans HX.out⟩
      have HNX : Aside0 (rcells ((ds.take (i + 1)).map newS) (List.replicate (i + 1) nilV) = rcells ((ds.take i).map newS) (List.replicate i nilV) ++ rcell (newS d) nilV) := ⟨by
        rw [List.take_add_one, hd, List.map_append, List.replicate_succ']
        exact rcells_snoc _ _ _ _ (by simp; omega)⟩
      have HFIN : Aside0 (∀ (o : Obj) (w5 : World) (g2 cap2 : Nat), w5.ownsRow X.heap.size 106 6 (.slice (some ⟨g2, 0, none⟩) (i + 1) cap2) (i + 1) (rcells ((ds.take i).map newS) (List.replicate i nilV) ++ rcell (newS d) nilV) → w5.heap[X.heap.size]? = some (.cells #[.pointer (some ⟨mb, 0, none⟩), .slice A i c] 55 (0, 0)) → (wr.drew.alloc o).grownBy w5 (Value.slice A i c).ownBlock →
          Aside0 ((w5.setCell ⟨X.heap.size, 1, none⟩ (.slice (some ⟨g2, 0, none⟩) (i + 1) cap2)).heap[X.heap.size]? = some (.cells #[.pointer (some ⟨mb, 0, none⟩), .slice (some ⟨g2, 0, none⟩) (i + 1) cap2] 55 (0, 0)) ∧ (w5.setCell ⟨X.heap.size, 1, none⟩ (.slice (some ⟨g2, 0, none⟩) (i + 1) cap2)).ownsRow X.heap.size 106 6 (.slice (some ⟨g2, 0, none⟩) (i + 1) cap2) (i + 1) (rcells ((ds.take (i + 1)).map newS) (List.replicate (i + 1) nilV)) ∧
            Below X.heap.size X (w5.setCell ⟨X.heap.size, 1, none⟩ (.slice (some ⟨g2, 0, none⟩) (i + 1) cap2)))) := ⟨fun o w5 g2 cap2 hown hb5 hgr => by
        have hg2b : g2 ≠ X.heap.size := by
          rcases hown.2 with ⟨h', _⟩ | ⟨g', cap', cur', h', _, hh', _⟩
          · cases h'
          · cases h'
            exact two_blocks hh' hb5 (by decide)
        rw [HNX.out]
        refine ⟨blk_put hb5 1 _ rfl, row_keep hown (fun k hk => by cases hk; exact Below.heap_setCell w5 ⟨X.heap.size, 1, none⟩ _ g2 hg2b), ?_⟩
        have h1 : Below X.heap.size X (wr.drew.alloc o) := below_alloc (below_drew HB.out) o
        have h2 : Below X.heap.size X w5 := h1.grown hgr h1.size (fun k hk => own_base HO.out k hk)
        exact h2.setCell (p := ⟨X.heap.size, 1, none⟩) (Nat.le_refl _) _⟩
      clear hrd hwd hd hil hlt hnb hbl'
      go_wp2_with fail
      go_region_law ((refine step_append_lies _ (by rfl) _ _ 53 (by rfl) X.heap.size 106 i0 _ 6 72 Tryd.underlying53 hi hz0 hz1 hz2 (by rfl) (by decide) (.slice A i c) i _ (by rfl) (HROWD.out.alloc _) ⟨wr.heap.size, 0, none⟩ 1 1 (rcell (newS d) nilV) (by rfl) (by rfl) (World.news_of_block (heap_alloc_new wr.drew _)) (by intro u hu; simp [rcell, nilV] at hu; rcases hu with rfl | rfl | rfl | rfl | rfl | rfl <;> rfl) (by decide) (by have h := HIL.out; unfold maxLen; omega) (by have h := HIL.out; omega) (Nat.le_trans HBX.out (by simp)) _ rfl ?_; intro g2 cap2 w5 hown5 hgrow5 hat5 hlt5; have HB5 := Aside0.mk (HK5.out _ _ hgrow5); have hm5 := (blk2 HB5.out).2.1; have hf5 : w5.frozen? ⟨X.heap.size, 1, none⟩ = false := frozen0 HB5.out; have HOWN5 := Aside0.mk hown5; have HGROW5 := Aside0.mk hgrow5; clear hown5 hgrow5 hat5 hlt5))
      all_goals
        have HQ := HFIN.out _ _ _ _ HOWN5.out HB5.out HGROW5.out
        go_wp2_with fail
        rw [wk HLT.out (Nat.le_trans HL.out (by decide))]
        refine ⟨⟨i + 1, _, HLT.out, rfl, ⟨HQ.out.1⟩, ⟨HQ.out.2.1⟩, ⟨HQ.out.2.2⟩⟩, ?_⟩
        show ds.length - (((i + 1 : Nat) : Int)).toNat < ds.length - ((i : Nat) : Int).toNat
        rw [Int.toNat_natCast, Int.toNat_natCast]
        exact Nat.sub_lt_sub_left HLT.out (Nat.lt_succ_self i)
    · obtain rfl : i = ds.length := Nat.le_antisymm hil (Nat.le_of_not_lt hlt)
      go_wp2_with fail
      go_ret
      have hO := HO.out
      rw [List.take_length] at hO
      exact ⟨⟨_, rfl, HX.out, hO⟩, HB.out⟩
end Go.Proofs.YtomnfkihieinbaaDoor.PAll
