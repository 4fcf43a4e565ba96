/- The reference's Read and Write. -/
import Derived.Test.YtlolhmocimaobaaRefW3
import Derived.Deep.AppendLies
set_option linter.unusedVariables false
set_option linter.unusedSimpArgs false
namespace Go.Proofs.Ytlolhmocimaobaa.PAll
open Go.RowKit Go.Shelf Go.Proofs.YtlolhmocimaobaaW.PrintWords Go.Proofs.YtlolhmocimaobaaW.PrintLast Go.Proofs.YtlolhmocimaobaaW.PrintMore
theorem size_f (n : Int) : slotcoderef20_size.f n = some (numB n) := by
  unfold slotcoderef20_size.f numB
  by_cases h1 : n = 1
  · rw [if_pos h1, decide_eq_true (.inl h1)]
  · rw [if_neg h1]
    by_cases h2 : n = 2
    · rw [if_pos h2, decide_eq_true (.inr (.inl h2))]
    · rw [if_neg h2]
      by_cases h4 : n = 4
      · rw [if_pos h4, decide_eq_true (.inr (.inr (.inl h4)))]
      · rw [if_neg h4]
        by_cases h8 : n = 8
        · rw [h8]; rfl
        · rw [decide_eq_false (by omega), beq_eq_false_iff_ne.mpr h8]
theorem row_R {X : World} {B n : Nat} {v : Value} {xs : List Int} (h : X.ownsRow B 5 1 v n (nums .u8 xs)) : Kd.R (Kd.int .u8) 5 X B (fun _ => True) v xs := by
  have hl : xs.length = n := by have := h.1; rw [nums_length] at this; omega
  subst hl
  exact Kd.R_of_own (enc := fun x => .int .u8 x) (by simpa [encs, nums] using h) (fun _ _ => trivial)
theorem ref_Bytes (X : World) (B : Nat) (own : Nat → Prop) (b : Nat) (R : List Reg) (a n : Int) (h : RefAt X B own b R) (hW : ∀ r ∈ R, Ok r) (hl : R.length ≤ 1000000) (ha0 : 0 ≤ a) (ha1 : a < 18446744073709551616) (hn0 : -9223372036854775808 ≤ n) (hn1 : n < 9223372036854775808) :
    Calls Try.prog 26 #[.pointer (some ⟨b, 0, none⟩), .int .u64 a, .int .i64 n] X (BytesPost X R a n) := by
  obtain ⟨v, ps, h⟩ := h
  cases hf : R.findIdx? (hitR a n) with
  | none =>
    refine (ref_Bytes_none X B own b R v ps a n h hW hl ha0 ha1 hn0 hn1 hf).mono ?_
    rintro e X' ⟨he, hb⟩
    have hF : bytesF R a n = none := by unfold bytesF; rw [hf]
    exact ⟨hb, _, by rw [hF]; exact he, by rw [hF]; exact Kd.R_nil _ _ _ _ _⟩
  | some k =>
    obtain ⟨hk, hh, _⟩ := List.findIdx?_eq_some_iff_getElem.1 hf
    have hr : R[k]? = some R[k] := List.getElem?_eq_getElem hk
    obtain ⟨h1, h2, h3⟩ := hit_iff.1 hh
    obtain ⟨nn, rfl⟩ : ∃ nn : Nat, n = nn := ⟨n.toNat, by omega⟩
    have hsh := (hW _ (List.getElem_mem hk)).short
    refine (ref_Bytes_some X B own b R v ps a nn k R[k] h hW hl ha0 ha1 (by omega) hf hr hh).mono ?_
    rintro e X' ⟨⟨v', he, hro⟩, hb⟩
    have hF : bytesF R a nn = some ((R[k].data.drop (a - R[k].base).toNat).take nn) := by unfold bytesF; rw [hf]; dsimp only; rw [hr]; rfl
    exact ⟨hb, v', by rw [hF]; exact he, by rw [hF]; exact row_R hro⟩
theorem bytesF_wf {R : List Reg} (hW : ∀ r ∈ R, ∀ x ∈ r.data, 0 ≤ x ∧ x < 256) {a n : Int} {bs : List Int} (h : bytesF R a n = some bs) : bs.length = n.toNat ∧ ∀ x ∈ bs, 0 ≤ x ∧ x < 256 := by
  unfold bytesF at h
  cases hf : R.findIdx? (hitR a n) with
  | none => rw [hf] at h; cases h
  | some k =>
    rw [hf] at h
    dsimp only at h
    obtain ⟨hk, hh, _⟩ := List.findIdx?_eq_some_iff_getElem.1 hf
    rw [List.getElem?_eq_getElem hk] at h
    dsimp only at h
    obtain rfl := Option.some.inj h
    obtain ⟨h1, h2, h3⟩ := hit_iff.1 hh
    refine ⟨by rw [List.length_take, List.length_drop]; omega, fun x hx => hW _ (List.getElem_mem hk) x (List.mem_of_mem_drop (List.mem_of_mem_take hx))⟩
/-- What stands behind some rounds of Read. -/
def RdRel (bs : List Int) (k : Nat) (x : Int) : Prop := ∃ pre, backL bs.length bs = pre ++ backL k bs ∧ x = valB pre ∧ pre.length + k = bs.length
theorem RdRel.bound {bs : List Int} {k : Nat} {x : Int} (h : RdRel bs k x) (hw : ∀ x ∈ bs, 0 ≤ x ∧ x < 256) : 0 ≤ x ∧ x < 256 ^ (bs.length - k) := by
  obtain ⟨pre, h1, rfl, h3⟩ := h
  refine valB_range _ pre (by omega) (fun y hy => backL_mem bs hw bs.length (Nat.le_refl _) y (by rw [h1]; exact List.mem_append_left _ hy))
theorem RdRel.step {bs : List Int} {k : Nat} {x : Int} (h : RdRel bs (k + 1) x) : RdRel bs k (x * 256 + rd bs k) := by
  obtain ⟨pre, h1, rfl, h3⟩ := h
  exact ⟨pre ++ [((k : Int), rd bs k)], by rw [h1]; simp [backL], by rw [valB_snoc], by simp; omega⟩
theorem RdRel.done {bs : List Int} {x : Int} (h : RdRel bs 0 x) : x = leV bs := by
  obtain ⟨pre, h1, rfl, h3⟩ := h
  unfold leV
  rw [h1]
  simp [backL]
theorem pow_le8 {k : Nat} (hk : k ≤ 7) : (256 : Int) ^ k ≤ 72057594037927936 := by
  obtain rfl | rfl | rfl | rfl | rfl | rfl | rfl | rfl : k = 0 ∨ k = 1 ∨ k = 2 ∨ k = 3 ∨ k = 4 ∨ k = 5 ∨ k = 6 ∨ k = 7 := by omega
  all_goals decide
set_option maxHeartbeats 2000000 in
set_option maxRecDepth 100000 in
theorem ref_Read (X : World) (B : Nat) (own : Nat → Prop) (b : Nat) (R : List Reg) (a n : Int) (h : RefAt X B own b R) (hW : ∀ r ∈ R, Ok r) (hl : R.length ≤ 1000000) (ha0 : 0 ≤ a) (ha1 : a < 18446744073709551616) (hn0 : -9223372036854775808 ≤ n) (hn1 : n < 9223372036854775808) :
    Calls Try.prog 24 #[.pointer (some ⟨b, 0, none⟩), .int .u64 a, .int .i64 n] X (ReadPost X R a n) := by
  have HN := Aside0.mk (fun W => slotcoderef20_size.calls n _ W (size_f n))
  by_cases hn : numB n = true
  · rw [hn] at HN
    have HBY : Aside0 (∀ W, Below X.heap.size X W → Calls Try.prog 26 #[.pointer (some ⟨b, 0, none⟩), .int .u64 a, .int .i64 n] W (BytesPost W R a n)) := ⟨fun W hb => ref_Bytes W B own b R a n (h.below hb) hW hl ha0 ha1 hn0 hn1⟩
    have HF : Aside0 (readF R a n = match bytesF R a n with | none => (0, false) | some bs => (leV bs, true)) := ⟨by unfold readF; rw [if_pos hn]; cases bytesF R a n <;> rfl⟩
    have HWF : Aside0 (∀ bs, bytesF R a n = some bs → bs.length ≤ 8 ∧ ∀ x ∈ bs, 0 ≤ x ∧ x < 256) := ⟨fun bs hbs => by
      obtain ⟨h1, h2⟩ := bytesF_wf (fun r hr => (hW r hr).wf) hbs
      have : n = 1 ∨ n = 2 ∨ n = 4 ∨ n = 8 := of_decide_eq_true hn
      exact ⟨by omega, h2⟩⟩
    clear h hW ha0 ha1 hn hn0 hn1
    go_enter Try.func24, Try.ntmps24
    go_wp2_with fail
    refine (HN.out _).mono ?_
    rintro e w1 ⟨rfl, hd1⟩
    have HB1 : Aside0 (Below X.heap.size X w1) := ⟨hd1.below⟩
    clear hd1
    go_wp2_with fail
    refine (HBY.out _ HB1.out).mono ?_
    intro e w2 hp
    obtain ⟨hb2, v, rfl, hr⟩ := hp
    have HB2 : Aside0 (Below X.heap.size X w2) := ⟨below_then HB1.out HB1.out.size hb2⟩
    obtain ⟨bs, hbs⟩ : ∃ bs, (bytesF R a n).getD [] = bs := ⟨_, rfl⟩
    obtain ⟨ok, hok⟩ : ∃ ok, (bytesF R a n).isSome = ok := ⟨_, rfl⟩
    rw [hbs] at hr
    rw [hok]
    have HP : Aside0 (∀ W, Below X.heap.size X W → ReadPost X R a n (.returned (.tuple #[.int .u64 (leV bs), .bool ok])) W) := ⟨fun W hb => by
      unfold ReadPost
      rw [HF.out]
      cases hf : bytesF R a n with
      | none => rw [hf] at hbs hok; rw [← hbs, ← hok]; exact ⟨rfl, hb⟩
      | some l => rw [hf] at hbs hok; rw [← hbs, ← hok]; exact ⟨rfl, hb⟩⟩
    have hlen : bs.length ≤ 8 ∧ ∀ x ∈ bs, 0 ≤ x ∧ x < 256 := by
      cases hf : bytesF R a n with
      | none => rw [hf] at hbs; rw [← hbs]; simp
      | some l => rw [hf] at hbs; rw [← hbs]; exact HWF.out l hf
    obtain ⟨hlen, hwf⟩ := hlen
    have HWB := Aside0.mk hwf
    obtain ⟨A, c, rfl, hcap, hC⟩ := Kd.R_reads hr
    have HC := Aside0.mk hC
    clear hr hbs hok hb2 hwf hC HF HWF
    go_wp2_with fail
    go_loop [10, 11] (fun v10 v11 => ∃ (k : Nat) (x : Int), k ≤ bs.length ∧ v11 = .int .i64 ((k : Int) - 1) ∧ v10 = .int .u64 x ∧ Aside0 (RdRel bs k x)) (fun _ v11 => (intOf v11 + 1).toNat)
    case atStart => exact ⟨bs.length, 0, Nat.le_refl _, rfl, rfl, ⟨⟨[], rfl, rfl, by simp⟩⟩⟩
    case round =>
      obtain ⟨k, x, hk, rfl, rfl, HR⟩ := hrel
      cases k with
      | zero =>
        have HX := Aside0.mk (HR.out.done)
        go_wp2_with fail
        go_ret2
        rw [HX.out]
        exact HP.out _ HB2.out
      | succ k =>
        obtain ⟨hx0, hx1⟩ := HR.out.bound HWB.out
        have hp := pow_le8 (show bs.length - (k + 1) ≤ 7 by omega)
        have hx2 : x < 72057594037927936 := by omega
        obtain ⟨ad, hadd, hcell⟩ := Kd.at_int HC.out (k : Int) (by omega) (by omega)
        cases hadd
        have hby : 0 ≤ rd bs (k : Int) ∧ rd bs (k : Int) < 256 := HWB.out _ (by
          unfold rd
          rw [Int.toNat_natCast, List.getD_eq_getElem?_getD, List.getElem?_eq_getElem (show k < bs.length by omega)]
          exact List.getElem_mem _)
        obtain ⟨hby0, hby1⟩ := hby
        rw [Int.toNat_natCast] at hcell
        clear hp hx1
        rw [show (((k + 1 : Nat) : Int) - 1) = (k : Int) by omega]
        go_wp2_with fail
        exact ⟨⟨k, _, by omega, rfl, rfl, ⟨HR.out.step⟩⟩, by simp [intOf]⟩
  · have hn' : numB n = false := by simpa using hn
    rw [hn'] at HN
    have HF : Aside0 (readF R a n = (0, false)) := ⟨by unfold readF; rw [if_neg hn]⟩
    clear hn hn' h ha0 ha1 hW
    go_enter Try.func24, Try.ntmps24
    go_wp2_with fail
    refine (HN.out _).mono ?_
    rintro e w1 ⟨rfl, hd1⟩
    go_wp2_with fail
    go_ret2
    unfold ReadPost
    rw [HF.out]
    exact ⟨rfl, hd1.below⟩
def RWritePost (X : World) (B : Nat) (own : Nat → Prop) (b : Nat) (R : List Reg) (a n x : Int) (e : Ending) (X' : World) : Prop :=
  match writeF R a n x with
  | none => e = .returned (.bool false) ∧ Below X.heap.size X X'
  | some R' => e = .returned (.bool true) ∧ RefAt X' B own b R' ∧ Out own X X'
theorem Out.alloc {own : Nat → Prop} {X Y : World} (h : Out own X Y) (o : Obj) : Out own X (Y.alloc o) := h.trans (below_out (below_alloc (Below.refl _ _) _) own) (fun _ _ h => h)
theorem ediv_pow (x : Int) (j : Nat) : x / 2 ^ (8 * j) / 256 = x / 2 ^ (8 * (j + 1)) := by
  rw [show 8 * (j + 1) = 8 * j + 8 by omega, Int.pow_add, Int.ediv_ediv_of_nonneg (Int.le_of_lt (Int.pow_pos (by decide)))]
  rfl
set_option maxHeartbeats 2000000 in
set_option maxRecDepth 100000 in
theorem ref_Write (X : World) (B : Nat) (own : Nat → Prop) (b : Nat) (R : List Reg) (a n x : Int) (h : RefAt X B own b R) (hW : ∀ r ∈ R, Ok r) (hl : R.length ≤ 1000000) (ha0 : 0 ≤ a) (ha1 : a < 18446744073709551616) (hn0 : -9223372036854775808 ≤ n) (hn1 : n < 9223372036854775808) (hx0 : 0 ≤ x) (hx1 : x < 18446744073709551616) :
    Calls Try.prog 25 #[.pointer (some ⟨b, 0, none⟩), .int .u64 a, .int .i64 n, .int .u64 x] X (RWritePost X B own b R a n x) := by
  have HN := Aside0.mk (fun W => slotcoderef20_size.calls n _ W (size_f n))
  by_cases hn : numB n = true
  · rw [hn] at HN
    have hn2 : n = 1 ∨ n = 2 ∨ n = 4 ∨ n = 8 := of_decide_eq_true hn
    obtain ⟨nn, rfl⟩ : ∃ nn : Nat, n = nn := ⟨n.toNat, by omega⟩
    have hnn0 : 1 ≤ nn := by omega
    have hnn : nn ≤ 8 := by omega
    have HF : Aside0 (writeF R a nn x = putF R a (le nn x)) := ⟨by unfold writeF; rw [if_pos hn, Int.toNat_natCast]⟩
    have HM := Aside0.mk h
    have HPUT : Aside0 (∀ (W : World) (A0 : Option Addr) (c0 : Nat), Below X.heap.size X W → Kd.C (Kd.int .u8) W A0 nn (le nn x) → (∀ ad, A0 = some ad → X.heap.size ≤ ad.block) → Calls Try.prog 27 #[.pointer (some ⟨b, 0, none⟩), .int .u64 a, .slice A0 nn c0] W (RPutPost W B (fun k => own k ∧ k < X.heap.size) b R a (le nn x))) := ⟨fun W A0 c0 hb hC hA => by
      have := ref_Put W B (fun k => own k ∧ k < X.heap.size) b R a A0 c0 (le nn x) (h.bound.below hb) hW hl ha0 ha1 (by rw [le_length]; omega) (by rw [le_length]; exact hC) (fun _ ad e ho => by have := hA ad e; omega)
      rwa [le_length] at this⟩
    obtain ⟨i0, hi, hz0, hz1, hz2⟩ := info_parts infoU8
    clear h hW hn hn2 ha0 ha1 hn0 hn1
    go_enter Try.func25, Try.ntmps25
    go_wp2_with fail
    refine (HN.out _).mono ?_
    rintro e w1 ⟨rfl, hd1⟩
    have HB1 : Aside0 (Below X.heap.size X w1) := ⟨hd1.below⟩
    clear hd1
    go_wp2_with fail
    go_loopw [3, 9, 10] (fun v3 v9 v10 wr => ∃ (j : Nat) (y : Int), j ≤ nn ∧ v10 = .int .i64 j ∧ v3 = .int .u64 y ∧ 0 ≤ y ∧ y < 18446744073709551616 ∧ Aside0 (y = x / 2 ^ (8 * j)) ∧ Aside0 (Below X.heap.size X wr) ∧ Aside0 (wr.ownsRow X.heap.size 5 1 v9 j (nums .u8 (le j x)))) (fun _ _ v10 _ => nn - (intOf v10).toNat)
    case atStart => exact ⟨0, x, Nat.zero_le _, rfl, rfl, hx0, hx1, ⟨by simp⟩, ⟨HB1.out⟩, ⟨World.ownsRow_nil _ _ _ _⟩⟩
    case round =>
      obtain ⟨j, y, hj, rfl, rfl, hy0, hy1, HY, HB, HO⟩ := hrel
      by_cases hlt : j < nn
      · go_wp2_with (at_builtin; refine wpList_append_own_at _ rfl _ _ 32 rfl X.heap.size 5 i0 (.int .u8 0) 1 1 Try.underlying32 hi hz0 hz1 hz2 rfl (by decide) _ j _ rfl (HO.out.alloc _) ⟨wr.heap.size, 0, none⟩ 1 1 [.int .u8 (y % 256)] rfl rfl (cell_one_new _ _ _) (ints_oneCell .u8 [y % 256]) (by unfold maxLen; omega) (by omega) (Nat.le_trans HB.out.size (below_alloc (Below.refl _ _) _).size) ?_; intro v' w2 hown' hgrow hnil hloc)
        have HB2 : Below X.heap.size X w2 := (HB.out.alloc HB.out.size _).grown hgrow (Nat.le_trans HB.out.size (below_alloc (Below.refl _ _) _).size) (fun z hz => own_base HO.out z hz)
        refine ⟨⟨j + 1, y / 256, by omega, by congr 1, rfl, by omega, by omega, ⟨by rw [HY.out]; exact ediv_pow x j⟩, ⟨HB2⟩, ⟨?_⟩⟩, by simp [intOf]; omega⟩
        rw [le_succ, nums_append]
        have e : byteAt x j = y % 256 := by rw [HY.out]; rfl
        rw [e]
        exact hown'
      · obtain rfl : j = nn := by omega
        obtain ⟨A3, c3, rfl, hc3, hl3, hC3⟩ := row_C HO.out
        have hA3 : ∀ ad, A3 = some ad → X.heap.size ≤ ad.block := fun ad e => by
          subst e
          rcases HO.out.2 with ⟨h', _⟩ | ⟨g', cap', cur', h', hg', _⟩
          · cases h'
          · cases h'; exact hg'
        have HCALL := Aside0.mk (HPUT.out wr A3 c3 HB.out hC3 hA3)
        clear hC3 hA3 hl3 hc3
        go_wp2_with fail
        refine HCALL.out.mono ?_
        intro e w2 hp
        have HQ : Aside0 (RWritePost X B own b R a j x e w2) := by
          refine ⟨?_⟩
          unfold RWritePost
          rw [HF.out]
          unfold RPutPost at hp
          cases hf : putF R a (le j x) with
          | none => rw [hf] at hp; exact ⟨hp.1, below_then HB.out HB.out.size hp.2⟩
          | some R' => rw [hf] at hp; exact ⟨hp.1, hp.2.1.mono (fun _ _ h => h.1), (below_out HB.out own).trans hp.2.2 (fun _ _ h => h.1)⟩
        obtain ⟨bb, rfl⟩ : ∃ b, e = .returned (.bool b) := by
          unfold RPutPost at hp
          cases hf : putF R a (le j x) with
          | none => rw [hf] at hp; exact ⟨_, hp.1⟩
          | some L' => rw [hf] at hp; exact ⟨_, hp.1⟩
        clear hp
        go_wp2_with fail
        go_ret
        exact HQ.out
  · have hn' : numB n = false := by simpa using hn
    rw [hn'] at HN
    have HF : Aside0 (writeF R a n x = none) := ⟨by unfold writeF; rw [if_neg hn]⟩
    clear hn hn' h ha0 ha1 hW
    go_enter Try.func25, Try.ntmps25
    go_wp2_with fail
    refine (HN.out _).mono ?_
    rintro e w1 ⟨rfl, hd1⟩
    go_wp2_with fail
    go_ret
    unfold RWritePost
    rw [HF.out]
    exact ⟨rfl, hd1.below⟩
end Go.Proofs.Ytlolhmocimaobaa.PAll
