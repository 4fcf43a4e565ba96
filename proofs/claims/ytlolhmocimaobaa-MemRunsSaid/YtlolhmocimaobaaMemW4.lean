/- mem: Clone, Bytes, Len. -/
import Derived.Test.YtlolhmocimaobaaMemW3
import Derived.Test.YtlolhmocimaobaaPAllx0
import Derived.Test.YtlolhmocimaobaaPAllx1
set_option linter.unusedVariables false
set_option linter.unusedSimpArgs false
namespace Go.Proofs.Ytlolhmocimaobaa.PAll
open Go.RowKit Go.Proofs.YtlolhmocimaobaaW.PrintWords Go.Proofs.YtlolhmocimaobaaW.PrintLast Go.Proofs.YtlolhmocimaobaaW.PrintMore
theorem infoU8 : (Try.prog.info? 5).map (fun i => (i.zero, i.size, i.bytes)) = some (some (.int .u8 0), 1, 1) := by kernel_rfl
/-! ### slices.Clone at bytes -/
def slices_Clone_byte_byte.f (l0 : List Int) : Option (List Int) := if l0.length < 140737488355328 then some l0 else none
set_option maxHeartbeats 2000000 in
set_option maxRecDepth 100000 in
theorem slices_Clone_byte_byte.calls (A0 : Option Addr) (c0 : Nat) (l0 : List Int) (r : List Int) (w : World) (hr0 : Kd.C (Kd.int .u8) w A0 l0.length l0) (hc0 : l0.length ≤ c0) (h : slices_Clone_byte_byte.f l0 = some r) :
    Calls Try.prog 28 #[.slice A0 l0.length c0] w fun e w' => ∃ v0_ : Value, e = .returned (v0_) ∧ Kd.R (Kd.int .u8) 5 w' w.heap.size (fun _ => True) v0_ r ∧ Below w.heap.size w w' := by
  unfold slices_Clone_byte_byte.f at h
  by_cases hl : l0.length < 140737488355328
  case neg => rw [if_neg hl] at h; cases h
  rw [if_pos hl] at h
  obtain rfl := Option.some.inj h
  clear h
  have HR0 := Aside0.mk hr0
  have HC0 := Aside0.mk hc0
  have HL := Aside0.mk hl
  clear hr0 hc0 hl
  have heq := fun (W : World) (c : Nat) => Lib.run_eql_slice_nil (P := Try.prog) W 32 5 A0 l0.length c 0 0 Try.underlying32
  cases A0 with
  | none =>
    have hn : l0 = [] := by
      rcases Nat.eq_zero_or_pos l0.length with h0 | h0
      · exact List.eq_nil_of_length_eq_zero h0
      · obtain ⟨ad, h, _⟩ := HR0.out.2.2 h0
        cases h
    subst hn
    simp only [List.length_nil] at heq ⊢
    go_enter Try.func28, Try.ntmps28
    go_wp2
    go_ret
    exact ⟨_, rfl, Kd.R_nil _ _ _ _ _, Below.refl _ _⟩
  | some ad =>
    go_enter Try.func28, Try.ntmps28
    go_wp2_with (first | ((with_reducible refine gate_dst (N := 5) rfl ?_); refine Kd.R_lit (Kd.int .u8) _ 5 ?hg (N := 5) ?hd (xs := ([] : List Int)) (inner := []) (ok := fun _ => True) (okp := fun _ => True) ?hr ?hp (fun _ hk => hk) trivial (Below.refl _ _) (Nat.le_refl _) (by simp) ?_; (case hd => rfl); (case hg => rfl); (case hr => first | (go_simp; done) | (go_simp; rfl)); (case hp => exact (Reps.none _ _)); intro v1 w1 ho1 hb1 hg1 hnew1; clear hg1 hnew1; have HO1 := Aside0.mk ho1; have HB1 := Aside0.mk hb1; clear ho1 hb1) | ((with_reducible refine gate_builtin (b := .append) (xs := #[.tmp 5, .tmp 6]) rfl ?_); at_builtin; refine Kd.R_append_rows (Kd.int .u8) (w0 := w) w.heap.size rfl (.tmp 5) (.tmp 6) 32 5 (.int .u8 0) 1 rfl Try.underlying32 infoU8 rfl (by decide) (by omega) v1 [] l0 _ _ _ (fun _ => True) (fun _ => False) rfl rfl ?aO ?aR (fun _ _ h => h) (fun _ h => h.elim) ?aF ?aB ?aS ?aL ?_; (case aR => exact Kd.C_below HR0.out HB1.out); (case aB => exact HB1.out); (case aF => exact (fun _ _ => trivial)); (case aO => exact HO1.out); (case aS => exact HB1.out.size); (case aL => have := HL.out; simp only [List.length_nil]; omega); intro v2 w2 ho2 hb2 hg2 hat2; clear hg2 hat2; have HO2 := Aside0.mk ho2; have HB2 := Aside0.mk hb2; clear ho2 hb2))
    go_ret
    exact ⟨_, rfl, HO2.out, HB2.out⟩
/-! ### part of a row -/
theorem row_C {X : World} {B n : Nat} {v : Value} {xs : List Int} (h : X.ownsRow B 5 1 v n (nums .u8 xs)) : ∃ A c, v = .slice A n c ∧ n ≤ c ∧ xs.length = n ∧ Kd.C (Kd.int .u8) X A n xs := by
  have hl : xs.length = n := by have := h.1; rw [nums_length] at this; omega
  subst hl
  obtain ⟨A, c, rfl⟩ := own_slice h
  have hr : Kd.R (Kd.int .u8) 5 X B (fun _ => True) (.slice A xs.length c) xs := Kd.R_of_own (enc := fun x => .int .u8 x) (by simpa [encs, nums] using h) (fun _ _ => trivial)
  exact ⟨A, c, rfl, (Kd.R_reads' hr).2.1, rfl, (Kd.R_reads' hr).2.2⟩
theorem sub_C {X : World} {B n c cap off nn : Nat} {xs : List Int} (h : X.ownsRow B 5 1 (.slice (some ⟨c, 0, none⟩) n cap) n (nums .u8 xs)) (hfit : off + nn ≤ n) (hnn : 1 ≤ nn) : Kd.C (Kd.int .u8) X (some ⟨c, off, none⟩) nn ((xs.drop off).take nn) := by
  obtain ⟨A, c', he, hcap, hl, hC⟩ := row_C h
  cases he
  subst hl
  have hm := Kd.C_mid (lo := off) (hi := off + nn) (c := cap) hC (by omega) (by omega) hcap
  have e1 : ((xs.take (off + nn)).drop off) = (xs.drop off).take nn := by rw [List.drop_take, Nat.add_sub_cancel_left]
  have e2 : ((xs.drop off).take nn).length = nn := by rw [List.length_take, List.length_drop]; omega
  rw [if_neg (by omega), e1, e2] at hm
  have e3 : (some (⟨c, 0, none⟩ : Addr)).map (·.add (off * (Kd.int IntKind.u8).sz)) = some ⟨c, off, none⟩ := by
    show some ((⟨c, 0, none⟩ : Addr).add (off * 1)) = _
    rw [Nat.mul_one, add_plain]
  rw [e3] at hm
  exact hm
/-- What Bytes answers. -/
def bytesF (L : List Reg) (a n : Int) : Option (List Int) :=
  match L.findIdx? (hitR a n) with
  | none => none
  | some k => match L[k]? with
    | none => none
    | some r => some ((r.data.drop (a - r.base).toNat).take n.toNat)
def BytesPost (X : World) (L : List Reg) (a n : Int) (e : Ending) (X' : World) : Prop :=
  Below X.heap.size X X' ∧ ∃ v, e = .returned (.tuple #[v, .bool (bytesF L a n).isSome]) ∧ Kd.R (Kd.int .u8) 5 X' X.heap.size (fun _ => True) v ((bytesF L a n).getD [])
set_option maxHeartbeats 4000000 in
set_option maxRecDepth 100000 in
theorem mem_Bytes (X : World) (B : Nat) (own : Nat → Prop) (m : Nat) (L : List Reg) (a n : Int) (h : MemAt X B own m L) (hI : Inv L) (hl : L.length ≤ 1000000) (ha0 : 0 ≤ a) (ha1 : a < 18446744073709551616) (hn0 : -9223372036854775808 ≤ n) (hn1 : n < 9223372036854775808) :
    Calls Try.prog 16 #[.pointer (some ⟨m, 0, none⟩), .int .u64 a, .int .i64 n] X (BytesPost X L a n) := by
  obtain ⟨v, ps, hM⟩ := h
  have HM := Aside0.mk hM
  have HI := Aside0.mk hI
  have hA := Aside0.mk (mem_part X B own m L v ps a n hM hI hl ha0 ha1 hn0 hn1)
  have heq := fun (W : World) (b : Option Addr) (n c : Nat) => neq_nil (P := Try.prog) W 32 5 b n c Try.underlying32
  clear hM hI ha0 ha1 hn0 hn1
  go_enter Try.func16, Try.ntmps16
  go_wp2_with fail
  refine hA.out.mono ?_
  intro e X' hp
  obtain ⟨hb, hp⟩ := hp
  have HB := Aside0.mk hb
  clear hb
  cases hf : L.findIdx? (hitR a n) with
  | none =>
    rw [hf] at hp
    dsimp only at hp
    subst hp
    have HF : Aside0 (bytesF L a n = none) := ⟨by unfold bytesF; rw [hf]⟩
    have HC := Aside0.mk (slices_Clone_byte_byte.calls none 0 [] [] X' ⟨rfl, by show 0 ≤ _; omega, fun h => absurd h (by simp)⟩ (Nat.le_refl _) rfl)
    clear hf
    go_wp2_with fail
    refine HC.out.mono ?_
    rintro e X'' ⟨v', rfl, hr, hb⟩
    have HP : Aside0 (BytesPost X L a n (.returned (.tuple #[v', .bool false])) X'') := ⟨⟨below_then HB.out HB.out.size hb, v', by rw [HF.out]; rfl, by rw [HF.out]; exact Kd.R_lower hr HB.out.size⟩⟩
    clear hr hb
    go_wp2_with fail
    go_ret2
    exact HP.out
  | some k =>
    rw [hf] at hp
    dsimp only at hp
    obtain ⟨p, r, cap, hpk, hrk, hhit, hrow, rfl⟩ := hp
    obtain ⟨hh1, hh2, hh3⟩ := hit_iff.1 hhit
    obtain ⟨off, hoff⟩ : ∃ off : Nat, (a - r.base).toNat = off := ⟨_, rfl⟩
    obtain ⟨nn, rfl⟩ : ∃ nn : Nat, n = nn := ⟨n.toNat, by omega⟩
    have HF : Aside0 (bytesF L a nn = some ((r.data.drop off).take nn)) := ⟨by unfold bytesF; rw [hf]; dsimp only; rw [hrk]; dsimp only; rw [hoff, Int.toNat_natCast]⟩
    have hreg := HM.out.reg k p r hpk hrk
    obtain ⟨bs, hbs⟩ : ∃ bs, (r.data.drop off).take nn = bs := ⟨_, rfl⟩
    have hbl : bs.length = nn := by rw [← hbs, List.length_take, List.length_drop]; omega
    have hC := sub_C (row_keep hrow (fun k hk => by cases hk; exact HB.out.block p.2 hreg.lt.2)) (show off + nn ≤ r.data.length by omega) (by omega)
    have hsh := HI.out.short r (List.mem_of_getElem? hrk)
    have hcap : nn ≤ cap - off := by
      rcases hrow.2 with ⟨h1, _⟩ | ⟨g, cp, c, h1, _, _, h2, _⟩
      · cases h1
      · cases h1; omega
    rw [hbs] at hC HF
    have hcl := slices_Clone_byte_byte.calls (some ⟨p.2, off, none⟩) (cap - off) bs bs X' (by rw [hbl]; exact hC) (by omega) (by unfold slices_Clone_byte_byte.f; rw [if_pos (by omega)])
    rw [hbl] at hcl
    have HC := Aside0.mk hcl
    rw [Int.toNat_natCast, hoff]
    clear hf hpk hrk hhit hrow hh1 hh2 hh3 hoff hreg hbs hbl hC hsh hcap hcl
    go_wp2_with fail
    refine HC.out.mono ?_
    rintro e X'' ⟨v', rfl, hr, hb⟩
    have HP : Aside0 (BytesPost X L a nn (.returned (.tuple #[v', .bool true])) X'') := ⟨⟨below_then HB.out HB.out.size hb, v', by rw [HF.out]; rfl, by rw [HF.out]; exact Kd.R_lower hr HB.out.size⟩⟩
    clear hr hb
    go_wp2_with fail
    go_ret2
    exact HP.out
end Go.Proofs.Ytlolhmocimaobaa.PAll
