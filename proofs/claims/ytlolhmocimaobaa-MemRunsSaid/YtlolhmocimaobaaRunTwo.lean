/- The program's memory and the reference's side by side: what each operation does to the two. -/
import Derived.Test.YtlolhmocimaobaaRunLaw
set_option linter.unusedVariables false
set_option linter.unusedSimpArgs false
namespace Go.Proofs.Ytlolhmocimaobaa.PAll
open Go.RowKit Go.Shelf Go.Proofs.YtlolhmocimaobaaW.PrintWords Go.Proofs.YtlolhmocimaobaaW.PrintLast Go.Proofs.YtlolhmocimaobaaW.PrintMore
/-- The program's memory in block m holds the regions K, the reference's in block b the regions R; no block belongs to both; none of the blocks fr belongs to either. -/
def Two (X : World) (n0 : Nat) (fr : Nat → Prop) (m b : Nat) (K R : List Reg) : Prop := ∃ (own own' : Nat → Prop) (L : List Reg), n0 ≤ X.heap.size ∧ (∀ k, fr k → k < X.heap.size) ∧ (∀ k, own k → ¬ fr k ∧ k < X.heap.size ∧ ¬ own' k) ∧ (∀ k, own' k → ¬ fr k ∧ k < X.heap.size) ∧ MemAt X n0 own m L ∧ Inv L ∧ L.Perm K ∧ RefAt X n0 own' b R ∧ DL R
theorem Two.below {X X' : World} {n0 : Nat} {fr : Nat → Prop} {m b : Nat} {K R : List Reg} (h : Two X n0 fr m b K R) (hb : Below X.heap.size X X') : Two X' n0 fr m b K R := by
  obtain ⟨o, o', L, h1, hf0, h2, h3, h4, h5, h6, h7, h8⟩ := h
  exact ⟨o, o', L, Nat.le_trans h1 hb.size, fun k hk => Nat.lt_of_lt_of_le (hf0 k hk) hb.size, fun k hk => ⟨(h2 k hk).1, Nat.lt_of_lt_of_le (h2 k hk).2.1 hb.size, (h2 k hk).2.2⟩, fun k hk => ⟨(h3 k hk).1, Nat.lt_of_lt_of_le (h3 k hk).2 hb.size⟩, h4.below hb, h5, h6, h7.below hb, h8⟩
/-- A block more that is let alone. -/
theorem Two.alloc {X : World} {n0 : Nat} {fr : Nat → Prop} {m b : Nat} {K R : List Reg} (h : Two X n0 fr m b K R) (o : Obj) : Two (X.alloc o) n0 (fun k => fr k ∨ k = X.heap.size) m b K R := by
  have hb : Below X.heap.size X (X.alloc o) := below_alloc (Below.refl _ _) o
  have hs : X.heap.size < (X.alloc o).heap.size := by simp
  obtain ⟨o1, o', L, h1, hf0, h2, h3, h4, h5, h6, h7, h8⟩ := h.below hb
  obtain ⟨p1, p', L', k1, kf0, k2, k3, k4, k5, k6, k7, k8⟩ := h
  refine ⟨p1, p', L', h1, ?_, ?_, ?_, k4.below hb, k5, k6, k7.below hb, k8⟩
  · rintro k (hk | rfl)
    · exact hf0 k hk
    · exact hs
  · intro k hk
    refine ⟨?_, Nat.lt_trans (k2 k hk).2.1 hs, (k2 k hk).2.2⟩
    rintro (h | rfl)
    · exact (k2 k hk).1 h
    · have := (k2 _ hk).2.1; omega
  · intro k hk
    refine ⟨?_, Nat.lt_trans (k3 k hk).2 hs⟩
    rintro (h | rfl)
    · exact (k3 k hk).1 h
    · have := (k3 _ hk).2; omega
theorem Two.weaken {X : World} {n0 : Nat} {fr fr' : Nat → Prop} {m b : Nat} {K R : List Reg} (h : Two X n0 fr m b K R) (hf : ∀ k, fr' k → fr k) : Two X n0 fr' m b K R := by
  obtain ⟨o, o', L, h1, hf0, h2, h3, h4, h5, h6, h7, h8⟩ := h
  exact ⟨o, o', L, h1, fun k hk => hf0 k (hf k hk), fun k hk => ⟨fun h => (h2 k hk).1 (hf k h), (h2 k hk).2⟩, fun k hk => ⟨fun h => (h3 k hk).1 (hf k h), (h3 k hk).2⟩, h4, h5, h6, h7, h8⟩
theorem Two.size {X : World} {n0 : Nat} {fr : Nat → Prop} {m b : Nat} {K R : List Reg} (h : Two X n0 fr m b K R) : n0 ≤ X.heap.size := by
  obtain ⟨o, o', L, h1, _⟩ := h; exact h1
theorem Two.dl {X : World} {n0 : Nat} {fr : Nat → Prop} {m b : Nat} {K R : List Reg} (h : Two X n0 fr m b K R) : DL K ∧ DL R := by
  obtain ⟨o, o', L, h1, hf0, h2, h3, h4, h5, h6, h7, h8⟩ := h
  exact ⟨(inv_DL h5).perm h6, h8⟩
/-- The program's memory turns. -/
theorem Two.mem {X X' : World} {n0 : Nat} {fr : Nat → Prop} {m b : Nat} {own own' : Nat → Prop} {R L' : List Reg} (h1 : n0 ≤ X.heap.size) (hf0 : ∀ k, fr k → k < X.heap.size) (h2 : ∀ k, own k → ¬ fr k ∧ k < X.heap.size ∧ ¬ own' k) (h3 : ∀ k, own' k → ¬ fr k ∧ k < X.heap.size) (h7 : RefAt X n0 own' b R) (h8 : DL R)
    (hm : MemAt X' n0 (orNew own X) m L') (ho : Out own X X') (hI : Inv L') {K' : List Reg} (hp : L'.Perm K') : Two X' n0 fr m b K' R ∧ Out (fun k => ¬ fr k) X X' := by
  have hr : ∀ k, k < X.heap.size → own' k → ¬ own k := fun k _ hk ho => (h2 k ho).2.2 hk
  refine ⟨⟨fun k => orNew own X k ∧ k < X'.heap.size, own', L', Nat.le_trans h1 ho.size, fun k hk => Nat.lt_of_lt_of_le (hf0 k hk) ho.size, ?_, fun k hk => ⟨(h3 k hk).1, Nat.lt_of_lt_of_le (h3 k hk).2 ho.size⟩, hm.bound, hI, hp, h7.out ho hr, h8⟩, ho.mono (fun k _ hk => (h2 k hk).1)⟩
  rintro k ⟨hk, hlt⟩
  rcases hk with hk | hk
  · exact ⟨(h2 k hk).1, hlt, (h2 k hk).2.2⟩
  · exact ⟨fun h => by have := hf0 k h; omega, hlt, fun h => by have := (h3 k h).2; omega⟩
/-- The reference's memory turns. -/
theorem Two.ref {X X' : World} {n0 : Nat} {fr : Nat → Prop} {m b : Nat} {own own' : Nat → Prop} {K L R' : List Reg} (h1 : n0 ≤ X.heap.size) (hf0 : ∀ k, fr k → k < X.heap.size) (h2 : ∀ k, own k → ¬ fr k ∧ k < X.heap.size ∧ ¬ own' k) (h3 : ∀ k, own' k → ¬ fr k ∧ k < X.heap.size) (h4 : MemAt X n0 own m L) (h5 : Inv L) (h6 : L.Perm K)
    (hm : RefAt X' n0 (orNew own' X) b R') (ho : Out own' X X') (hI : DL R') : Two X' n0 fr m b K R' ∧ Out (fun k => ¬ fr k) X X' := by
  refine ⟨⟨own, fun k => orNew own' X k ∧ k < X'.heap.size, L, Nat.le_trans h1 ho.size, fun k hk => Nat.lt_of_lt_of_le (hf0 k hk) ho.size, fun k hk => ⟨(h2 k hk).1, Nat.lt_of_lt_of_le (h2 k hk).2.1 ho.size, ?_⟩, ?_, h4.out ho (fun k _ hk => (h2 k hk).2.2), h5, h6, hm.bound, hI⟩, ho.mono (fun k _ hk => (h3 k hk).1)⟩
  · rintro ⟨h | h, _⟩
    · exact (h2 k hk).2.2 h
    · have := (h2 k hk).2.1; omega
  · rintro k ⟨hk, hlt⟩
    rcases hk with hk | hk
    · exact ⟨(h3 k hk).1, hlt⟩
    · exact ⟨fun h => by have := hf0 k h; omega, hlt⟩
theorem inv_add {L : List Reg} (h : Inv L) {base : Int} {bs : List Int} (h0 : 0 ≤ base) (hw : ∀ x ∈ bs, 0 ≤ x ∧ x < 256) (hs : bs.length ≤ 4294967296) (ho : addOk L base bs.length = true) {i : Nat} (hi : IsAt L (base + bs.length - 1) i) : Inv (L.take i ++ [⟨base, bs⟩] ++ L.drop i) := inv_insert h ho h0 hw hs hi
theorem DL.add {R : List Reg} (h : DL R) {base : Int} {bs : List Int} (h0 : 0 ≤ base) (hw : ∀ x ∈ bs, 0 ≤ x ∧ x < 256) (hs : bs.length ≤ 4294967296) (ho : addOk R base bs.length = true) : DL (⟨base, bs⟩ :: R) := by
  obtain ⟨o1, o2, o3⟩ := of_decide_eq_true ho
  refine ⟨fun r hr => ?_, List.pairwise_cons.2 ⟨fun r hr => ?_, h.pw⟩⟩
  · rcases List.mem_cons.1 hr with rfl | hr
    · exact ⟨o1, h0, o2, hw, hs⟩
    · exact h.ok r hr
  · rcases o3 r hr with h | h
    · exact .inr h
    · exact .inl h
theorem DL.put {R : List Reg} (h : DL R) {a : Int} {bs : List Int} (hw : ∀ x ∈ bs, 0 ≤ x ∧ x < 256) : DL (putG R a bs) := by
  refine ⟨fun r hr => ?_, ?_⟩
  · obtain ⟨s, hs, rfl⟩ := List.mem_map.1 hr
    exact putR_ok (h.ok s hs) hw
  · unfold putG
    rw [List.pairwise_map]
    refine h.pw.imp_of_mem (fun {r s} hr hs hap => ?_)
    obtain ⟨e1, e2⟩ := putR_len (a := a) (bs := bs) (h.ok r hr)
    obtain ⟨e3, e4⟩ := putR_len (a := a) (bs := bs) (h.ok s hs)
    unfold Apart at hap ⊢
    rw [e1, e2, e3, e4]
    exact hap
theorem DL.rem {R : List Reg} (h : DL R) (a : Int) : DL (remR R a) := ⟨fun r hr => h.ok r (List.mem_filter.1 hr).1, h.pw.sublist List.filter_sublist⟩
theorem rem_perm {K K' : List Reg} (hp : K.Perm K') (a : Int) : (remR K a).Perm (remR K' a) := hp.filter _
theorem put_perm {K K' : List Reg} (hp : K.Perm K') (a : Int) (bs : List Int) : (putG K a bs).Perm (putG K' a bs) := hp.map _
theorem add_perm {K K' : List Reg} (hp : K.Perm K') (a : Int) (bs : List Int) : (addG K a bs).Perm (addG K' a bs) := by
  unfold addG
  rw [addOk_perm hp]
  by_cases h : addOk K' a bs.length = true
  · rw [if_pos h, if_pos h]; exact hp.cons _
  · rw [if_neg h, if_neg h]; exact hp
theorem MemAt.len {X : World} {B : Nat} {own : Nat → Prop} {m : Nat} {L : List Reg} (h : MemAt X B own m L) : True := trivial
/-! ### the program's operations -/
theorem two_add (X : World) (n0 : Nat) (fr : Nat → Prop) (m b : Nat) (K R : List Reg) (base : Int) (A0 : Option Addr) (c0 : Nat) (bs : List Int) (h : Two X n0 fr m b K R) (hl : K.length ≤ 999999) (ha0 : 0 ≤ base) (ha1 : base < 18446744073709551616) (hr0 : Kd.C (Kd.int .u8) X A0 bs.length bs) (hc0 : bs.length ≤ c0) (hbl : bs.length ≤ 4294967296) (hw : ∀ x ∈ bs, 0 ≤ x ∧ x < 256) :
    Calls Try.prog 14 #[.pointer (some ⟨m, 0, none⟩), .int .u64 base, .slice A0 bs.length c0] X fun e X' => e = .returned (.bool (addOk K base bs.length)) ∧ Two X' n0 fr m b (addG K base bs) R ∧ Out (fun k => ¬ fr k) X X' := by
  have hT := h
  obtain ⟨o, o', L, h1, hf0, h2, h3, h4, h5, h6, h7, h8⟩ := h
  refine (mem_Add X n0 o m L base A0 c0 bs h4 h5 (by rw [h6.length_eq]; exact hl) h1 ha0 ha1 hr0 hc0 hbl).mono ?_
  intro e X' hp
  unfold AddPost at hp
  unfold addG
  rw [← addOk_perm h6]
  by_cases ho : addOk L base bs.length = true
  · rw [if_pos ho] at hp
    rw [if_pos ho, ho]
    obtain ⟨rfl, ⟨i, hi, hm⟩, hout⟩ := hp
    obtain ⟨g1, g2⟩ := Two.mem h1 hf0 h2 h3 h7 h8 hm hout (inv_insert h5 ho ha0 hw hbl hi) ((ins_perm L _ i).trans (h6.cons _))
    exact ⟨rfl, g1, g2⟩
  · rw [if_neg ho] at hp
    rw [if_neg ho]
    have ho' : addOk L base bs.length = false := by simpa using ho
    rw [ho']
    exact ⟨hp.1, hT.below hp.2, below_out hp.2 _⟩
theorem two_rem (X : World) (n0 : Nat) (fr : Nat → Prop) (m b : Nat) (K R : List Reg) (a : Int) (h : Two X n0 fr m b K R) (hl : K.length ≤ 999999) (ha0 : 0 ≤ a) (ha1 : a < 18446744073709551616) :
    Calls Try.prog 19 #[.pointer (some ⟨m, 0, none⟩), .int .u64 a] X fun e X' => e = .returned (.bool (K.any (fun r => r.base == a))) ∧ Two X' n0 fr m b (remR K a) R ∧ Out (fun k => ¬ fr k) X X' := by
  have hT := h
  obtain ⟨o, o', L, h1, hf0, h2, h3, h4, h5, h6, h7, h8⟩ := h
  refine (mem_Remove X n0 o m L a h4 h5 (by rw [h6.length_eq]; omega) ha0 ha1).mono ?_
  intro e X' hp
  unfold RemPost at hp
  obtain ⟨e1, e2⟩ := remF_eq h5 a
  rw [← any_perm h6, ← e1]
  cases hf : remF L a with
  | none =>
    rw [hf] at hp e2
    have hpp : L.Perm (remR K a) := by rw [show L = remR L a from e2]; exact rem_perm h6 a
    exact ⟨hp.1, by
      have hb := hp.2
      have := hT.below hb
      refine ⟨o, o', L, Nat.le_trans h1 hb.size, fun k hk => Nat.lt_of_lt_of_le (hf0 k hk) hb.size, fun k hk => ⟨(h2 k hk).1, Nat.lt_of_lt_of_le (h2 k hk).2.1 hb.size, (h2 k hk).2.2⟩, fun k hk => ⟨(h3 k hk).1, Nat.lt_of_lt_of_le (h3 k hk).2 hb.size⟩, h4.below hb, h5, hpp, h7.below hb, h8⟩, below_out hp.2 _⟩
  | some L' =>
    rw [hf] at hp e2
    have e3 : L' = remR L a := e2
    subst e3
    obtain ⟨g1, g2⟩ := Two.mem h1 hf0 h2 h3 h7 h8 (hp.2.1.mono (fun _ _ h => .inl h)) hp.2.2 (inv_rem h5 a) (rem_perm h6 a)
    exact ⟨hp.1, g1, g2⟩
theorem two_read (X : World) (n0 : Nat) (fr : Nat → Prop) (m b : Nat) (K R : List Reg) (a n : Int) (h : Two X n0 fr m b K R) (hl : K.length ≤ 999999) (ha0 : 0 ≤ a) (ha1 : a < 18446744073709551616) (hn0 : -9223372036854775808 ≤ n) (hn1 : n < 9223372036854775808) :
    Calls Try.prog 18 #[.pointer (some ⟨m, 0, none⟩), .int .u64 a, .int .i64 n] X fun e X' => e = .returned (.tuple #[.int .u64 (readF K a n).1, .bool (readF K a n).2]) ∧ Below X.heap.size X X' := by
  obtain ⟨o, o', L, h1, hf0, h2, h3, h4, h5, h6, h7, h8⟩ := h
  rw [← readF_perm (inv_DL h5) h6]
  exact mem_Read X n0 o m L a n h4 h5 (by rw [h6.length_eq]; omega) ha0 ha1 hn0 hn1
theorem two_bytes (X : World) (n0 : Nat) (fr : Nat → Prop) (m b : Nat) (K R : List Reg) (a n : Int) (h : Two X n0 fr m b K R) (hl : K.length ≤ 999999) (ha0 : 0 ≤ a) (ha1 : a < 18446744073709551616) (hn0 : -9223372036854775808 ≤ n) (hn1 : n < 9223372036854775808) :
    Calls Try.prog 16 #[.pointer (some ⟨m, 0, none⟩), .int .u64 a, .int .i64 n] X (BytesPost X K a n) := by
  obtain ⟨o, o', L, h1, hf0, h2, h3, h4, h5, h6, h7, h8⟩ := h
  refine (mem_Bytes X n0 o m L a n h4 h5 (by rw [h6.length_eq]; omega) ha0 ha1 hn0 hn1).mono ?_
  intro e X' hp
  unfold BytesPost at hp ⊢
  rw [← bytesF_perm (inv_DL h5) h6]
  exact hp
theorem two_put_post {X X' : World} {n0 : Nat} {fr : Nat → Prop} {m b : Nat} {K R : List Reg} {a : Int} {bs : List Int} {e : Ending} (hw : ∀ x ∈ bs, 0 ≤ x ∧ x < 256) {o o' : Nat → Prop} {L : List Reg} (h1 : n0 ≤ X.heap.size) (hf0 : ∀ k, fr k → k < X.heap.size) (h2 : ∀ k, o k → ¬ fr k ∧ k < X.heap.size ∧ ¬ o' k) (h3 : ∀ k, o' k → ¬ fr k ∧ k < X.heap.size) (h4 : MemAt X n0 o m L) (h5 : Inv L) (h6 : L.Perm K) (h7 : RefAt X n0 o' b R) (h8 : DL R) (hp : PutPost X n0 o m L a bs e X') :
    e = .returned (.bool (K.any (hitR a bs.length))) ∧ Two X' n0 fr m b (putG K a bs) R ∧ Out (fun k => ¬ fr k) X X' := by
  unfold PutPost at hp
  rw [← any_perm h6]
  cases hf : putF L a bs with
  | none =>
    rw [hf] at hp
    obtain ⟨e1, e2⟩ := putF_none hf
    have hb := hp.2
    rw [e1]
    have hpp : L.Perm (putG K a bs) := by rw [e2]; exact put_perm h6 a bs
    exact ⟨hp.1, ⟨o, o', L, Nat.le_trans h1 hb.size, fun k hk => Nat.lt_of_lt_of_le (hf0 k hk) hb.size, fun k hk => ⟨(h2 k hk).1, Nat.lt_of_lt_of_le (h2 k hk).2.1 hb.size, (h2 k hk).2.2⟩, fun k hk => ⟨(h3 k hk).1, Nat.lt_of_lt_of_le (h3 k hk).2 hb.size⟩, h4.below hb, h5, hpp, h7.below hb, h8⟩, below_out hp.2 _⟩
  | some L' =>
    rw [hf] at hp
    obtain ⟨e1, e2⟩ := putF_some (inv_DL h5) hf
    subst e2
    rw [e1]
    obtain ⟨g1, g2⟩ := Two.mem h1 hf0 h2 h3 h7 h8 (hp.2.1.mono (fun _ _ h => .inl h)) hp.2.2 (inv_put h5 hw) (put_perm h6 a bs)
    exact ⟨hp.1, g1, g2⟩
theorem two_put (X : World) (n0 : Nat) (fr : Nat → Prop) (m b : Nat) (K R : List Reg) (a : Int) (A0 : Option Addr) (c0 : Nat) (bs : List Int) (h : Two X n0 fr m b K R) (hl : K.length ≤ 999999) (ha0 : 0 ≤ a) (ha1 : a < 18446744073709551616) (hr0 : Kd.C (Kd.int .u8) X A0 bs.length bs) (hbl : bs.length ≤ 4294967296) (hw : ∀ x ∈ bs, 0 ≤ x ∧ x < 256) :
    Calls Try.prog 20 #[.pointer (some ⟨m, 0, none⟩), .int .u64 a, .slice A0 bs.length c0] X fun e X' => e = .returned (.bool (K.any (hitR a bs.length))) ∧ Two X' n0 fr m b (putG K a bs) R ∧ Out (fun k => ¬ fr k) X X' := by
  obtain ⟨o, o', L, h1, hf0, h2, h3, h4, h5, h6, h7, h8⟩ := h
  exact (mem_Put X n0 o m L a A0 c0 bs h4 h5 (by rw [h6.length_eq]; omega) ha0 ha1 hr0 (by omega)).mono fun e X' hp => two_put_post hw h1 hf0 h2 h3 h4 h5 h6 h7 h8 hp
def wrG (K : List Reg) (a n x : Int) : List Reg := if numB n then putG K a (le n.toNat x) else K
def wrB (K : List Reg) (a n x : Int) : Bool := if numB n then K.any (hitR a (le n.toNat x).length) else false
theorem le_wf (n : Nat) (x : Int) : ∀ y ∈ le n x, 0 ≤ y ∧ y < 256 := fun y hy => by
  unfold le byteAt at hy
  obtain ⟨i, _, rfl⟩ := List.mem_map.1 hy
  exact ⟨Int.emod_nonneg _ (by decide), Int.emod_lt_of_pos _ (by decide)⟩
theorem two_write (X : World) (n0 : Nat) (fr : Nat → Prop) (m b : Nat) (K R : List Reg) (a n x : Int) (h : Two X n0 fr m b K R) (hl : K.length ≤ 999999) (ha0 : 0 ≤ a) (ha1 : a < 18446744073709551616) (hx0 : 0 ≤ x) (hx1 : x < 18446744073709551616) :
    Calls Try.prog 15 #[.pointer (some ⟨m, 0, none⟩), .int .u64 a, .int .i64 n, .int .u64 x] X fun e X' => e = .returned (.bool (wrB K a n x)) ∧ Two X' n0 fr m b (wrG K a n x) R ∧ Out (fun k => ¬ fr k) X X' := by
  have hT := h
  obtain ⟨o, o', L, h1, hf0, h2, h3, h4, h5, h6, h7, h8⟩ := h
  refine (mem_Write X n0 o m L a n x h4 h5 (by rw [h6.length_eq]; omega) ha0 ha1 hx0 hx1).mono ?_
  intro e X' hp
  unfold WritePost writeF at hp
  unfold wrB wrG
  by_cases hn : numB n = true
  · rw [if_pos hn] at hp
    rw [if_pos hn, if_pos hn]
    exact two_put_post (le_wf _ _) h1 hf0 h2 h3 h4 h5 h6 h7 h8 hp
  · rw [if_neg hn] at hp
    rw [if_neg hn, if_neg hn]
    exact ⟨hp.1, hT.below hp.2, below_out hp.2 _⟩
theorem two_len (X : World) (n0 : Nat) (fr : Nat → Prop) (m b : Nat) (K R : List Reg) (h : Two X n0 fr m b K R) : Calls Try.prog 13 #[.pointer (some ⟨m, 0, none⟩)] X fun e X' => e = .returned (.int .i64 K.length) ∧ X = X' := by
  obtain ⟨o, o', L, h1, hf0, h2, h3, h4, h5, h6, h7, h8⟩ := h
  rw [← h6.length_eq]
  exact mem_Len X n0 o m L h4
/-! ### the reference's operations -/
theorem two_radd (X : World) (n0 : Nat) (fr : Nat → Prop) (m b : Nat) (K R : List Reg) (base : Int) (A0 : Option Addr) (c0 : Nat) (bs : List Int) (h : Two X n0 fr m b K R) (hl : R.length ≤ 999999) (ha0 : 0 ≤ base) (ha1 : base < 18446744073709551616) (hr0 : Kd.C (Kd.int .u8) X A0 bs.length bs) (hc0 : bs.length ≤ c0) (hbl : bs.length ≤ 4294967296) (hw : ∀ x ∈ bs, 0 ≤ x ∧ x < 256) :
    Calls Try.prog 22 #[.pointer (some ⟨b, 0, none⟩), .int .u64 base, .slice A0 bs.length c0] X fun e X' => e = .returned (.bool (addOk R base bs.length)) ∧ Two X' n0 fr m b K (if addOk R base bs.length then R ++ [⟨base, bs⟩] else R) ∧ Out (fun k => ¬ fr k) X X' := by
  have hT := h
  obtain ⟨o, o', L, h1, hf0, h2, h3, h4, h5, h6, h7, h8⟩ := h
  refine (ref_Add X n0 o' b R base A0 c0 bs h7 h8.ok hl h1 ha0 ha1 hr0 hc0 hbl).mono ?_
  intro e X' hp
  unfold RAddPost at hp
  by_cases ho : addOk R base bs.length = true
  · rw [if_pos ho] at hp
    rw [if_pos ho, ho]
    obtain ⟨g1, g2⟩ := Two.ref h1 hf0 h2 h3 h4 h5 h6 hp.2.1 hp.2.2 ((h8.add ha0 hw hbl ho).perm (List.perm_append_singleton _ _).symm)
    exact ⟨hp.1, g1, g2⟩
  · rw [if_neg ho] at hp
    rw [if_neg ho]
    have ho' : addOk R base bs.length = false := by simpa using ho
    rw [ho']
    exact ⟨hp.1, hT.below hp.2, below_out hp.2 _⟩
theorem two_rrem (X : World) (n0 : Nat) (fr : Nat → Prop) (m b : Nat) (K R : List Reg) (a : Int) (h : Two X n0 fr m b K R) (hl : R.length ≤ 999999) :
    Calls Try.prog 23 #[.pointer (some ⟨b, 0, none⟩), .int .u64 a] X fun e X' => e = .returned (.bool (R.any (fun r => r.base == a))) ∧ Two X' n0 fr m b K (remR R a) ∧ Out (fun k => ¬ fr k) X X' := by
  obtain ⟨o, o', L, h1, hf0, h2, h3, h4, h5, h6, h7, h8⟩ := h
  refine (ref_Remove X n0 o' b R a h7 (by omega) h1).mono ?_
  intro e X' hp
  unfold RemRPost at hp
  obtain ⟨g1, g2⟩ := Two.ref h1 hf0 h2 h3 h4 h5 h6 hp.2.1 hp.2.2 (h8.rem a)
  rw [← rem_lt]
  exact ⟨hp.1, g1, g2⟩
theorem two_rread (X : World) (n0 : Nat) (fr : Nat → Prop) (m b : Nat) (K R : List Reg) (a n : Int) (h : Two X n0 fr m b K R) (hl : R.length ≤ 999999) (ha0 : 0 ≤ a) (ha1 : a < 18446744073709551616) (hn0 : -9223372036854775808 ≤ n) (hn1 : n < 9223372036854775808) :
    Calls Try.prog 24 #[.pointer (some ⟨b, 0, none⟩), .int .u64 a, .int .i64 n] X fun e X' => e = .returned (.tuple #[.int .u64 (readF R a n).1, .bool (readF R a n).2]) ∧ Below X.heap.size X X' := by
  obtain ⟨o, o', L, h1, hf0, h2, h3, h4, h5, h6, h7, h8⟩ := h
  exact ref_Read X n0 o' b R a n h7 h8.ok (by omega) ha0 ha1 hn0 hn1
theorem two_rbytes (X : World) (n0 : Nat) (fr : Nat → Prop) (m b : Nat) (K R : List Reg) (a n : Int) (h : Two X n0 fr m b K R) (hl : R.length ≤ 999999) (ha0 : 0 ≤ a) (ha1 : a < 18446744073709551616) (hn0 : -9223372036854775808 ≤ n) (hn1 : n < 9223372036854775808) :
    Calls Try.prog 26 #[.pointer (some ⟨b, 0, none⟩), .int .u64 a, .int .i64 n] X (BytesPost X R a n) := by
  obtain ⟨o, o', L, h1, hf0, h2, h3, h4, h5, h6, h7, h8⟩ := h
  exact ref_Bytes X n0 o' b R a n h7 h8.ok (by omega) ha0 ha1 hn0 hn1
theorem two_rput_post {X X' : World} {n0 : Nat} {fr : Nat → Prop} {m b : Nat} {K R : List Reg} {a : Int} {bs : List Int} {e : Ending} (hw : ∀ x ∈ bs, 0 ≤ x ∧ x < 256) {o o' : Nat → Prop} {L : List Reg} (h1 : n0 ≤ X.heap.size) (hf0 : ∀ k, fr k → k < X.heap.size) (h2 : ∀ k, o k → ¬ fr k ∧ k < X.heap.size ∧ ¬ o' k) (h3 : ∀ k, o' k → ¬ fr k ∧ k < X.heap.size) (h4 : MemAt X n0 o m L) (h5 : Inv L) (h6 : L.Perm K) (h7 : RefAt X n0 o' b R) (h8 : DL R) (hp : RPutPost X n0 o' b R a bs e X') :
    e = .returned (.bool (R.any (hitR a bs.length))) ∧ Two X' n0 fr m b K (putG R a bs) ∧ Out (fun k => ¬ fr k) X X' := by
  unfold RPutPost at hp
  cases hf : putF R a bs with
  | none =>
    rw [hf] at hp
    obtain ⟨e1, e2⟩ := putF_none hf
    have hb := hp.2
    rw [e1, ← e2]
    exact ⟨hp.1, ⟨o, o', L, Nat.le_trans h1 hb.size, fun k hk => Nat.lt_of_lt_of_le (hf0 k hk) hb.size, fun k hk => ⟨(h2 k hk).1, Nat.lt_of_lt_of_le (h2 k hk).2.1 hb.size, (h2 k hk).2.2⟩, fun k hk => ⟨(h3 k hk).1, Nat.lt_of_lt_of_le (h3 k hk).2 hb.size⟩, h4.below hb, h5, h6, h7.below hb, h8⟩, below_out hp.2 _⟩
  | some L' =>
    rw [hf] at hp
    obtain ⟨e1, e2⟩ := putF_some h8 hf
    subst e2
    rw [e1]
    obtain ⟨g1, g2⟩ := Two.ref h1 hf0 h2 h3 h4 h5 h6 (hp.2.1.mono (fun _ _ h => .inl h)) hp.2.2 (h8.put hw)
    exact ⟨hp.1, g1, g2⟩
theorem two_rput (X : World) (n0 : Nat) (fr : Nat → Prop) (m b : Nat) (K R : List Reg) (a : Int) (A0 : Option Addr) (c0 : Nat) (bs : List Int) (h : Two X n0 fr m b K R) (hl : R.length ≤ 999999) (ha0 : 0 ≤ a) (ha1 : a < 18446744073709551616) (hr0 : Kd.C (Kd.int .u8) X A0 bs.length bs) (hbl : bs.length < 4294967296) (hw : ∀ x ∈ bs, 0 ≤ x ∧ x < 256) (hA : 0 < bs.length → ∀ ad, A0 = some ad → fr ad.block) :
    Calls Try.prog 27 #[.pointer (some ⟨b, 0, none⟩), .int .u64 a, .slice A0 bs.length c0] X fun e X' => e = .returned (.bool (R.any (hitR a bs.length))) ∧ Two X' n0 fr m b K (putG R a bs) ∧ Out (fun k => ¬ fr k) X X' := by
  obtain ⟨o, o', L, h1, hf0, h2, h3, h4, h5, h6, h7, h8⟩ := h
  exact (ref_Put X n0 o' b R a A0 c0 bs h7 h8.ok (by omega) ha0 ha1 hbl hr0 (fun hp ad e ho => (h3 _ ho).1 (hA hp ad e))).mono fun e X' hp => two_rput_post hw h1 hf0 h2 h3 h4 h5 h6 h7 h8 hp
theorem two_rwrite (X : World) (n0 : Nat) (fr : Nat → Prop) (m b : Nat) (K R : List Reg) (a n x : Int) (h : Two X n0 fr m b K R) (hl : R.length ≤ 999999) (ha0 : 0 ≤ a) (ha1 : a < 18446744073709551616) (hn0 : -9223372036854775808 ≤ n) (hn1 : n < 9223372036854775808) (hx0 : 0 ≤ x) (hx1 : x < 18446744073709551616) :
    Calls Try.prog 25 #[.pointer (some ⟨b, 0, none⟩), .int .u64 a, .int .i64 n, .int .u64 x] X fun e X' => e = .returned (.bool (wrB R a n x)) ∧ Two X' n0 fr m b K (wrG R a n x) ∧ Out (fun k => ¬ fr k) X X' := by
  have hT := h
  obtain ⟨o, o', L, h1, hf0, h2, h3, h4, h5, h6, h7, h8⟩ := h
  refine (ref_Write X n0 o' b R a n x h7 h8.ok (by omega) ha0 ha1 hn0 hn1 hx0 hx1).mono ?_
  intro e X' hp
  unfold RWritePost writeF at hp
  unfold wrB wrG
  by_cases hn : numB n = true
  · rw [if_pos hn] at hp
    rw [if_pos hn, if_pos hn]
    exact two_rput_post (le_wf _ _) h1 hf0 h2 h3 h4 h5 h6 h7 h8 hp
  · rw [if_neg hn] at hp
    rw [if_neg hn, if_neg hn]
    exact ⟨hp.1, hT.below hp.2, below_out hp.2 _⟩
end Go.Proofs.Ytlolhmocimaobaa.PAll
