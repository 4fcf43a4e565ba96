/- mem: the operations with all that is new behind one place; alive; MemNil. -/
import Derived.Test.YtlolhmocimaobaaMemNil
import Derived.Test.YtlolhmocimaobaaPAllx1
set_option linter.unusedVariables false
set_option linter.unusedSimpArgs false
namespace Go.Proofs.Ytlolhmocimaobaa.PAll
open Go.RowKit Go.Shelf Go.Proofs.YtlolhmocimaobaaW.PrintWords Go.Proofs.YtlolhmocimaobaaW.PrintLast Go.Proofs.YtlolhmocimaobaaW.PrintMore
theorem w64 (x : Int) (h0 : -9223372036854775808 ≤ x) (h1 : x < 9223372036854775808) : wrap64 x = x := by unfold wrap64; omega
theorem rd_at (l : List Int) (i : Nat) (s : Int) (r : List Int) (h : l.drop i = s :: r) : rd l (i : Int) = s := by
  have : l[i]? = some s := by rw [← List.head?_drop, h]; rfl
  simp [rd, List.getD_eq_getElem?_getD, this]
theorem drop_next {α : Type} {l : List α} {i : Nat} {s : α} {r : List α} (h : l.drop i = s :: r) : l.drop (i + 1) = r ∧ i < l.length ∧ l.length = i + 1 + r.length := by
  have hl : (l.drop i).length = r.length + 1 := by rw [h]; rfl
  rw [List.length_drop] at hl
  refine ⟨?_, by omega, by omega⟩
  rw [← List.drop_drop, h]; rfl
theorem same_l0 (a b : List Int) (hl : a.length = b.length) (hm : a.length ≤ 1099511627776) (t : List Int) : ∀ (i k : Nat), a.drop i = t → t.length < k → i ≤ a.length →
    slotcoderef01_Same.l0 k a b (i : Int) = some (decide (t = b.drop i)) := by
  induction t with
  | nil =>
    intro i k ht hk hi
    obtain ⟨k, rfl⟩ : ∃ m, k = m + 1 := ⟨k - 1, by omega⟩
    have : a.length ≤ i := List.drop_eq_nil_iff.mp ht
    simp only [slotcoderef01_Same.l0]; rw [if_neg (by omega)]
    have hbn : b.drop i = [] := List.drop_eq_nil_iff.mpr (by omega)
    rw [hbn]; simp
  | cons s r ih =>
    intro i k ht hk hi
    obtain ⟨k, rfl⟩ : ∃ m, k = m + 1 := ⟨k - 1, by omega⟩
    obtain ⟨hd, hlt, hl2⟩ := drop_next ht
    obtain ⟨q, r2, hq⟩ : ∃ q r2, b.drop i = q :: r2 := by
      cases h : b.drop i with
      | nil => have := List.drop_eq_nil_iff.mp h; omega
      | cons q r2 => exact ⟨q, r2, rfl⟩
    obtain ⟨hd2, _, _⟩ := drop_next hq
    simp only [List.length_cons] at hk
    simp only [slotcoderef01_Same.l0]; rw [if_pos (by omega), if_pos (by omega), if_pos (by omega), rd_at a i s r ht, rd_at b i q r2 hq]
    by_cases c : s = q
    · rw [if_pos c, w64 _ (by omega) (by omega), show (i : Int) + 1 = ((i + 1 : Nat) : Int) by omega, ih (i + 1) k hd (by omega) (by omega), hd2, hq]
      simp [c]
    · rw [if_neg c, hq]; simp [c]
theorem same_f (a b : List Int) (hm : a.length ≤ 1099511627776) (k : Nat) (hk : a.length < k) : slotcoderef01_Same.f k a b = some (decide (a = b)) := by
  unfold slotcoderef01_Same.f
  by_cases c : a.length = b.length
  · rw [if_pos (by omega)]
    have := same_l0 a b c hm a 0 k rfl hk (Nat.zero_le _)
    simpa using this
  · rw [if_neg (by omega)]
    have : a ≠ b := fun h => c (by rw [h])
    simp [this]
/-- A memory whose blocks all lie behind a place. -/
def Mem (X : World) (n0 m : Nat) (L : List Reg) : Prop := n0 ≤ X.heap.size ∧ Inv L ∧ MemAt X n0 (fun k => n0 ≤ k) m L
theorem Mem.below {X X' : World} {n0 m : Nat} {L : List Reg} (h : Mem X n0 m L) (hb : Below X.heap.size X X') : Mem X' n0 m L := ⟨Nat.le_trans h.1 hb.size, h.2.1, h.2.2.below hb⟩
theorem inv_nil : Inv [] := ⟨by simp, by simp, by simp, by simp, by simp, by simp⟩
theorem inv_one {base : Int} {bs : List Int} (h0 : 0 < bs.length) (h1 : 0 ≤ base) (h2 : base + bs.length ≤ 18446744073709551616) (h3 : ∀ x ∈ bs, 0 ≤ x ∧ x < 256) (h4 : bs.length ≤ 4294967296) : Inv [⟨base, bs⟩] :=
  ⟨fun r hr => by rw [List.mem_singleton.1 hr]; exact h0, fun r hr => by rw [List.mem_singleton.1 hr]; exact h1, fun r hr => by rw [List.mem_singleton.1 hr]; exact h2, fun r hr => by rw [List.mem_singleton.1 hr]; exact h3, fun r hr => by rw [List.mem_singleton.1 hr]; exact h4,
    fun i j r s hij hr hs => by
      have := (List.getElem?_eq_some_iff.1 hr).1
      have := (List.getElem?_eq_some_iff.1 hs).1
      simp at *
      omega⟩
theorem new_c (X : World) (n0 : Nat) (h : n0 ≤ X.heap.size) : Calls Try.prog 11 #[] X fun e X' => e = .returned (.pointer (some ⟨X.heap.size, 0, none⟩)) ∧ Mem X' n0 X.heap.size [] ∧ Below X.heap.size X X' := (mem_New X).mono fun e X' ⟨he, hm, hb⟩ => by
  refine ⟨he, ⟨Nat.le_trans h hb.size, inv_nil, ?_⟩, hb⟩
  obtain ⟨v, ps, q⟩ := hm
  exact ⟨v, ps, q.blk, by show n0 ≤ _; omega, by omega, own_weaken q.row h, fun k hk => by have := q.orow k hk; omega, q.len, fun i p r hp hr => by simp at hr, q.nd⟩
theorem add_c (X : World) (n0 m : Nat) (L : List Reg) (base : Int) (A0 : Option Addr) (c0 : Nat) (bs : List Int) (h : Mem X n0 m L) (hl : L.length ≤ 999999) (ha0 : 0 ≤ base) (ha1 : base < 18446744073709551616) (hr0 : Kd.C (Kd.int .u8) X A0 bs.length bs) (hc0 : bs.length ≤ c0) (hbl : bs.length ≤ 4294967296) (L' : Nat → List Reg) (hL : addOk L base bs.length = true → ∀ i, IsAt L (base + bs.length - 1) i → L.take i ++ [⟨base, bs⟩] ++ L.drop i = L' i ∧ Inv (L' i)) :
    Calls Try.prog 14 #[.pointer (some ⟨m, 0, none⟩), .int .u64 base, .slice A0 bs.length c0] X fun e X' => e = .returned (.bool (addOk L base bs.length)) ∧ (if addOk L base bs.length = true then ∃ i, IsAt L (base + bs.length - 1) i ∧ Mem X' n0 m (L' i) else Mem X' n0 m L) ∧ Below n0 X X' :=
  (mem_Add X n0 _ m L base A0 c0 bs h.2.2 h.2.1 hl h.1 ha0 ha1 hr0 hc0 hbl).mono fun e X' hp => by
    unfold AddPost at hp
    by_cases ho : addOk L base bs.length = true
    · rw [if_pos ho] at hp
      obtain ⟨rfl, ⟨i, hi, hm⟩, hout⟩ := hp
      obtain ⟨e1, e2⟩ := hL ho i hi
      rw [e1] at hm
      rw [ho]
      exact ⟨rfl, by rw [if_pos rfl]; exact ⟨i, hi, Nat.le_trans h.1 hout.size, e2, hm.mono (fun k _ hk => hk.elim (fun h => h) (fun hk => Nat.le_trans h.1 hk))⟩, hout.below h.1 (fun k hk => hk)⟩
    · rw [if_neg ho] at hp
      rw [if_neg ho]
      have ho' : addOk L base bs.length = false := by simpa using ho
      rw [ho']
      exact ⟨hp.1, h.below hp.2, hp.2.mono h.1⟩
theorem add0_c (X : World) (n0 m : Nat) (base : Int) (A0 : Option Addr) (c0 : Nat) (bs : List Int) (h : Mem X n0 m []) (ha0 : 0 ≤ base) (hr0 : Kd.C (Kd.int .u8) X A0 bs.length bs) (hc0 : bs.length ≤ c0) (hbl : bs.length ≤ 4294967296) (hpos : 0 < bs.length) (hfit : base + bs.length ≤ 18446744073709551616) (hw : ∀ x ∈ bs, 0 ≤ x ∧ x < 256) :
    Calls Try.prog 14 #[.pointer (some ⟨m, 0, none⟩), .int .u64 base, .slice A0 bs.length c0] X fun e X' => e = .returned (.bool true) ∧ Mem X' n0 m [⟨base, bs⟩] ∧ Below n0 X X' := by
  have ho : addOk [] base bs.length = true := decide_eq_true ⟨hpos, hfit, by simp⟩
  refine (add_c X n0 m [] base A0 c0 bs h (by decide) ha0 (by omega) hr0 hc0 hbl (fun _ => [⟨base, bs⟩]) (fun _ i hi => ⟨by have := hi.1; simp, inv_one hpos ha0 hfit hw hbl⟩)).mono ?_
  rintro e X' ⟨rfl, hm, hb⟩
  rw [ho] at hm ⊢
  rw [if_pos rfl] at hm
  obtain ⟨i, _, hm⟩ := hm
  exact ⟨rfl, hm, hb⟩
theorem read_c (X : World) (n0 m : Nat) (L : List Reg) (a n : Int) (h : Mem X n0 m L) (hl : L.length ≤ 999999) (ha0 : 0 ≤ a) (ha1 : a < 18446744073709551616) (hn0 : -9223372036854775808 ≤ n) (hn1 : n < 9223372036854775808) (y : Int) (b : Bool) (hf : readF L a n = (y, b)) :
    Calls Try.prog 18 #[.pointer (some ⟨m, 0, none⟩), .int .u64 a, .int .i64 n] X fun e X' => e = .returned (.tuple #[.int .u64 y, .bool b]) ∧ Below X.heap.size X X' :=
  (mem_Read X n0 _ m L a n h.2.2 h.2.1 (by omega) ha0 ha1 hn0 hn1).mono fun e X' hp => by
    unfold ReadPost at hp
    rw [hf] at hp
    exact hp
theorem bytes_c (X : World) (n0 m : Nat) (L : List Reg) (a n : Int) (h : Mem X n0 m L) (hl : L.length ≤ 999999) (ha0 : 0 ≤ a) (ha1 : a < 18446744073709551616) (hn0 : -9223372036854775808 ≤ n) (hn1 : n < 9223372036854775808) (o : Option (List Int)) (hf : bytesF L a n = o) :
    Calls Try.prog 16 #[.pointer (some ⟨m, 0, none⟩), .int .u64 a, .int .i64 n] X fun e X' => (∃ v, e = .returned (.tuple #[v, .bool o.isSome]) ∧ Kd.R (Kd.int .u8) 5 X' X.heap.size (fun _ => True) v (o.getD [])) ∧ Below X.heap.size X X' :=
  (mem_Bytes X n0 _ m L a n h.2.2 h.2.1 (by omega) ha0 ha1 hn0 hn1).mono fun e X' hp => by
    unfold BytesPost at hp
    rw [hf] at hp
    exact ⟨hp.2, hp.1⟩
theorem put_c (X : World) (n0 m : Nat) (L : List Reg) (a : Int) (A0 : Option Addr) (c0 : Nat) (bs : List Int) (h : Mem X n0 m L) (hl : L.length ≤ 999999) (ha0 : 0 ≤ a) (ha1 : a < 18446744073709551616) (hr0 : Kd.C (Kd.int .u8) X A0 bs.length bs) (hbl : bs.length ≤ 4294967296) (o : Option (List Reg)) (hf : putF L a bs = o) (hL : ∀ L', o = some L' → Inv L') :
    Calls Try.prog 20 #[.pointer (some ⟨m, 0, none⟩), .int .u64 a, .slice A0 bs.length c0] X fun e X' => e = .returned (.bool o.isSome) ∧ Mem X' n0 m (o.getD L) ∧ Below n0 X X' :=
  (mem_Put X n0 _ m L a A0 c0 bs h.2.2 h.2.1 (by omega) ha0 ha1 hr0 (by omega)).mono fun e X' hp => by
    unfold PutPost at hp
    rw [hf] at hp
    cases o with
    | none => exact ⟨hp.1, h.below hp.2, hp.2.mono h.1⟩
    | some L' => exact ⟨hp.1, ⟨Nat.le_trans h.1 hp.2.2.size, hL L' rfl, hp.2.1⟩, hp.2.2.below h.1 (fun k hk => hk)⟩
theorem write_c (X : World) (n0 m : Nat) (L : List Reg) (a n x : Int) (h : Mem X n0 m L) (hl : L.length ≤ 999999) (ha0 : 0 ≤ a) (ha1 : a < 18446744073709551616) (hx0 : 0 ≤ x) (hx1 : x < 18446744073709551616) (o : Option (List Reg)) (hf : writeF L a n x = o) (hL : ∀ L', o = some L' → Inv L') :
    Calls Try.prog 15 #[.pointer (some ⟨m, 0, none⟩), .int .u64 a, .int .i64 n, .int .u64 x] X fun e X' => e = .returned (.bool o.isSome) ∧ Mem X' n0 m (o.getD L) ∧ Below n0 X X' :=
  (mem_Write X n0 _ m L a n x h.2.2 h.2.1 (by omega) ha0 ha1 hx0 hx1).mono fun e X' hp => by
    unfold WritePost at hp
    rw [hf] at hp
    cases o with
    | none => exact ⟨hp.1, h.below hp.2, hp.2.mono h.1⟩
    | some L' => exact ⟨hp.1, ⟨Nat.le_trans h.1 hp.2.2.size, hL L' rfl, hp.2.1⟩, hp.2.2.below h.1 (fun k hk => hk)⟩
theorem rem_c (X : World) (n0 m : Nat) (L : List Reg) (a : Int) (h : Mem X n0 m L) (hl : L.length ≤ 999999) (ha0 : 0 ≤ a) (ha1 : a < 18446744073709551616) (o : Option (List Reg)) (hf : remF L a = o) (hL : ∀ L', o = some L' → Inv L') :
    Calls Try.prog 19 #[.pointer (some ⟨m, 0, none⟩), .int .u64 a] X fun e X' => e = .returned (.bool o.isSome) ∧ Mem X' n0 m (o.getD L) ∧ Below n0 X X' :=
  (mem_Remove X n0 _ m L a h.2.2 h.2.1 (by omega) ha0 ha1).mono fun e X' hp => by
    unfold RemPost at hp
    rw [hf] at hp
    cases o with
    | none => exact ⟨hp.1, h.below hp.2, hp.2.mono h.1⟩
    | some L' => exact ⟨hp.1, ⟨Nat.le_trans h.1 hp.2.2.size, hL L' rfl, hp.2.1⟩, hp.2.2.below h.1 (fun k hk => hk)⟩
theorem len_c (X : World) (n0 m : Nat) (L : List Reg) (h : Mem X n0 m L) : Calls Try.prog 13 #[.pointer (some ⟨m, 0, none⟩)] X fun e X' => e = .returned (.int .i64 L.length) ∧ X = X' := mem_Len X n0 _ m L h.2.2
theorem same_c (A0 : Option Addr) (c0 : Nat) (l0 : List Int) (A1 : Option Addr) (c1 : Nat) (l1 : List Int) (w : World) (hr0 : Kd.C (Kd.int .u8) w A0 l0.length l0) (hc0 : l0.length ≤ c0) (hr1 : Kd.C (Kd.int .u8) w A1 l1.length l1) (hc1 : l1.length ≤ c1) (hm : l0.length ≤ 1099511627776) (r : Bool) (hr : decide (l0 = l1) = r) :
    Calls Try.prog 17 #[.slice A0 l0.length c0, .slice A1 l1.length c1] w fun e w' => e = .returned (.bool r) ∧ ∃ k, w' = w.drewN k :=
  (slotcoderef01_Same.calls (l0.length + 1) A0 c0 l0 A1 c1 l1 r w hr0 hc0 hr1 hc1 (by rw [same_f l0 l1 hm _ (by omega), hr])).mono fun e w' h => by
    obtain ⟨rfl, ⟨nd, rfl⟩⟩ := h
    exact ⟨rfl, nd, rfl⟩
/-- A literal of bytes in a new block. -/
theorem lit_C (X : World) (bs : List Int) (cs : Array Value) (h : cs = (nums .u8 bs).toArray) (hl : bs.length ≤ maxLen) : Kd.C (Kd.int .u8) (X.alloc (.cells cs 5 (0, 0))) (some ⟨X.heap.size, 0, none⟩) bs.length bs := by
  subst h
  exact C_of_row (heap_alloc_new X _) hl
end Go.Proofs.Ytlolhmocimaobaa.PAll
