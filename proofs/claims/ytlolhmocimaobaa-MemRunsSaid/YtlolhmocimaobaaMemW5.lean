/- mem: Len, Write. -/
import Derived.Test.YtlolhmocimaobaaMemW4
import Derived.Laws.MakeOwn
set_option linter.unusedVariables false
set_option linter.unusedSimpArgs false
namespace Go.Proofs.Ytlolhmocimaobaa.PAll
open Go.RowKit Go.Proofs.YtlolhmocimaobaaW.PrintWords Go.Proofs.YtlolhmocimaobaaW.PrintLast Go.Proofs.YtlolhmocimaobaaW.PrintMore
theorem mem_Len (X : World) (B : Nat) (own : Nat → Prop) (m : Nat) (L : List Reg) (h : MemAt X B own m L) : Calls Try.prog 13 #[.pointer (some ⟨m, 0, none⟩)] X fun e X' => e = .returned (.int .i64 L.length) ∧ X = X' := by
  obtain ⟨v, ps, h⟩ := h
  have hm0 := (blk2 h.blk).1
  obtain ⟨A0, c0, rfl⟩ : ∃ A0 c0, v = .slice A0 L.length c0 := own_slice h.row
  clear h
  go_enter Try.func13, Try.ntmps13
  go_wp2
  go_ret
  exact ⟨rfl, rfl⟩
theorem len_nil (X : World) : Calls Try.prog 13 #[.pointer none] X fun e X' => e = .returned (.int .i64 0) ∧ X = X' := by
  go_enter Try.func13, Try.ntmps13
  go_wp2
  go_ret
  exact ⟨rfl, rfl⟩
def numB (n : Int) : Bool := decide (n = 1 ∨ n = 2 ∨ n = 4 ∨ n = 8)
theorem number_f (n : Int) : mem_number.f n = some (numB n) := by
  unfold mem_number.f numB
  by_cases h1 : n = 1
  · rw [if_pos h1, decide_eq_true (.inl h1)]
  · rw [if_neg h1]
    by_cases h2 : n = 2
    · rw [if_pos h2, decide_eq_true (.inr (.inl h2))]
    · rw [if_neg h2]
      by_cases h4 : n = 4
      · rw [if_pos h4, decide_eq_true (.inr (.inr (.inl h4)))]
      · rw [if_neg h4]
        by_cases h8 : n = 8
        · rw [h8]; rfl
        · rw [decide_eq_false (by omega), beq_eq_false_iff_ne.mpr h8]
def byteAt (x : Int) (i : Nat) : Int := x / 2 ^ (8 * i) % 256
def le (n : Nat) (x : Int) : List Int := (List.range n).map (byteAt x)
theorem le_length (n : Nat) (x : Int) : (le n x).length = n := by simp [le]
theorem le_succ (n : Nat) (x : Int) : le (n + 1) x = le n x ++ [byteAt x n] := by simp [le, List.range_succ]
/-- The row behind some rounds. -/
def leRow (n k : Nat) (x : Int) : List Value := nums .u8 (le k x) ++ List.replicate (n - k) (.int .u8 0)
theorem leRow_set (n k : Nat) (x : Int) (hk : k < n) : (leRow n k x).set k (.int .u8 (byteAt x k)) = leRow n (k + 1) x := by
  unfold leRow
  have hl : (nums .u8 (le k x)).length = k := by rw [nums_length, le_length]
  rw [List.set_append, if_neg (by omega), hl, Nat.sub_self]
  obtain ⟨m, hm⟩ : ∃ m, n - k = m + 1 := ⟨n - k - 1, by omega⟩
  rw [hm, show n - (k + 1) = m by omega, List.replicate_succ, List.set_cons_zero, le_succ]
  simp [nums]
theorem leRow_length (n k : Nat) (x : Int) (hk : k ≤ n) : (leRow n k x).length = n := by
  unfold leRow
  rw [List.length_append, nums_length, le_length, List.length_replicate]; omega
theorem row_cell' {wr : World} {g : Nat} {L : List Value} {t : TypeId} (h : wr.heap[g]? = some (.cells L.toArray t (0, 0))) (i : Nat) (hi : i < L.length) : ∃ u, wr.cell? ⟨g, i, none⟩ = some u := by
  rw [cell_of_row wr g i _ t (0, 0) h]; simp [hi]
theorem row_free {wr : World} {g : Nat} {L : List Value} {t : TypeId} (h : wr.heap[g]? = some (.cells L.toArray t (0, 0))) (i : Nat) : wr.frozen? ⟨g, i, none⟩ = false := by
  simp [World.frozen?, h]
theorem row_set {wr : World} {g : Nat} {L : List Value} {t : TypeId} (h : wr.heap[g]? = some (.cells L.toArray t (0, 0))) (i : Nat) (v : Value) : (wr.setCell ⟨g, i, none⟩ v).heap[g]? = some (.cells (L.set i v).toArray t (0, 0)) := by
  have := blk_set h i v
  simpa using this
/-- A row that is known whole reads as bytes. -/
theorem C_of_row {X : World} {g : Nat} {xs : List Int} (h : X.heap[g]? = some (.cells (nums .u8 xs).toArray 5 (0, 0))) (hl : xs.length ≤ maxLen) : Kd.C (Kd.int .u8) X (some ⟨g, 0, none⟩) xs.length xs := by
  have hr : X.ownsRow g 5 1 (.slice (some ⟨g, 0, none⟩) xs.length xs.length) xs.length (nums .u8 xs) :=
    ⟨by rw [nums_length]; omega, .inr ⟨g, xs.length, _, rfl, Nat.le_refl _, h, Nat.le_refl _, hl, by simp [nums_length], by rw [Nat.mul_one, ← nums_length .u8 xs]; exact List.take_length⟩⟩
  obtain ⟨A, c, he, _, _, hC⟩ := row_C hr
  cases he
  exact hC
def writeF (L : List Reg) (a n x : Int) : Option (List Reg) := if numB n then putF L a (le n.toNat x) else none
def WritePost (X : World) (B : Nat) (own : Nat → Prop) (m : Nat) (L : List Reg) (a n x : Int) (e : Ending) (X' : World) : Prop :=
  match writeF L a n x with
  | none => e = .returned (.bool false) ∧ Below X.heap.size X X'
  | some L' => e = .returned (.bool true) ∧ MemAt X' B own m L' ∧ Out own X X'
set_option maxHeartbeats 4000000 in
set_option maxRecDepth 100000 in
theorem mem_Write (X : World) (B : Nat) (own : Nat → Prop) (m : Nat) (L : List Reg) (a n x : Int) (h : MemAt X B own m L) (hI : Inv L) (hl : L.length ≤ 1000000) (ha0 : 0 ≤ a) (ha1 : a < 18446744073709551616) (hx0 : 0 ≤ x) (hx1 : x < 18446744073709551616) :
    Calls Try.prog 15 #[.pointer (some ⟨m, 0, none⟩), .int .u64 a, .int .i64 n, .int .u64 x] X (WritePost X B own m L a n x) := by
  have HN := Aside0.mk (fun W => mem_number.calls n _ W (number_f n))
  by_cases hn : numB n = true
  · rw [hn] at HN
    have hn2 : n = 1 ∨ n = 2 ∨ n = 4 ∨ n = 8 := of_decide_eq_true hn
    obtain ⟨nn, rfl⟩ : ∃ nn : Nat, n = nn := ⟨n.toNat, by omega⟩
    have hnn0 : 1 ≤ nn := by omega
    have hnn : nn ≤ 8 := by omega
    have HW : Aside0 (writeF L a nn x = putF L a (le nn x)) := ⟨by unfold writeF; rw [if_pos hn, Int.toNat_natCast]⟩
    have HM := Aside0.mk h
    have HP : Aside0 (∀ W : World, MemAt W B own m L → Kd.C (Kd.int .u8) W (some ⟨X.heap.size, 0, none⟩) (le nn x).length (le nn x) → Calls Try.prog 20 #[.pointer (some ⟨m, 0, none⟩), .int .u64 a, .slice (some ⟨X.heap.size, 0, none⟩) (le nn x).length nn] W (PutPost W B own m L a (le nn x))) :=
      ⟨fun W hW hC => mem_Put W B own m L a _ nn (le nn x) hW hI hl ha0 ha1 hC (by rw [le_length]; omega)⟩
    rw [le_length] at HP
    have hmk := print_make (P := Try.prog) 32 5 .u8 1 Try.underlying32 infoU8 (by decide) nn (by omega)
    clear h hI hn hn2 ha0 ha1
    go_enter Try.func15, Try.ntmps15
    go_wp2_with (go_at_call 32; refine (HN.out _).mono ?_; rintro e X' ⟨rfl, ⟨nd, rfl⟩⟩)
    have HX : Aside0 (X.heap.size = (X.drewN nd).heap.size) := ⟨rfl⟩
    go_loopw [10, 18] (fun v10 v18 wr => ∃ k : Nat, k ≤ nn ∧ v18 = .int .i64 k ∧ Aside0 (wr.heap[X.heap.size]? = some (.cells (leRow nn k x).toArray 5 (0, 0))) ∧ Aside0 (Below X.heap.size X wr)) (fun _ v18 _ => nn - (intOf v18).toNat)
    case atStart =>
      refine ⟨0, Nat.zero_le _, rfl, ⟨?_⟩, ⟨below_alloc (pw_below_drewN (Below.refl _ _) _) _⟩⟩
      rw [show X.heap.size = (X.drewN nd).heap.size from rfl, heap_alloc_new]
      congr 2
      unfold leRow
      rw [show le 0 x = [] from rfl]
      have := toList_madeCells_one (.int .u8 0) nn
      rw [← Array.toList_inj, this]
      simp [nums]
    case round =>
      obtain ⟨k, hk, rfl, HR, HB⟩ := hrel
      by_cases hlt : k < nn
      · obtain ⟨u, hcell⟩ := row_cell' HR.out k (by rw [leRow_length _ _ _ hk]; exact hlt)
        have hfro := row_free HR.out k
        go_wp2
        refine ⟨⟨k + 1, by omega, by congr 1, ⟨?_⟩, ⟨HB.out.setCell (p := ⟨X.heap.size, k, none⟩) (Nat.le_refl _) _⟩⟩, by simp [intOf]; omega⟩
        rw [← leRow_set nn k x hlt]
        exact row_set HR.out k _
      · obtain rfl : k = nn := by omega
        go_wp2_with fail
        have hrow : wr.heap[X.heap.size]? = some (.cells (nums .u8 (le k x)).toArray 5 (0, 0)) := by
          have := HR.out
          unfold leRow at this
          rw [Nat.sub_self, List.replicate_zero, List.append_nil] at this
          exact this
        have hC := C_of_row hrow (by rw [le_length]; unfold maxLen; omega)
        rw [le_length] at hC
        refine (HP.out wr (HM.out.below HB.out) hC).mono ?_
        intro e w2 hp
        have HQ : Aside0 (WritePost X B own m L a k x e w2) := by
          refine ⟨?_⟩
          unfold WritePost
          rw [HW.out]
          unfold PutPost at hp
          cases hf : putF L a (le k x) with
          | none => rw [hf] at hp; exact ⟨hp.1, below_then HB.out HB.out.size hp.2⟩
          | some L' => rw [hf] at hp; exact ⟨hp.1, hp.2.1, (below_out HB.out own).trans hp.2.2 (fun _ _ h => h)⟩
        obtain ⟨b, rfl⟩ : ∃ b, e = .returned (.bool b) := by
          unfold PutPost at hp
          cases hf : putF L a (le k x) with
          | none => rw [hf] at hp; exact ⟨_, hp.1⟩
          | some L' => rw [hf] at hp; exact ⟨_, hp.1⟩
        clear hp hrow hC
        go_wp2_with fail
        go_ret
        exact HQ.out
  · have hn' : numB n = false := by simpa using hn
    rw [hn'] at HN
    have HW : Aside0 (writeF L a n x = none) := ⟨by unfold writeF; rw [if_neg hn]⟩
    clear hn hn' h hI ha0 ha1
    go_enter Try.func15, Try.ntmps15
    go_wp2_with (go_at_call 32; refine (HN.out _).mono ?_; rintro e X' ⟨rfl, ⟨nd, rfl⟩⟩)
    go_ret
    unfold WritePost
    rw [HW.out]
    exact ⟨rfl, pw_below_drewN (Below.refl _ _) _⟩
end Go.Proofs.Ytlolhmocimaobaa.PAll
