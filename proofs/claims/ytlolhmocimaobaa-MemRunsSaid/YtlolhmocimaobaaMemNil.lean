/- mem: the nil memory. -/
import Derived.Test.YtlolhmocimaobaaMemRem
set_option linter.unusedVariables false
set_option linter.unusedSimpArgs false
namespace Go.Proofs.Ytlolhmocimaobaa.PAll
open Go.RowKit Go.Shelf Go.Proofs.YtlolhmocimaobaaW.PrintWords Go.Proofs.YtlolhmocimaobaaW.PrintLast Go.Proofs.YtlolhmocimaobaaW.PrintMore
attribute [local go_sem] Oper.semAt_some
set_option maxHeartbeats 1000000 in
theorem put_nil (X : World) (a : Int) (A0 : Option Addr) (n c0 : Nat) (hn : n ≤ 9223372036854775807) : Calls Try.prog 20 #[.pointer none, .int .u64 a, .slice A0 n c0] X fun e X' => e = .returned (.bool false) ∧ X = X' := by
  have heq := fun (W : World) (b : Option Addr) (n c : Nat) => neq_nil (P := Try.prog) W 32 5 b n c Try.underlying32
  have HA := Aside0.mk (part_nil X a n)
  go_enter Try.func20, Try.ntmps20
  go_wp2_with fail
  refine HA.out.mono ?_
  rintro e X' ⟨rfl, rfl⟩
  go_wp2_with (with_reducible refine wpList_copy_nothing rfl (.tmp 13) (.tmp 14) 32 32 rfl 5 Try.underlying32 (by kernel_rfl) none A0 0 0 n c0 rfl rfl (Nat.min_eq_right (Nat.zero_le _)) ?_)
  go_ret
  exact ⟨rfl, rfl⟩
set_option maxHeartbeats 1000000 in
theorem bytes_nil (X : World) (a n : Int) : Calls Try.prog 16 #[.pointer none, .int .u64 a, .int .i64 n] X fun e X' => (∃ v, e = .returned (.tuple #[v, .bool false]) ∧ Kd.R (Kd.int .u8) 5 X' X.heap.size (fun _ => True) v []) ∧ Below X.heap.size X X' := by
  have heq := fun (W : World) (b : Option Addr) (n c : Nat) => neq_nil (P := Try.prog) W 32 5 b n c Try.underlying32
  have HA := Aside0.mk (part_nil X a n)
  have HC := Aside0.mk (slices_Clone_byte_byte.calls none 0 [] [] X ⟨rfl, by show 0 ≤ _; omega, fun h => absurd h (by simp)⟩ (Nat.le_refl _) rfl)
  go_enter Try.func16, Try.ntmps16
  go_wp2_with fail
  refine HA.out.mono ?_
  rintro e X' ⟨rfl, rfl⟩
  go_wp2_with fail
  refine HC.out.mono ?_
  rintro e X'' ⟨v', rfl, hr, hb⟩
  have HR := Aside0.mk hr
  have HB := Aside0.mk hb
  clear hr hb
  go_wp2_with fail
  go_ret2
  exact ⟨⟨_, rfl, HR.out⟩, HB.out⟩
set_option maxHeartbeats 1000000 in
theorem read_nil (X : World) (a n : Int) : Calls Try.prog 18 #[.pointer none, .int .u64 a, .int .i64 n] X fun e X' => e = .returned (.tuple #[.int .u64 0, .bool false]) ∧ X = X' := by
  have heq := fun (W : World) (b : Option Addr) (n c : Nat) => Lib.run_eql_slice_nil (P := Try.prog) W 32 5 b n c 0 0 Try.underlying32
  have HA := Aside0.mk (part_nil X a n)
  go_enter Try.func18, Try.ntmps18
  go_wp2_with fail
  refine HA.out.mono ?_
  rintro e X' ⟨rfl, rfl⟩
  go_wp2_with fail
  go_ret2
  exact ⟨rfl, rfl⟩
set_option maxHeartbeats 1000000 in
theorem add_nil (X : World) (a : Int) (v : Value) : Calls Try.prog 14 #[.pointer none, .int .u64 a, v] X fun e X' => e = .returned (.bool false) ∧ X = X' := by
  go_enter Try.func14, Try.ntmps14
  go_wp2
  go_ret
  exact ⟨rfl, rfl⟩
set_option maxHeartbeats 1000000 in
theorem remove_nil (X : World) (a : Int) : Calls Try.prog 19 #[.pointer none, .int .u64 a] X fun e X' => e = .returned (.bool false) ∧ X = X' := by
  go_enter Try.func19, Try.ntmps19
  go_wp2
  go_ret
  exact ⟨rfl, rfl⟩
set_option maxHeartbeats 4000000 in
set_option maxRecDepth 100000 in
theorem write_nil (X : World) (a n x : Int) (hx0 : 0 ≤ x) (hx1 : x < 18446744073709551616) :
    Calls Try.prog 15 #[.pointer none, .int .u64 a, .int .i64 n, .int .u64 x] X fun e X' => e = .returned (.bool false) ∧ Below X.heap.size X X' := by
  have HN := Aside0.mk (fun W => mem_number.calls n _ W (number_f n))
  by_cases hn : numB n = true
  · rw [hn] at HN
    have hn2 : n = 1 ∨ n = 2 ∨ n = 4 ∨ n = 8 := of_decide_eq_true hn
    obtain ⟨nn, rfl⟩ : ∃ nn : Nat, n = nn := ⟨n.toNat, by omega⟩
    have hnn0 : 1 ≤ nn := by omega
    have hnn : nn ≤ 8 := by omega
    have HP : Aside0 (∀ W : World, Calls Try.prog 20 #[.pointer none, .int .u64 a, .slice (some ⟨X.heap.size, 0, none⟩) (le nn x).length nn] W fun e X' => e = .returned (.bool false) ∧ W = X') := ⟨fun W => put_nil W a _ _ nn (by rw [le_length]; omega)⟩
    rw [le_length] at HP
    have hmk := print_make (P := Try.prog) 32 5 .u8 1 Try.underlying32 infoU8 (by decide) nn (by omega)
    clear hn hn2
    go_enter Try.func15, Try.ntmps15
    go_wp2_with (go_at_call 32; refine (HN.out _).mono ?_; rintro e X' ⟨rfl, ⟨nd, rfl⟩⟩)
    have HX : Aside0 (X.heap.size = (X.drewN nd).heap.size) := ⟨rfl⟩
    go_loopw [10, 18] (fun v10 v18 wr => ∃ k : Nat, k ≤ nn ∧ v18 = .int .i64 k ∧ Aside0 (wr.heap[X.heap.size]? = some (.cells (leRow nn k x).toArray 5 (0, 0))) ∧ Aside0 (Below X.heap.size X wr)) (fun _ v18 _ => nn - (intOf v18).toNat)
    case atStart =>
      refine ⟨0, Nat.zero_le _, rfl, ⟨?_⟩, ⟨below_alloc (pw_below_drewN (Below.refl _ _) _) _⟩⟩
      rw [show X.heap.size = (X.drewN nd).heap.size from rfl, heap_alloc_new]
      congr 2
      unfold leRow
      rw [show le 0 x = [] from rfl]
      have := toList_madeCells_one (.int .u8 0) nn
      rw [← Array.toList_inj, this]
      simp [nums]
    case round =>
      obtain ⟨k, hk, rfl, HR, HB⟩ := hrel
      by_cases hlt : k < nn
      · obtain ⟨u, hcell⟩ := row_cell' HR.out k (by rw [leRow_length _ _ _ hk]; exact hlt)
        have hfro := row_free HR.out k
        go_wp2
        refine ⟨⟨k + 1, by omega, by congr 1, ⟨?_⟩, ⟨HB.out.setCell (p := ⟨X.heap.size, k, none⟩) (Nat.le_refl _) _⟩⟩, by simp [intOf]; omega⟩
        rw [← leRow_set nn k x hlt]
        exact row_set HR.out k _
      · obtain rfl : k = nn := by omega
        go_wp2_with fail
        refine (HP.out wr).mono ?_
        rintro e w2 ⟨rfl, rfl⟩
        go_wp2_with fail
        go_ret
        exact ⟨rfl, HB.out⟩
  · have hn' : numB n = false := by simpa using hn
    rw [hn'] at HN
    clear hn hn'
    go_enter Try.func15, Try.ntmps15
    go_wp2_with (go_at_call 32; refine (HN.out _).mono ?_; rintro e X' ⟨rfl, ⟨nd, rfl⟩⟩)
    go_ret
    exact ⟨rfl, pw_below_drewN (Below.refl _ _) _⟩
end Go.Proofs.Ytlolhmocimaobaa.PAll
