/- maps: the law MapsNil. -/
import Derived.Test.YtmkmldpcoonepaaGMapsB
set_option linter.unusedVariables false
set_option linter.unusedSimpArgs false
namespace Go.Proofs.Ytmkmldpcoonepaa.PAll
open Go.RowKit Go.Shelf Go.Maps Go.Proofs.YtmkmldpcoonepaaW.PrintWords Go.Proofs.YtmkmldpcoonepaaW.PrintLast Go.Proofs.YtmkmldpcoonepaaW.PrintMore
theorem handle_c (i : Int) (r : Int) (w : World) (h : maps_Handle.f i = some r) : Calls Try.prog 16 #[.int .i64 i] w fun e w' => e = .returned (.int .u64 r) ∧ ∃ k, w' = w.drewN k :=
  (maps_Handle.calls i r w h).mono fun e w' ⟨h1, h2⟩ => ⟨h1, by obtain ⟨k, hk⟩ := h2.out; exact ⟨k, hk⟩⟩
set_option maxHeartbeats 4000000 in
set_option maxRecDepth 100000 in
theorem mapsNil_c (X : World) (i : Int) (A1 A2 : Option Addr) (n1 c1 n2 c2 : Nat) : Calls Try.prog 6 #[.int .i64 i, .slice A1 n1 c1, .slice A2 n2 c2] X fun e X' => e = .returned (.bool true) ∧ Below X.heap.size X X' := by
  go_enter Try.func6, Try.ntmps6
  go_wp2_with fail
  refine (handle_c 0 2305843009213693952 X (by kernel_rfl)).mono ?_
  rintro e w1 ⟨rfl, k1, rfl⟩
  have HB1 : Aside0 (Below X.heap.size X (X.drewN k1)) := ⟨pw_below_drewN (Below.refl _ _) _⟩
  obtain ⟨w1, hw1⟩ : ∃ w1, X.drewN k1 = w1 := ⟨_, rfl⟩
  rw [hw1] at HB1 ⊢
  clear hw1
  go_wp2_with fail
  refine (index_nil w1 _).mono ?_
  rintro e w2 ⟨rfl, rfl⟩
  go_wp2_with fail
  refine (new_nil w1 none 0 0).mono ?_
  rintro e w2 ⟨rfl, rfl⟩
  go_wp2_with fail
  refine (alive_c w1).mono ?_
  rintro e w2 ⟨rfl, hb⟩
  have HB2 : Aside0 (Below X.heap.size X w2) := ⟨HB1.out.trans (hb.mono HB1.out.size)⟩
  clear hb
  go_wp2_with fail
  refine (def_nil w2 i).mono ?_
  rintro e w3 ⟨rfl, hb⟩
  have HB3 : Aside0 (Below X.heap.size X w3) := ⟨HB2.out.trans (hb.mono HB2.out.size)⟩
  clear hb
  unfold defV zeroDef
  go_wp2_with fail
  refine (lookup_nil w3 i A1 n1 c1).mono ?_
  rintro e w4 ⟨rfl, rfl⟩
  go_wp2_with fail
  refine (update_nil w3 i A1 A2 n1 c1 n2 c2).mono ?_
  rintro e w4 ⟨rfl, rfl⟩
  go_wp2_with fail
  refine (delete_nil w3 i A1 n1 c1).mono ?_
  rintro e w4 ⟨rfl, rfl⟩
  go_wp2_with fail
  refine (entries_nil w3 i).mono ?_
  rintro e w4 ⟨rfl, hb⟩
  have HB4 : Aside0 (Below X.heap.size X w4) := ⟨HB3.out.trans (hb.mono HB3.out.size)⟩
  clear hb
  go_wp2_with fail
  go_ret
  exact ⟨rfl, HB4.out⟩
end Go.Proofs.Ytmkmldpcoonepaa.PAll
