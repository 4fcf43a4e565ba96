/- LexShapes: what the printed functions answer. -/
import Derived.Test.YtdjljggdbflohaaDoorLexRef2
import Derived.Test.YtdjljggdbflohaaDoorPAllx16
set_option linter.unusedVariables false
namespace Go.Proofs.YtdjljggdbflohaaDoor.Pure
open Go.RowKit Go.Proofs.YtdjljggdbflohaaDoor.PAll Go.Proofs.YtdjljggdbflohaaDoorW.PrintWords Go.Proofs.YtdjljggdbflohaaDoorW.PrintLast
theorem iw_mod (a : Int) (n : Nat) (h0 : 0 ≤ a) (hn : 0 < n) : Int.tmod a n = ((a.toNat % n : Nat) : Int) := by
  obtain ⟨m, rfl⟩ : ∃ m : Nat, a = m := ⟨a.toNat, by omega⟩
  rw [Int.toNat_natCast]
  exact (Int.ofNat_tmod m n).symm
theorem mem_cut {α : Type} {l : List α} {a b : Nat} {x : α} (h : x ∈ (l.take b).drop a) : x ∈ l := List.mem_of_mem_take (List.mem_of_mem_drop h)
/-- LexShapes: Shape and Words answer the results of the reference, for every part of the tokens. -/
theorem LexShapes : slotcodelaw08_LexShapes.Pure := by
  intro s a1 a2 hs h1 h2
  have h1b : 0 ≤ a1 ∧ a1 < 256 := by simp [Lit.wf, IntKind.min, IntKind.max, IntKind.signed, IntKind.bits] at h1; omega
  have h2b : 0 ≤ a2 ∧ a2 < 256 := by simp [Lit.wf, IntKind.min, IntKind.max, IntKind.signed, IntKind.bits] at h2; omega
  obtain ⟨K, hbig⟩ : ∃ K, 5 * s.size + 100 ≤ K := ⟨_, Nat.le_refl _⟩
  refine ⟨K + 9, ?_⟩
  unfold slotcodelaw08_LexShapes.f
  by_cases hb : (s.size : Int) > 3000
  · rw [if_pos hb, alive_true]; rfl
  · rw [if_neg hb, tokens_f s (by omega) (s.size + 1) (by omega), Option.bind_some, rtokens_f s (by omega) (s.size + 1) (K + 9) (by omega) (by omega), Option.bind_some, alive_true]
    have hlen := (tk_size (s.size + 1) s.data.toList 0).2
    have hsz := (tk_size (s.size + 1) s.data.toList 0).1
    have hok := tk_ok (s.size + 1) s.data.toList 0
    rw [data_length] at hlen hsz
    cases h : tk (s.size + 1) s.data.toList 0 with
    | mk ts o =>
      rw [h] at hlen hsz hok
      dsimp only at hlen hsz hok
      cases o with
      | some i =>
        rw [show tkR (ts, some i) = ([], (i : Int), 2) from rfl, show rkR [] (ts, some i) = ([], (i : Int)) from rfl]
        dsimp only
        rw [if_pos (show (i : Int) ≥ 0 by omega), Option.bind_some, if_pos rfl]
        rfl
      | none =>
        rw [show tkR (ts, none) = (ts, 0, 0) from rfl, show rkR [] (ts, none) = (ts.map to32, -1) from rfl]
        dsimp only
        rw [if_neg (by decide), if_pos (by rw [List.length_map])]
        have w1 := Aside0.mk (show wrap64 a1 = a1 from iw64 _ (by omega) (by omega))
        have w2 := Aside0.mk (show wrap64 a2 = a2 from iw64 _ (by omega) (by omega))
        have w3 := Aside0.mk (show wrap64 ((ts.length : Int) + 1) = ((ts.length + 1 : Nat) : Int) from by rw [iw64 _ (by omega) (by omega)]; omega)
        obtain ⟨i, hi⟩ : ∃ i, a1.toNat % (ts.length + 1) = i := ⟨_, rfl⟩
        have hile : i ≤ ts.length := by have := Nat.mod_lt a1.toNat (show 0 < ts.length + 1 by omega); omega
        have w4 := Aside0.mk (show Int.tmod a1 ((ts.length + 1 : Nat) : Int) = (i : Int) from by rw [iw_mod _ _ h1b.1 (by omega), hi])
        have w5 := Aside0.mk (show wrap64 (wrap64 ((ts.length : Int) - (i : Int)) + 1) = ((ts.length - i + 1 : Nat) : Int) from by rw [iw64 (_ - _) (by omega) (by omega), iw64 _ (by omega) (by omega)]; omega)
        obtain ⟨j, hj⟩ : ∃ j, a2.toNat % (ts.length - i + 1) = j := ⟨_, rfl⟩
        have hjle : j ≤ ts.length - i := by have := Nat.mod_lt a2.toNat (show 0 < ts.length - i + 1 by omega); omega
        have w6 := Aside0.mk (show Int.tmod a2 ((ts.length - i + 1 : Nat) : Int) = (j : Int) from by rw [iw_mod _ _ h2b.1 (by omega), hj])
        have w7 := Aside0.mk (show wrap64 ((i : Int) + (j : Int)) = ((i + j : Nat) : Int) from by rw [iw64 _ (by omega) (by omega)]; omega)
        rw [w1.out, w2.out, w3.out, w4.out, w5.out, w6.out, w7.out]
        clear w1 w2 w3 w4 w5 w6 w7
        have hl : ((ts.take (i + j)).drop i).length ≤ 1000000 := by rw [List.length_drop, List.length_take]; omega
        have hl' : ((ts.take (i + j)).drop i).length < K := by rw [List.length_drop, List.length_take]; omega
        have ho : ∀ t ∈ (ts.take (i + j)).drop i, tokOk t := fun t ht => hok t (mem_cut ht)
        have hz : ∀ t ∈ (ts.take (i + j)).drop i, t.f0.size ≤ 140737488355328 := fun t ht => by have := hsz t (mem_cut ht); omega
        have em : ((ts.map to32).take (i + j)).drop i = ((ts.take (i + j)).drop i).map to32 := by rw [List.map_drop, List.map_take]
        rw [if_neg (by omega), if_neg (by omega), Option.bind_some, if_pos rfl, if_pos (by omega), if_pos (by omega), if_pos (by omega), Int.toNat_natCast, Int.toNat_natCast, shape_f _ hl ho hz, Option.bind_some, if_pos (by rw [List.length_map]; omega), em,
          rshape_f _ hl ho (K + 9) (by omega), Option.bind_some, if_pos rfl, words_f _ hl hz (K + 9) (by omega), Option.bind_some, rwords_f _ hl ho (K + 9) (by omega), Option.bind_some, eqself_f _ ?_ (K + 9) ?_]
        · rfl
        · unfold wordsL; rw [List.length_map]; have := List.length_filter_le isW ((ts.take (i + j)).drop i); omega
        · unfold wordsL; rw [List.length_map]; have := List.length_filter_le isW ((ts.take (i + j)).drop i); omega
end Go.Proofs.YtdjljggdbflohaaDoor.Pure
