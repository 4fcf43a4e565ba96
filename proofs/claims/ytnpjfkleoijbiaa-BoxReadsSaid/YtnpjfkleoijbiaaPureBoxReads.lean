/- BoxReads: reading answers as the reference's reading does, and the bytes stay as they were. -/
import Derived.Test.YtnpjfkleoijbiaaPAllx15
import Derived.Test.YtnpjfkleoijbiaaBoxRef3
namespace Go.Proofs.Ytnpjfkleoijbiaa.Pure
open Go.RowKit Go.Proofs.Ytnpjfkleoijbiaa.PAll Go.Proofs.YtnpjfkleoijbiaaW.PrintWords Go.Proofs.YtnpjfkleoijbiaaW.PrintLast

/-- What BoxReads says of the printed functions. -/
theorem BoxReads : slotcodelaw15_BoxReads.Pure := by
  intro l hm hs hb
  refine ⟨3000000, ?_⟩
  unfold slotcodelaw15_BoxReads.f
  have ha : slotcodelaw15_alive.f = some true := rfl
  by_cases c : (l.length : Int) > 5000
  · rw [if_pos c, ha]; rfl
  · rw [if_neg c]
    have hB : Bytes l := fun x hx => byte_wf x (hb x hx)
    have hc : slices_Clone_byte_byte.f l = some l := by unfold slices_Clone_byte_byte.f; rw [if_pos (by omega)]
    have hr : box_Read.f l = some (readRes l) := by unfold box_Read.f; rw [if_pos ⟨by omega, hB⟩]
    have hsame := same_f l l (by omega) 3000000 (by omega)
    rw [decide_eq_true rfl] at hsame
    rw [hc]
    simp only [Option.bind_some]
    rw [hr, rread_f l hB (by omega) _ (by omega)]
    simp only [Option.bind_some]
    by_cases ok : readOk l
    · have e1 : readRes l = (outF l (cntF l), 0) := by unfold readRes; rw [if_pos ok]
      have h16 : cntF l ≤ 16 := by unfold cntF mn; omega
      have hsn := outF_sane l (cntF l) h16 (by omega)
      have hbk := back_f (outF l (cntF l)) (by rw [outF_length]; omega) 3000000 (by rw [outF_length]; omega)
      have hsm : slotcoderef15_Same.f 3000000 ((outF l (cntF l)).map c46) ((outF l (cntF l)).map c46) = some true := by
        have := same15_f ((outF l (cntF l)).map c46) ((outF l (cntF l)).map c46) (by rw [List.length_map, outF_length]; omega) (fun s hs => by obtain ⟨t, ht, rfl⟩ := List.mem_map.1 hs; exact hsn.2 t ht) 1048577
          (fun s hs => by
            obtain ⟨t, ht, rfl⟩ := List.mem_map.1 hs
            obtain ⟨j, _, rfl⟩ := List.mem_map.1 ht
            have := partL_len l (numL l (16 + 12 * j + 4) 4).toNat (numL l (16 + 12 * j + 8) 4).toNat
            show (partL _ _ _).length < _
            omega) 3000000 (by rw [List.length_map, outF_length]; omega)
        rwa [decide_eq_true rfl] at this
      rw [if_pos ok, e1, ha]
      simp only [Option.bind_some, if_true]
      rw [hbk]
      simp only [Option.bind_some]
      rw [hsm]
      simp only [Option.bind_some, if_true]
      rw [hsame]; rfl
    · have e1 : readRes l = ([], 19) := by unfold readRes; rw [if_neg ok]
      rw [if_neg ok, e1, ha]
      simp only [Option.bind_some, if_true]
      rw [if_neg (by decide), if_pos (by decide), hsame]; rfl
end Go.Proofs.Ytnpjfkleoijbiaa.Pure
