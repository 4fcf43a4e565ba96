/- BoxIsCanonical: bytes that are read are the bytes that writing what was read makes. -/
import Derived.Test.YtnpjfkleoijbiaaPAllx16
import Derived.Test.YtnpjfkleoijbiaaBoxRef3
namespace Go.Proofs.Ytnpjfkleoijbiaa.Pure
open Go.RowKit Go.Proofs.Ytnpjfkleoijbiaa.PAll Go.Proofs.YtnpjfkleoijbiaaW.PrintWords Go.Proofs.YtnpjfkleoijbiaaW.PrintLast

/-- What BoxIsCanonical says of the printed functions. -/
theorem BoxIsCanonical : slotcodelaw15_BoxIsCanonical.Pure := by
  intro l hm hs hb
  refine ⟨3000000, ?_⟩
  unfold slotcodelaw15_BoxIsCanonical.f
  have ha : slotcodelaw15_alive.f = some true := rfl
  by_cases c : (l.length : Int) > 5000
  · rw [if_pos c, ha]; rfl
  · rw [if_neg c]
    have hB : Bytes l := fun x hx => byte_wf x (hb x hx)
    have hr : box_Read.f l = some (readRes l) := by unfold box_Read.f; rw [if_pos ⟨by omega, hB⟩]
    have hsame := same_f l l (by omega) 3000000 (by omega)
    rw [decide_eq_true rfl] at hsame
    rw [hr]
    simp only [Option.bind_some]
    by_cases ok : readOk l
    · have e1 : readRes l = (outF l (cntF l), 0) := by unfold readRes; rw [if_pos ok]
      have h16 : cntF l ≤ 16 := by unfold cntF mn; omega
      have hsn := outF_sane l (cntF l) h16 (by omega)
      have hw : box_Write.f (outF l (cntF l)) = some (l, 0) := by unfold box_Write.f; rw [if_pos hsn, if_pos ok.2.1, ok.2.2]
      rw [e1, if_pos rfl, hw]
      simp only [Option.bind_some]
      rw [ha]
      simp only [Option.bind_some, if_true]
      rw [hsame]; rfl
    · have e1 : readRes l = ([], 19) := by unfold readRes; rw [if_neg ok]
      rw [e1, if_neg (by decide), ha]
      simp only [Option.bind_some, if_true]
      rfl
end Go.Proofs.Ytnpjfkleoijbiaa.Pure
