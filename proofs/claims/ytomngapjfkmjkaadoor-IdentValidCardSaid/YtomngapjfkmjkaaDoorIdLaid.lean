/- What the rows' condition on the listed variables gives. -/
import Derived.Test.YtomngapjfkmjkaaDoorRows
import Derived.Test.YtomngapjfkmjkaaDoorIdBase
import Derived.LaidMore
import Derived.Lay
import Derived.Stop.Joined
import Derived.Stop.LaidErr
import Derived.ProofKit
namespace Go.Proofs.YtomngapjfkmjkaaDoor.PAll
open Go.ChangeShapes Go.WideShapes Go.ChangeAt Go.RowKit
abbrev laidAll : List (String × DataW Unit) := Rows.identWordsRow.laid
theorem starErr : ("*" ++ "errors.errorString" : String) = "*errors.errorString" := by decide
theorem rowErr (u : TypeId) (h : Tryd.prog.typeName? 3 u = some "*errors.errorString") : u = 83 :=
  typeName_ptr_named (nm := "errors.errorString") (by rw [starErr]; kernel_rfl) (by kernel_rfl) (by decide) u (by rw [starErr]; exact h)
set_option maxRecDepth 100000 in
theorem laidI_of {W : World} (h : laidMetH Tryd.prog laidAll W) : LaidI W := by
  rw [MakeChecks.laidMetH_plain _ _ _ (by kernel_rfl)] at h
  have h2 := (laidMet.tail (laidMet.tail h))
  have h3 := laidMet.tail h2
  have h4 := laidMet.tail h3
  have h5 := laidMet.tail h4
  refine ⟨?_, ?_, ?_, ?_⟩
  · exact Lib.tabIs_of_head (g := 1) (t := 66) (e := 5) (n := 256) (k := .u8) (zs := Lib.propertiesTab) (by kernel_rfl) (by kernel_rfl) (by kernel_rfl) (by kernel_rfl) (by kernel_rfl) (by kernel_rfl) h5
  · exact Lib.tabIs_of_head (g := 5) (t := 88) (e := 45) (n := 20) (k := .u64) (zs := Lib.pow10Tab) (by kernel_rfl) (by kernel_rfl) (by kernel_rfl) (by kernel_rfl) (by kernel_rfl) (by kernel_rfl) h2
  · obtain ⟨a, s, hv, _⟩ := laid_sentinel h4 (g := 3) (by kernel_rfl) (by kernel_rfl) Tryd.underlying36 rowErr Tryd.underlying83 Tryd.underlying85 rfl rfl Tryd.underlying9 (by kernel_rfl) (by kernel_rfl)
    exact ⟨_, _, hv⟩
  · obtain ⟨a, s, hv, _⟩ := laid_sentinel h3 (g := 4) (by kernel_rfl) (by kernel_rfl) Tryd.underlying36 rowErr Tryd.underlying83 Tryd.underlying85 rfl rfl Tryd.underlying9 (by kernel_rfl) (by kernel_rfl)
    exact ⟨_, _, hv⟩
/-- The heap in which the listed data are laid meets the condition. -/
theorem door_met (os : Os) (args : Array Value) : laidMetH Tryd.prog laidAll ((World.laidAll Tryd.prog os laidAll).forCall (fun _ _ => 0) ⟨#[], args, []⟩).memory := by
  rw [MakeChecks.laidMetH_plain _ _ _ (by kernel_rfl)]
  exact laidMet_laidAll _ (by kernel_rfl) (by kernel_rfl)
end Go.Proofs.YtomngapjfkmjkaaDoor.PAll
