/- What the rows' condition on the listed variables gives. -/
import Derived.Test.YtdjljggdbflohaaDoorRows
import Derived.Test.YtdjljggdbflohaaDoorLexBase
import Derived.LaidMore
import Derived.Lay
import Derived.Stop.Joined
import Derived.Stop.LaidErr
import Derived.ProofKit
namespace Go.Proofs.YtdjljggdbflohaaDoor.PAll
open Go.ChangeShapes Go.WideShapes Go.ChangeAt Go.RowKit
abbrev laidAll : List (String × DataW Unit) := Rows.lexTokensRow.laid
set_option maxRecDepth 100000 in
theorem laidI_of {W : World} (h : laidMetH Tryd.prog laidAll W) : LaidI W := by
  rw [MakeChecks.laidMetH_plain _ _ _ (by kernel_rfl)] at h
  exact ⟨Lib.tabIs_of_head (g := 1) (t := 75) (e := 5) (n := 256) (k := .u8) (zs := Lib.propertiesTab) (by kernel_rfl) (by kernel_rfl) (by kernel_rfl) (by kernel_rfl) (by kernel_rfl) (by kernel_rfl) h⟩
/-- The heap in which the listed data are laid meets the condition. -/
theorem door_met (os : Os) (args : Array Value) : laidMetH Tryd.prog laidAll ((World.laidAll Tryd.prog os laidAll).forCall (fun _ _ => 0) ⟨#[], args, []⟩).memory := by
  rw [MakeChecks.laidMetH_plain _ _ _ (by kernel_rfl)]
  exact laidMet_laidAll _ (by kernel_rfl) (by kernel_rfl)
end Go.Proofs.YtdjljggdbflohaaDoor.PAll
