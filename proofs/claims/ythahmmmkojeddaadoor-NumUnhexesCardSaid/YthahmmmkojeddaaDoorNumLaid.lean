/- What the rows' condition on the listed variables gives: the widths and the powers of ten lie as listed. -/
import Derived.Test.YthahmmmkojeddaaDoorRows
import Derived.Test.YthahmmmkojeddaaDoorNumBase
import Derived.LaidMore
import Derived.Stop.Joined
import Derived.Stop.LaidErr
import Derived.ProofKit
namespace Go.Proofs.YthahmmmkojeddaaDoor.PAll
open Go.ChangeShapes Go.WideShapes Go.ChangeAt Go.RowKit
abbrev laidAll : List (String × DataW Unit) := Rows.numFitsRow.laid
theorem laid4_of {W : World} (h : laidMetH Tryd.prog laidAll W) : Laid4 W := by
  rw [MakeChecks.laidMetH_plain _ _ _ (by kernel_rfl)] at h
  have h2 := (laidMet.tail (laidMet.tail h))
  have h3 := laidMet.tail h2
  refine ⟨?_, ?_⟩
  · exact Lib.tabIs_of_head (g := 0) (t := 65) (e := 3) (n := 4) (k := .i64) (zs := widthsTab) (by kernel_rfl) (by kernel_rfl) (by kernel_rfl) (by kernel_rfl) (by kernel_rfl) (by kernel_rfl) h3
  · exact Lib.tabIs_of_head (g := 2) (t := 82) (e := 31) (n := 20) (k := .u64) (zs := Lib.pow10Tab) (by kernel_rfl) (by kernel_rfl) (by kernel_rfl) (by kernel_rfl) (by kernel_rfl) (by kernel_rfl) h2
/-- The heap that the door's own run leaves meets the condition. -/
theorem door_met (os : Os) (args : Array Value) : laidMetH Tryd.prog laidAll ((World.doorLaid Tryd.prog 29 os).forCall (fun _ _ => 0) ⟨#[], args, []⟩).memory :=
  laidMetH_of_parts3 (fuel := 8) (laidMet_of_run' 8 (by kernel_rfl) (by kernel_rfl)) (by kernel_rfl) (by kernel_rfl)
end Go.Proofs.YthahmmmkojeddaaDoor.PAll
