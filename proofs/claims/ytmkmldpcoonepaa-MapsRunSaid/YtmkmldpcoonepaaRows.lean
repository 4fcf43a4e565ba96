/-
  No cell of these rows narrows 'for every input' (looked for: loops, veiled, ifaces, maps, wideKeys, modest, calm, conditions, laid).
  DERIVED. THE GIVEN ROWS OF THIS SEAT. 6 by the template 'for every input the law returns true; each argument reads behind the call as it read before'; 0 by the template 'total and deterministic' (their statements: YtmkmldpcoonepaaTotals.lean).
  GIVEN WITH THE SEED: the statements are not yours to turn. If you find one false, say at which input.
  Laid BY PROGRAM, IN A SANDBOX (cutbox-rows.mjs): the forced cells as the released guide's own fill.sh prints them over the translation e852fcfd53d30bc1… (all of the seat's roots in one cut). By AI agents, Wed Nov 11 2026. No macro, syntax, notation, axiom, sorry.
-/
import Derived.Test.YtmkmldpcoonepaaChecked
import GoSem.Claim
import GoSem.ClaimJoined
import GoSem.ClaimMapViews
import Derived.JoinedTies
import Derived.KernelRfl
namespace Go.Proofs.Ytmkmldpcoonepaa
/- THE CELL 'sum', in the pinned program and in every row, IS THE sha256 OF THE DUMP (.gsa) THAT YtmkmldpcoonepaaProg.lean LOADS. Nothing in Lean hashes anything: it is a label: what it is worth is what the hold of that sum in a sandbox is worth. -/
noncomputable def Try.pinned : Pinned := { name := "ytmkmldpcoonepaa", sum := "e852fcfd53d30bc1dfd7124ad33f4dfd9677af87c0390d1a0e6364d187fa620c", checked := Try.checked }
namespace Rows
def none {H : Type} : Left H := { results := [], args := [] }

/-- 'slotcodelaw21.MapsHandles': WHATEVER THE INPUT: true; the input reads as it did. -/
def mapsHandlesSpec : ChangeSpec := { name := "mapsHandles", fn := fun _ => fun
  | [d1, d2, d3] => { results := [.lit (.bool true)], args := [d1, d2, d3] }
  | _ => none }
def mapsHandlesRow : OpenClaim := { program := "ytmkmldpcoonepaa", sum := "e852fcfd53d30bc1dfd7124ad33f4dfd9677af87c0390d1a0e6364d187fa620c", func := "slotcode/slotcodelaw21.MapsHandles", spec := "mapsHandles", inPlace := ["slices.overlaps[*slotcode/mem.region]"], unfollowed := true, recurses := true, apart := false }
def MapsHandlesSaid : Prop := mapsHandlesRow.holds Try.pinned (OpenSpec.ofChange mapsHandlesSpec)

/-- ITS FALSE NEIGHBOUR: 'it returns false'. Refute it at one input. -/
def mapsHandlesWrong : ChangeSpec := { name := "mapsHandles", fn := fun _ => fun
  | [d1, d2, d3] => { results := [.lit (.bool false)], args := [d1, d2, d3] }
  | _ => none }
def MapsHandlesWrongFalsely : Prop := mapsHandlesRow.holds Try.pinned (OpenSpec.ofChange mapsHandlesWrong)

/-- 'slotcodelaw21.MapsKeep': WHATEVER THE INPUT: true; the input reads as it did. -/
def mapsKeepSpec : ChangeSpec := { name := "mapsKeep", fn := fun _ => fun
  | [d1, d2, d3] => { results := [.lit (.bool true)], args := [d1, d2, d3] }
  | _ => none }
def mapsKeepRow : OpenClaim := { program := "ytmkmldpcoonepaa", sum := "e852fcfd53d30bc1dfd7124ad33f4dfd9677af87c0390d1a0e6364d187fa620c", func := "slotcode/slotcodelaw21.MapsKeep", spec := "mapsKeep", inPlace := ["slices.overlaps[*slotcode/mem.region]"], unfollowed := true, recurses := true, apart := false }
def MapsKeepSaid : Prop := mapsKeepRow.holds Try.pinned (OpenSpec.ofChange mapsKeepSpec)

/-- ITS FALSE NEIGHBOUR: 'it returns false'. Refute it at one input. -/
def mapsKeepWrong : ChangeSpec := { name := "mapsKeep", fn := fun _ => fun
  | [d1, d2, d3] => { results := [.lit (.bool false)], args := [d1, d2, d3] }
  | _ => none }
def MapsKeepWrongFalsely : Prop := mapsKeepRow.holds Try.pinned (OpenSpec.ofChange mapsKeepWrong)

/-- 'slotcodelaw21.MapsApart': WHATEVER THE INPUT: true; the input reads as it did. -/
def mapsApartSpec : ChangeSpec := { name := "mapsApart", fn := fun _ => fun
  | [d1, d2] => { results := [.lit (.bool true)], args := [d1, d2] }
  | _ => none }
def mapsApartRow : OpenClaim := { program := "ytmkmldpcoonepaa", sum := "e852fcfd53d30bc1dfd7124ad33f4dfd9677af87c0390d1a0e6364d187fa620c", func := "slotcode/slotcodelaw21.MapsApart", spec := "mapsApart", inPlace := ["slices.overlaps[*slotcode/mem.region]"], unfollowed := true, recurses := true, apart := false }
def MapsApartSaid : Prop := mapsApartRow.holds Try.pinned (OpenSpec.ofChange mapsApartSpec)

/-- ITS FALSE NEIGHBOUR: 'it returns false'. Refute it at one input. -/
def mapsApartWrong : ChangeSpec := { name := "mapsApart", fn := fun _ => fun
  | [d1, d2] => { results := [.lit (.bool false)], args := [d1, d2] }
  | _ => none }
def MapsApartWrongFalsely : Prop := mapsApartRow.holds Try.pinned (OpenSpec.ofChange mapsApartWrong)

/-- 'slotcodelaw21.MapsNil': WHATEVER THE INPUT: true; the input reads as it did. -/
def mapsNilSpec : ChangeSpec := { name := "mapsNil", fn := fun _ => fun
  | [d1, d2, d3] => { results := [.lit (.bool true)], args := [d1, d2, d3] }
  | _ => none }
def mapsNilRow : OpenClaim := { program := "ytmkmldpcoonepaa", sum := "e852fcfd53d30bc1dfd7124ad33f4dfd9677af87c0390d1a0e6364d187fa620c", func := "slotcode/slotcodelaw21.MapsNil", spec := "mapsNil", inPlace := ["slices.overlaps[*slotcode/mem.region]"], unfollowed := true, recurses := true, apart := false }
def MapsNilSaid : Prop := mapsNilRow.holds Try.pinned (OpenSpec.ofChange mapsNilSpec)

/-- ITS FALSE NEIGHBOUR: 'it returns false'. Refute it at one input. -/
def mapsNilWrong : ChangeSpec := { name := "mapsNil", fn := fun _ => fun
  | [d1, d2, d3] => { results := [.lit (.bool false)], args := [d1, d2, d3] }
  | _ => none }
def MapsNilWrongFalsely : Prop := mapsNilRow.holds Try.pinned (OpenSpec.ofChange mapsNilWrong)

/-- 'slotcodelaw21.MapsFill': WHATEVER THE INPUT: true; the input reads as it did. -/
def mapsFillSpec : ChangeSpec := { name := "mapsFill", fn := fun _ => fun
  | [d] => { results := [.lit (.bool true)], args := [d] }
  | _ => none }
def mapsFillRow : OpenClaim := { program := "ytmkmldpcoonepaa", sum := "e852fcfd53d30bc1dfd7124ad33f4dfd9677af87c0390d1a0e6364d187fa620c", func := "slotcode/slotcodelaw21.MapsFill", spec := "mapsFill", inPlace := ["slices.overlaps[*slotcode/mem.region]"], unfollowed := true, recurses := true, apart := false }
def MapsFillSaid : Prop := mapsFillRow.holds Try.pinned (OpenSpec.ofChange mapsFillSpec)

/-- ITS FALSE NEIGHBOUR: 'it returns false'. Refute it at one input. -/
def mapsFillWrong : ChangeSpec := { name := "mapsFill", fn := fun _ => fun
  | [d] => { results := [.lit (.bool false)], args := [d] }
  | _ => none }
def MapsFillWrongFalsely : Prop := mapsFillRow.holds Try.pinned (OpenSpec.ofChange mapsFillWrong)

/-- 'slotcodelaw21.MapsRun': WHATEVER THE INPUT: true; the input reads as it did. -/
def mapsRunSpec : ChangeSpec := { name := "mapsRun", fn := fun _ => fun
  | [d1, d2] => { results := [.lit (.bool true)], args := [d1, d2] }
  | _ => none }
def mapsRunRow : OpenClaim := { program := "ytmkmldpcoonepaa", sum := "e852fcfd53d30bc1dfd7124ad33f4dfd9677af87c0390d1a0e6364d187fa620c", func := "slotcode/slotcodelaw21.MapsRun", spec := "mapsRun", inPlace := ["slices.overlaps[*slotcode/mem.region]"], unfollowed := true, recurses := true, apart := false }
def MapsRunSaid : Prop := mapsRunRow.holds Try.pinned (OpenSpec.ofChange mapsRunSpec)

/-- ITS FALSE NEIGHBOUR: 'it returns false'. Refute it at one input. -/
def mapsRunWrong : ChangeSpec := { name := "mapsRun", fn := fun _ => fun
  | [d1, d2] => { results := [.lit (.bool false)], args := [d1, d2] }
  | _ => none }
def MapsRunWrongFalsely : Prop := mapsRunRow.holds Try.pinned (OpenSpec.ofChange mapsRunWrong)

/- THE SECOND FORM. 'bulk': how many values and letters a reading holds, each counted each time it is reached (what is shared counts as often as it is met; a slice's spare places count too). A statement '..UptoSaid' is the law's where the arguments, and the package variables that the reading takes, are together of bulk at most 1048576: NARROWER than '..Said'. Prove '..Said' where nothing that the law and all that it calls make is longer than what came in: it says more and counts as full. Else prove '..UptoSaid'. A law counts once. -/
mutual
def uptoBulk {H : Type} : DataW H → Nat
  | .lit (.string bytes) => bytes.length + 1
  | .lit _ => 1
  | .nil => 1
  | .ptr d => uptoBulk d + 1
  | .slice elems spare => uptoBulkAll elems + uptoBulkAll spare + 1
  | .agg parts => uptoBulkAll parts + 1
  | .iface _ d => uptoBulk d + 1
  | .map entries => uptoBulkEntries entries + 1
  | .held _ => 1
def uptoBulkAll {H : Type} : List (DataW H) → Nat
  | [] => 0
  | d :: r => uptoBulk d + uptoBulkAll r
def uptoBulkEntries {H : Type} : List (Lit × DataW H) → Nat
  | [] => 0
  | x :: r => uptoBulkEntry x + uptoBulkEntries r
def uptoBulkEntry {H : Type} : Lit × DataW H → Nat
  | (.string bytes, d) => bytes.length + uptoBulk d + 1
  | (_, d) => uptoBulk d + 1
 end
def uptoSmall : (H : Type) → List (DataW H) → Bool := fun _ ds => decide (uptoBulkAll ds ≤ 1048576)
def OpenSpec.upto (s : _root_.Go.ChangeSpec) : _root_.Go.OpenSpec := { _root_.Go.OpenSpec.ofChange s with cond := some uptoSmall }

/-- 'slotcodelaw21.MapsHandles', WHERE WHAT IT READS IS OF BULK AT MOST 1048576: true; the input reads as it did. -/
def mapsHandlesUptoRow : OpenClaim := { program := "ytmkmldpcoonepaa", sum := "e852fcfd53d30bc1dfd7124ad33f4dfd9677af87c0390d1a0e6364d187fa620c", func := "slotcode/slotcodelaw21.MapsHandles", spec := "mapsHandles", inPlace := ["slices.overlaps[*slotcode/mem.region]"], unfollowed := true, recurses := true, apart := false, narrowed := true }
def MapsHandlesUptoSaid : Prop := mapsHandlesUptoRow.holds Try.pinned (OpenSpec.upto mapsHandlesSpec)

/-- 'slotcodelaw21.MapsKeep', WHERE WHAT IT READS IS OF BULK AT MOST 1048576: true; the input reads as it did. -/
def mapsKeepUptoRow : OpenClaim := { program := "ytmkmldpcoonepaa", sum := "e852fcfd53d30bc1dfd7124ad33f4dfd9677af87c0390d1a0e6364d187fa620c", func := "slotcode/slotcodelaw21.MapsKeep", spec := "mapsKeep", inPlace := ["slices.overlaps[*slotcode/mem.region]"], unfollowed := true, recurses := true, apart := false, narrowed := true }
def MapsKeepUptoSaid : Prop := mapsKeepUptoRow.holds Try.pinned (OpenSpec.upto mapsKeepSpec)

/-- 'slotcodelaw21.MapsApart', WHERE WHAT IT READS IS OF BULK AT MOST 1048576: true; the input reads as it did. -/
def mapsApartUptoRow : OpenClaim := { program := "ytmkmldpcoonepaa", sum := "e852fcfd53d30bc1dfd7124ad33f4dfd9677af87c0390d1a0e6364d187fa620c", func := "slotcode/slotcodelaw21.MapsApart", spec := "mapsApart", inPlace := ["slices.overlaps[*slotcode/mem.region]"], unfollowed := true, recurses := true, apart := false, narrowed := true }
def MapsApartUptoSaid : Prop := mapsApartUptoRow.holds Try.pinned (OpenSpec.upto mapsApartSpec)

/-- 'slotcodelaw21.MapsNil', WHERE WHAT IT READS IS OF BULK AT MOST 1048576: true; the input reads as it did. -/
def mapsNilUptoRow : OpenClaim := { program := "ytmkmldpcoonepaa", sum := "e852fcfd53d30bc1dfd7124ad33f4dfd9677af87c0390d1a0e6364d187fa620c", func := "slotcode/slotcodelaw21.MapsNil", spec := "mapsNil", inPlace := ["slices.overlaps[*slotcode/mem.region]"], unfollowed := true, recurses := true, apart := false, narrowed := true }
def MapsNilUptoSaid : Prop := mapsNilUptoRow.holds Try.pinned (OpenSpec.upto mapsNilSpec)

/-- 'slotcodelaw21.MapsFill', WHERE WHAT IT READS IS OF BULK AT MOST 1048576: true; the input reads as it did. -/
def mapsFillUptoRow : OpenClaim := { program := "ytmkmldpcoonepaa", sum := "e852fcfd53d30bc1dfd7124ad33f4dfd9677af87c0390d1a0e6364d187fa620c", func := "slotcode/slotcodelaw21.MapsFill", spec := "mapsFill", inPlace := ["slices.overlaps[*slotcode/mem.region]"], unfollowed := true, recurses := true, apart := false, narrowed := true }
def MapsFillUptoSaid : Prop := mapsFillUptoRow.holds Try.pinned (OpenSpec.upto mapsFillSpec)

/-- 'slotcodelaw21.MapsRun', WHERE WHAT IT READS IS OF BULK AT MOST 1048576: true; the input reads as it did. -/
def mapsRunUptoRow : OpenClaim := { program := "ytmkmldpcoonepaa", sum := "e852fcfd53d30bc1dfd7124ad33f4dfd9677af87c0390d1a0e6364d187fa620c", func := "slotcode/slotcodelaw21.MapsRun", spec := "mapsRun", inPlace := ["slices.overlaps[*slotcode/mem.region]"], unfollowed := true, recurses := true, apart := false, narrowed := true }
def MapsRunUptoSaid : Prop := mapsRunUptoRow.holds Try.pinned (OpenSpec.upto mapsRunSpec)

end Rows
end Go.Proofs.Ytmkmldpcoonepaa
