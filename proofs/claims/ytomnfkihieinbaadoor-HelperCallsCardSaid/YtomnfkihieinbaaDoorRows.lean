/-
  NARROWER THAN 'FOR EVERY INPUT', by the rows' own cells (each row's printed sentence says how): HelperValues: laid · HelperCalls: laid · HelperFinds: laid · HelperNames: laid · HelperFaults: laid · HelperDeletes: laid.
  DERIVED. THE GIVEN ROWS OF THIS SEAT. 6 by the template 'for every input the law returns true; each argument reads behind the call as it read before'; 0 by the template 'total and deterministic' (their statements: YtomnfkihieinbaaDoorTotals.lean).
  GIVEN WITH THE SEED: the statements are not yours to turn. If you find one false, say at which input.
  Laid BY PROGRAM, IN A SANDBOX (cutbox-rows.mjs): the forced cells as the released guide's own fill.sh prints them over the translation 45c9a6c1bb6dd7d8… (all of the seat's roots in one cut). By AI agents, Wed Nov 11 2026. No macro, syntax, notation, axiom, sorry.
-/
import Derived.Test.YtomnfkihieinbaaDoorChecked
import GoSem.Claim
import GoSem.ClaimJoined
import GoSem.ClaimMapViews
import Derived.JoinedTies
import Derived.KernelRfl
namespace Go.Proofs.YtomnfkihieinbaaDoor
/- THE CELL 'sum', in the pinned program and in every row, IS THE sha256 OF THE DUMP (.gsa) THAT YtomnfkihieinbaaDoorProg.lean LOADS. Nothing in Lean hashes anything: it is a label: what it is worth is what the hold of that sum in a sandbox is worth. -/
noncomputable def Tryd.pinned : Pinned := { name := "ytomnfkihieinbaadoor", sum := "45c9a6c1bb6dd7d8210667a0e3b4ca57f53f0f312757d165118fc7f9d76abfe6", checked := Tryd.checked }
namespace Rows
def none {H : Type} : Left H := { results := [], args := [] }

/- WHAT THE LISTED PACKAGE-LEVEL VARIABLES READ AS WHEN THE CALL BEGINS. Each datum BY PROGRAM (the guide's laid-datum.mjs) off the statement by which the dump's own 'gosem.cut.vars' lays the variable. In a bare row this is a premise. The card (YtomnfkihieinbaaDoorCards.lean) ties it to the program's text. -/
def laid_slotcode_helper_names {H : Type} : DataW H := .agg [.lit (.string [108, 111, 111, 107, 117, 112]), .lit (.string [117, 112, 100, 97, 116, 101]), .lit (.string [100, 101, 108, 101, 116, 101])]

/-- 'slotcodelaw22.HelperValues': WHATEVER THE INPUT: true; the input reads as it did. -/
def helperValuesSpec : ChangeSpec := { name := "helperValues", fn := fun _ => fun
  | [d] => { results := [.lit (.bool true)], args := [d] }
  | _ => none }
def helperValuesRow : OpenClaim := { program := "ytomnfkihieinbaadoor", sum := "45c9a6c1bb6dd7d8210667a0e3b4ca57f53f0f312757d165118fc7f9d76abfe6", func := "slotcode/slotcodelaw22.HelperValues", spec := "helperValues", inPlace := ["slices.overlaps[*slotcode/mem.region]"], unfollowed := true, recurses := true, named := ["slotcode/helper.names"], apart := false, laid := [("slotcode/helper.names", laid_slotcode_helper_names)] }
def HelperValuesSaid : Prop := helperValuesRow.holds Tryd.pinned (OpenSpec.ofChange helperValuesSpec)

/-- ITS FALSE NEIGHBOUR: 'it returns false'. Refute it at one input. -/
def helperValuesWrong : ChangeSpec := { name := "helperValues", fn := fun _ => fun
  | [d] => { results := [.lit (.bool false)], args := [d] }
  | _ => none }
def HelperValuesWrongFalsely : Prop := helperValuesRow.holds Tryd.pinned (OpenSpec.ofChange helperValuesWrong)

/-- 'slotcodelaw22.HelperCalls': WHATEVER THE INPUT: true; the input reads as it did. -/
def helperCallsSpec : ChangeSpec := { name := "helperCalls", fn := fun _ => fun
  | [d1, d2, d3] => { results := [.lit (.bool true)], args := [d1, d2, d3] }
  | _ => none }
def helperCallsRow : OpenClaim := { program := "ytomnfkihieinbaadoor", sum := "45c9a6c1bb6dd7d8210667a0e3b4ca57f53f0f312757d165118fc7f9d76abfe6", func := "slotcode/slotcodelaw22.HelperCalls", spec := "helperCalls", inPlace := ["slices.overlaps[*slotcode/mem.region]"], unfollowed := true, recurses := true, named := ["slotcode/helper.names"], apart := false, laid := [("slotcode/helper.names", laid_slotcode_helper_names)] }
def HelperCallsSaid : Prop := helperCallsRow.holds Tryd.pinned (OpenSpec.ofChange helperCallsSpec)

/-- ITS FALSE NEIGHBOUR: 'it returns false'. Refute it at one input. -/
def helperCallsWrong : ChangeSpec := { name := "helperCalls", fn := fun _ => fun
  | [d1, d2, d3] => { results := [.lit (.bool false)], args := [d1, d2, d3] }
  | _ => none }
def HelperCallsWrongFalsely : Prop := helperCallsRow.holds Tryd.pinned (OpenSpec.ofChange helperCallsWrong)

/-- 'slotcodelaw22.HelperFinds': WHATEVER THE INPUT: true; the input reads as it did. -/
def helperFindsSpec : ChangeSpec := { name := "helperFinds", fn := fun _ => fun
  | [d1, d2, d3] => { results := [.lit (.bool true)], args := [d1, d2, d3] }
  | _ => none }
def helperFindsRow : OpenClaim := { program := "ytomnfkihieinbaadoor", sum := "45c9a6c1bb6dd7d8210667a0e3b4ca57f53f0f312757d165118fc7f9d76abfe6", func := "slotcode/slotcodelaw22.HelperFinds", spec := "helperFinds", inPlace := ["slices.overlaps[*slotcode/mem.region]"], unfollowed := true, recurses := true, named := ["slotcode/helper.names"], apart := false, laid := [("slotcode/helper.names", laid_slotcode_helper_names)] }
def HelperFindsSaid : Prop := helperFindsRow.holds Tryd.pinned (OpenSpec.ofChange helperFindsSpec)

/-- ITS FALSE NEIGHBOUR: 'it returns false'. Refute it at one input. -/
def helperFindsWrong : ChangeSpec := { name := "helperFinds", fn := fun _ => fun
  | [d1, d2, d3] => { results := [.lit (.bool false)], args := [d1, d2, d3] }
  | _ => none }
def HelperFindsWrongFalsely : Prop := helperFindsRow.holds Tryd.pinned (OpenSpec.ofChange helperFindsWrong)

/-- 'slotcodelaw22.HelperNames': WHATEVER THE INPUT: true; the input reads as it did. -/
def helperNamesSpec : ChangeSpec := { name := "helperNames", fn := fun _ => fun
  | [d1, d2] => { results := [.lit (.bool true)], args := [d1, d2] }
  | _ => none }
def helperNamesRow : OpenClaim := { program := "ytomnfkihieinbaadoor", sum := "45c9a6c1bb6dd7d8210667a0e3b4ca57f53f0f312757d165118fc7f9d76abfe6", func := "slotcode/slotcodelaw22.HelperNames", spec := "helperNames", inPlace := ["slices.overlaps[*slotcode/mem.region]"], unfollowed := true, recurses := true, named := ["slotcode/helper.names"], apart := false, laid := [("slotcode/helper.names", laid_slotcode_helper_names)] }
def HelperNamesSaid : Prop := helperNamesRow.holds Tryd.pinned (OpenSpec.ofChange helperNamesSpec)

/-- ITS FALSE NEIGHBOUR: 'it returns false'. Refute it at one input. -/
def helperNamesWrong : ChangeSpec := { name := "helperNames", fn := fun _ => fun
  | [d1, d2] => { results := [.lit (.bool false)], args := [d1, d2] }
  | _ => none }
def HelperNamesWrongFalsely : Prop := helperNamesRow.holds Tryd.pinned (OpenSpec.ofChange helperNamesWrong)

/-- 'slotcodelaw22.HelperFaults': WHATEVER THE INPUT: true; the input reads as it did. -/
def helperFaultsSpec : ChangeSpec := { name := "helperFaults", fn := fun _ => fun
  | [d1, d2, d3] => { results := [.lit (.bool true)], args := [d1, d2, d3] }
  | _ => none }
def helperFaultsRow : OpenClaim := { program := "ytomnfkihieinbaadoor", sum := "45c9a6c1bb6dd7d8210667a0e3b4ca57f53f0f312757d165118fc7f9d76abfe6", func := "slotcode/slotcodelaw22.HelperFaults", spec := "helperFaults", inPlace := ["slices.overlaps[*slotcode/mem.region]"], unfollowed := true, recurses := true, named := ["slotcode/helper.names"], apart := false, laid := [("slotcode/helper.names", laid_slotcode_helper_names)] }
def HelperFaultsSaid : Prop := helperFaultsRow.holds Tryd.pinned (OpenSpec.ofChange helperFaultsSpec)

/-- ITS FALSE NEIGHBOUR: 'it returns false'. Refute it at one input. -/
def helperFaultsWrong : ChangeSpec := { name := "helperFaults", fn := fun _ => fun
  | [d1, d2, d3] => { results := [.lit (.bool false)], args := [d1, d2, d3] }
  | _ => none }
def HelperFaultsWrongFalsely : Prop := helperFaultsRow.holds Tryd.pinned (OpenSpec.ofChange helperFaultsWrong)

/-- 'slotcodelaw22.HelperDeletes': WHATEVER THE INPUT: true; the input reads as it did. -/
def helperDeletesSpec : ChangeSpec := { name := "helperDeletes", fn := fun _ => fun
  | [d1, d2, d3] => { results := [.lit (.bool true)], args := [d1, d2, d3] }
  | _ => none }
def helperDeletesRow : OpenClaim := { program := "ytomnfkihieinbaadoor", sum := "45c9a6c1bb6dd7d8210667a0e3b4ca57f53f0f312757d165118fc7f9d76abfe6", func := "slotcode/slotcodelaw22.HelperDeletes", spec := "helperDeletes", inPlace := ["slices.overlaps[*slotcode/mem.region]"], unfollowed := true, recurses := true, named := ["slotcode/helper.names"], apart := false, laid := [("slotcode/helper.names", laid_slotcode_helper_names)] }
def HelperDeletesSaid : Prop := helperDeletesRow.holds Tryd.pinned (OpenSpec.ofChange helperDeletesSpec)

/-- ITS FALSE NEIGHBOUR: 'it returns false'. Refute it at one input. -/
def helperDeletesWrong : ChangeSpec := { name := "helperDeletes", fn := fun _ => fun
  | [d1, d2, d3] => { results := [.lit (.bool false)], args := [d1, d2, d3] }
  | _ => none }
def HelperDeletesWrongFalsely : Prop := helperDeletesRow.holds Tryd.pinned (OpenSpec.ofChange helperDeletesWrong)

/- THE SECOND FORM. 'bulk': how many values and letters a reading holds, each counted each time it is reached (what is shared counts as often as it is met; a slice's spare places count too). A statement '..UptoSaid' is the law's where the arguments, and the package variables that the reading takes, are together of bulk at most 1048576: NARROWER than '..Said'. Prove '..Said' where nothing that the law and all that it calls make is longer than what came in: it says more and counts as full. Else prove '..UptoSaid'. A law counts once. -/
mutual
def uptoBulk {H : Type} : DataW H → Nat
  | .lit (.string bytes) => bytes.length + 1
  | .lit _ => 1
  | .nil => 1
  | .ptr d => uptoBulk d + 1
  | .slice elems spare => uptoBulkAll elems + uptoBulkAll spare + 1
  | .agg parts => uptoBulkAll parts + 1
  | .iface _ d => uptoBulk d + 1
  | .map entries => uptoBulkEntries entries + 1
  | .held _ => 1
def uptoBulkAll {H : Type} : List (DataW H) → Nat
  | [] => 0
  | d :: r => uptoBulk d + uptoBulkAll r
def uptoBulkEntries {H : Type} : List (Lit × DataW H) → Nat
  | [] => 0
  | x :: r => uptoBulkEntry x + uptoBulkEntries r
def uptoBulkEntry {H : Type} : Lit × DataW H → Nat
  | (.string bytes, d) => bytes.length + uptoBulk d + 1
  | (_, d) => uptoBulk d + 1
 end
def uptoSmall : (H : Type) → List (DataW H) → Bool := fun _ ds => decide (uptoBulkAll ds ≤ 1048576)
def OpenSpec.upto (s : _root_.Go.ChangeSpec) : _root_.Go.OpenSpec := { _root_.Go.OpenSpec.ofChange s with cond := some uptoSmall }

/-- 'slotcodelaw22.HelperValues', WHERE WHAT IT READS IS OF BULK AT MOST 1048576: true; the input reads as it did. -/
def helperValuesUptoRow : OpenClaim := { program := "ytomnfkihieinbaadoor", sum := "45c9a6c1bb6dd7d8210667a0e3b4ca57f53f0f312757d165118fc7f9d76abfe6", func := "slotcode/slotcodelaw22.HelperValues", spec := "helperValues", inPlace := ["slices.overlaps[*slotcode/mem.region]"], unfollowed := true, recurses := true, named := ["slotcode/helper.names"], apart := false, laid := [("slotcode/helper.names", laid_slotcode_helper_names)], narrowed := true }
def HelperValuesUptoSaid : Prop := helperValuesUptoRow.holds Tryd.pinned (OpenSpec.upto helperValuesSpec)

/-- 'slotcodelaw22.HelperCalls', WHERE WHAT IT READS IS OF BULK AT MOST 1048576: true; the input reads as it did. -/
def helperCallsUptoRow : OpenClaim := { program := "ytomnfkihieinbaadoor", sum := "45c9a6c1bb6dd7d8210667a0e3b4ca57f53f0f312757d165118fc7f9d76abfe6", func := "slotcode/slotcodelaw22.HelperCalls", spec := "helperCalls", inPlace := ["slices.overlaps[*slotcode/mem.region]"], unfollowed := true, recurses := true, named := ["slotcode/helper.names"], apart := false, laid := [("slotcode/helper.names", laid_slotcode_helper_names)], narrowed := true }
def HelperCallsUptoSaid : Prop := helperCallsUptoRow.holds Tryd.pinned (OpenSpec.upto helperCallsSpec)

/-- 'slotcodelaw22.HelperFinds', WHERE WHAT IT READS IS OF BULK AT MOST 1048576: true; the input reads as it did. -/
def helperFindsUptoRow : OpenClaim := { program := "ytomnfkihieinbaadoor", sum := "45c9a6c1bb6dd7d8210667a0e3b4ca57f53f0f312757d165118fc7f9d76abfe6", func := "slotcode/slotcodelaw22.HelperFinds", spec := "helperFinds", inPlace := ["slices.overlaps[*slotcode/mem.region]"], unfollowed := true, recurses := true, named := ["slotcode/helper.names"], apart := false, laid := [("slotcode/helper.names", laid_slotcode_helper_names)], narrowed := true }
def HelperFindsUptoSaid : Prop := helperFindsUptoRow.holds Tryd.pinned (OpenSpec.upto helperFindsSpec)

/-- 'slotcodelaw22.HelperNames', WHERE WHAT IT READS IS OF BULK AT MOST 1048576: true; the input reads as it did. -/
def helperNamesUptoRow : OpenClaim := { program := "ytomnfkihieinbaadoor", sum := "45c9a6c1bb6dd7d8210667a0e3b4ca57f53f0f312757d165118fc7f9d76abfe6", func := "slotcode/slotcodelaw22.HelperNames", spec := "helperNames", inPlace := ["slices.overlaps[*slotcode/mem.region]"], unfollowed := true, recurses := true, named := ["slotcode/helper.names"], apart := false, laid := [("slotcode/helper.names", laid_slotcode_helper_names)], narrowed := true }
def HelperNamesUptoSaid : Prop := helperNamesUptoRow.holds Tryd.pinned (OpenSpec.upto helperNamesSpec)

/-- 'slotcodelaw22.HelperFaults', WHERE WHAT IT READS IS OF BULK AT MOST 1048576: true; the input reads as it did. -/
def helperFaultsUptoRow : OpenClaim := { program := "ytomnfkihieinbaadoor", sum := "45c9a6c1bb6dd7d8210667a0e3b4ca57f53f0f312757d165118fc7f9d76abfe6", func := "slotcode/slotcodelaw22.HelperFaults", spec := "helperFaults", inPlace := ["slices.overlaps[*slotcode/mem.region]"], unfollowed := true, recurses := true, named := ["slotcode/helper.names"], apart := false, laid := [("slotcode/helper.names", laid_slotcode_helper_names)], narrowed := true }
def HelperFaultsUptoSaid : Prop := helperFaultsUptoRow.holds Tryd.pinned (OpenSpec.upto helperFaultsSpec)

/-- 'slotcodelaw22.HelperDeletes', WHERE WHAT IT READS IS OF BULK AT MOST 1048576: true; the input reads as it did. -/
def helperDeletesUptoRow : OpenClaim := { program := "ytomnfkihieinbaadoor", sum := "45c9a6c1bb6dd7d8210667a0e3b4ca57f53f0f312757d165118fc7f9d76abfe6", func := "slotcode/slotcodelaw22.HelperDeletes", spec := "helperDeletes", inPlace := ["slices.overlaps[*slotcode/mem.region]"], unfollowed := true, recurses := true, named := ["slotcode/helper.names"], apart := false, laid := [("slotcode/helper.names", laid_slotcode_helper_names)], narrowed := true }
def HelperDeletesUptoSaid : Prop := helperDeletesUptoRow.holds Tryd.pinned (OpenSpec.upto helperDeletesSpec)

end Rows
end Go.Proofs.YtomnfkihieinbaaDoor
