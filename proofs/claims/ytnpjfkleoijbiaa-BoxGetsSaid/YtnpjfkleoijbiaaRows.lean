/-
  No cell of these rows narrows 'for every input' (looked for: loops, veiled, ifaces, maps, wideKeys, modest, calm, conditions, laid).
  DERIVED. THE GIVEN ROWS OF THIS SEAT. 6 by the template 'for every input the law returns true; each argument reads behind the call as it read before'; 0 by the template 'total and deterministic' (their statements: YtnpjfkleoijbiaaTotals.lean).
  GIVEN WITH THE SEED: the statements are not yours to turn. If you find one false, say at which input.
  Laid BY PROGRAM, IN A SANDBOX (cutbox-rows.mjs): the forced cells as the released guide's own fill.sh prints them over the translation be71dbc6093905f5… (all of the seat's roots in one cut). By AI agents, Wed Nov 11 2026. No macro, syntax, notation, axiom, sorry.
-/
import Derived.Test.YtnpjfkleoijbiaaChecked
import GoSem.Claim
import GoSem.ClaimJoined
import GoSem.ClaimMapViews
import Derived.JoinedTies
import Derived.KernelRfl
namespace Go.Proofs.Ytnpjfkleoijbiaa
/- THE CELL 'sum', in the pinned program and in every row, IS THE sha256 OF THE DUMP (.gsa) THAT YtnpjfkleoijbiaaProg.lean LOADS. Nothing in Lean hashes anything: it is a label: what it is worth is what the hold of that sum in a sandbox is worth. -/
noncomputable def Try.pinned : Pinned := { name := "ytnpjfkleoijbiaa", sum := "be71dbc6093905f5560457db7e6ec7847c9cf2d99d549ed880292253a426a12b", checked := Try.checked }
namespace Rows
def none {H : Type} : Left H := { results := [], args := [] }

/-- 'slotcodelaw15.BoxWrites': WHATEVER THE INPUT: true; the input reads as it did. -/
def boxWritesSpec : ChangeSpec := { name := "boxWrites", fn := fun _ => fun
  | [d] => { results := [.lit (.bool true)], args := [d] }
  | _ => none }
def boxWritesRow : OpenClaim := { program := "ytnpjfkleoijbiaa", sum := "be71dbc6093905f5560457db7e6ec7847c9cf2d99d549ed880292253a426a12b", func := "slotcode/slotcodelaw15.BoxWrites", spec := "boxWrites", unfollowed := true, recurses := true, apart := false }
def BoxWritesSaid : Prop := boxWritesRow.holds Try.pinned (OpenSpec.ofChange boxWritesSpec)

/-- ITS FALSE NEIGHBOUR: 'it returns false'. Refute it at one input. -/
def boxWritesWrong : ChangeSpec := { name := "boxWrites", fn := fun _ => fun
  | [d] => { results := [.lit (.bool false)], args := [d] }
  | _ => none }
def BoxWritesWrongFalsely : Prop := boxWritesRow.holds Try.pinned (OpenSpec.ofChange boxWritesWrong)

/-- 'slotcodelaw15.BoxReads': WHATEVER THE INPUT: true; the input reads as it did. -/
def boxReadsSpec : ChangeSpec := { name := "boxReads", fn := fun _ => fun
  | [d] => { results := [.lit (.bool true)], args := [d] }
  | _ => none }
def boxReadsRow : OpenClaim := { program := "ytnpjfkleoijbiaa", sum := "be71dbc6093905f5560457db7e6ec7847c9cf2d99d549ed880292253a426a12b", func := "slotcode/slotcodelaw15.BoxReads", spec := "boxReads", unfollowed := true, recurses := true, apart := false }
def BoxReadsSaid : Prop := boxReadsRow.holds Try.pinned (OpenSpec.ofChange boxReadsSpec)

/-- ITS FALSE NEIGHBOUR: 'it returns false'. Refute it at one input. -/
def boxReadsWrong : ChangeSpec := { name := "boxReads", fn := fun _ => fun
  | [d] => { results := [.lit (.bool false)], args := [d] }
  | _ => none }
def BoxReadsWrongFalsely : Prop := boxReadsRow.holds Try.pinned (OpenSpec.ofChange boxReadsWrong)

/-- 'slotcodelaw15.BoxInverts': WHATEVER THE INPUT: true; the input reads as it did. -/
def boxInvertsSpec : ChangeSpec := { name := "boxInverts", fn := fun _ => fun
  | [d] => { results := [.lit (.bool true)], args := [d] }
  | _ => none }
def boxInvertsRow : OpenClaim := { program := "ytnpjfkleoijbiaa", sum := "be71dbc6093905f5560457db7e6ec7847c9cf2d99d549ed880292253a426a12b", func := "slotcode/slotcodelaw15.BoxInverts", spec := "boxInverts", unfollowed := true, recurses := true, apart := false }
def BoxInvertsSaid : Prop := boxInvertsRow.holds Try.pinned (OpenSpec.ofChange boxInvertsSpec)

/-- ITS FALSE NEIGHBOUR: 'it returns false'. Refute it at one input. -/
def boxInvertsWrong : ChangeSpec := { name := "boxInverts", fn := fun _ => fun
  | [d] => { results := [.lit (.bool false)], args := [d] }
  | _ => none }
def BoxInvertsWrongFalsely : Prop := boxInvertsRow.holds Try.pinned (OpenSpec.ofChange boxInvertsWrong)

/-- 'slotcodelaw15.BoxIsCanonical': WHATEVER THE INPUT: true; the input reads as it did. -/
def boxIsCanonicalSpec : ChangeSpec := { name := "boxIsCanonical", fn := fun _ => fun
  | [d] => { results := [.lit (.bool true)], args := [d] }
  | _ => none }
def boxIsCanonicalRow : OpenClaim := { program := "ytnpjfkleoijbiaa", sum := "be71dbc6093905f5560457db7e6ec7847c9cf2d99d549ed880292253a426a12b", func := "slotcode/slotcodelaw15.BoxIsCanonical", spec := "boxIsCanonical", unfollowed := true, recurses := true, apart := false }
def BoxIsCanonicalSaid : Prop := boxIsCanonicalRow.holds Try.pinned (OpenSpec.ofChange boxIsCanonicalSpec)

/-- ITS FALSE NEIGHBOUR: 'it returns false'. Refute it at one input. -/
def boxIsCanonicalWrong : ChangeSpec := { name := "boxIsCanonical", fn := fun _ => fun
  | [d] => { results := [.lit (.bool false)], args := [d] }
  | _ => none }
def BoxIsCanonicalWrongFalsely : Prop := boxIsCanonicalRow.holds Try.pinned (OpenSpec.ofChange boxIsCanonicalWrong)

/-- 'slotcodelaw15.BoxGets': WHATEVER THE INPUT: true; the input reads as it did. -/
def boxGetsSpec : ChangeSpec := { name := "boxGets", fn := fun _ => fun
  | [d1, d2] => { results := [.lit (.bool true)], args := [d1, d2] }
  | _ => none }
def boxGetsRow : OpenClaim := { program := "ytnpjfkleoijbiaa", sum := "be71dbc6093905f5560457db7e6ec7847c9cf2d99d549ed880292253a426a12b", func := "slotcode/slotcodelaw15.BoxGets", spec := "boxGets", unfollowed := true, recurses := true, apart := false }
def BoxGetsSaid : Prop := boxGetsRow.holds Try.pinned (OpenSpec.ofChange boxGetsSpec)

/-- ITS FALSE NEIGHBOUR: 'it returns false'. Refute it at one input. -/
def boxGetsWrong : ChangeSpec := { name := "boxGets", fn := fun _ => fun
  | [d1, d2] => { results := [.lit (.bool false)], args := [d1, d2] }
  | _ => none }
def BoxGetsWrongFalsely : Prop := boxGetsRow.holds Try.pinned (OpenSpec.ofChange boxGetsWrong)

/-- 'slotcodelaw15.BoxRejects': WHATEVER THE INPUT: true; the input reads as it did. -/
def boxRejectsSpec : ChangeSpec := { name := "boxRejects", fn := fun _ => fun
  | [d1, d2, d3] => { results := [.lit (.bool true)], args := [d1, d2, d3] }
  | _ => none }
def boxRejectsRow : OpenClaim := { program := "ytnpjfkleoijbiaa", sum := "be71dbc6093905f5560457db7e6ec7847c9cf2d99d549ed880292253a426a12b", func := "slotcode/slotcodelaw15.BoxRejects", spec := "boxRejects", unfollowed := true, recurses := true, apart := false }
def BoxRejectsSaid : Prop := boxRejectsRow.holds Try.pinned (OpenSpec.ofChange boxRejectsSpec)

/-- ITS FALSE NEIGHBOUR: 'it returns false'. Refute it at one input. -/
def boxRejectsWrong : ChangeSpec := { name := "boxRejects", fn := fun _ => fun
  | [d1, d2, d3] => { results := [.lit (.bool false)], args := [d1, d2, d3] }
  | _ => none }
def BoxRejectsWrongFalsely : Prop := boxRejectsRow.holds Try.pinned (OpenSpec.ofChange boxRejectsWrong)

/- THE SECOND FORM. 'bulk': how many values and letters a reading holds, each counted each time it is reached (what is shared counts as often as it is met; a slice's spare places count too). A statement '..UptoSaid' is the law's where the arguments, and the package variables that the reading takes, are together of bulk at most 1048576: NARROWER than '..Said'. Prove '..Said' where nothing that the law and all that it calls make is longer than what came in: it says more and counts as full. Else prove '..UptoSaid'. A law counts once. -/
mutual
def uptoBulk {H : Type} : DataW H → Nat
  | .lit (.string bytes) => bytes.length + 1
  | .lit _ => 1
  | .nil => 1
  | .ptr d => uptoBulk d + 1
  | .slice elems spare => uptoBulkAll elems + uptoBulkAll spare + 1
  | .agg parts => uptoBulkAll parts + 1
  | .iface _ d => uptoBulk d + 1
  | .map entries => uptoBulkEntries entries + 1
  | .held _ => 1
def uptoBulkAll {H : Type} : List (DataW H) → Nat
  | [] => 0
  | d :: r => uptoBulk d + uptoBulkAll r
def uptoBulkEntries {H : Type} : List (Lit × DataW H) → Nat
  | [] => 0
  | x :: r => uptoBulkEntry x + uptoBulkEntries r
def uptoBulkEntry {H : Type} : Lit × DataW H → Nat
  | (.string bytes, d) => bytes.length + uptoBulk d + 1
  | (_, d) => uptoBulk d + 1
 end
def uptoSmall : (H : Type) → List (DataW H) → Bool := fun _ ds => decide (uptoBulkAll ds ≤ 1048576)
def OpenSpec.upto (s : _root_.Go.ChangeSpec) : _root_.Go.OpenSpec := { _root_.Go.OpenSpec.ofChange s with cond := some uptoSmall }

/-- 'slotcodelaw15.BoxWrites', WHERE WHAT IT READS IS OF BULK AT MOST 1048576: true; the input reads as it did. -/
def boxWritesUptoRow : OpenClaim := { program := "ytnpjfkleoijbiaa", sum := "be71dbc6093905f5560457db7e6ec7847c9cf2d99d549ed880292253a426a12b", func := "slotcode/slotcodelaw15.BoxWrites", spec := "boxWrites", unfollowed := true, recurses := true, apart := false, narrowed := true }
def BoxWritesUptoSaid : Prop := boxWritesUptoRow.holds Try.pinned (OpenSpec.upto boxWritesSpec)

/-- 'slotcodelaw15.BoxReads', WHERE WHAT IT READS IS OF BULK AT MOST 1048576: true; the input reads as it did. -/
def boxReadsUptoRow : OpenClaim := { program := "ytnpjfkleoijbiaa", sum := "be71dbc6093905f5560457db7e6ec7847c9cf2d99d549ed880292253a426a12b", func := "slotcode/slotcodelaw15.BoxReads", spec := "boxReads", unfollowed := true, recurses := true, apart := false, narrowed := true }
def BoxReadsUptoSaid : Prop := boxReadsUptoRow.holds Try.pinned (OpenSpec.upto boxReadsSpec)

/-- 'slotcodelaw15.BoxInverts', WHERE WHAT IT READS IS OF BULK AT MOST 1048576: true; the input reads as it did. -/
def boxInvertsUptoRow : OpenClaim := { program := "ytnpjfkleoijbiaa", sum := "be71dbc6093905f5560457db7e6ec7847c9cf2d99d549ed880292253a426a12b", func := "slotcode/slotcodelaw15.BoxInverts", spec := "boxInverts", unfollowed := true, recurses := true, apart := false, narrowed := true }
def BoxInvertsUptoSaid : Prop := boxInvertsUptoRow.holds Try.pinned (OpenSpec.upto boxInvertsSpec)

/-- 'slotcodelaw15.BoxIsCanonical', WHERE WHAT IT READS IS OF BULK AT MOST 1048576: true; the input reads as it did. -/
def boxIsCanonicalUptoRow : OpenClaim := { program := "ytnpjfkleoijbiaa", sum := "be71dbc6093905f5560457db7e6ec7847c9cf2d99d549ed880292253a426a12b", func := "slotcode/slotcodelaw15.BoxIsCanonical", spec := "boxIsCanonical", unfollowed := true, recurses := true, apart := false, narrowed := true }
def BoxIsCanonicalUptoSaid : Prop := boxIsCanonicalUptoRow.holds Try.pinned (OpenSpec.upto boxIsCanonicalSpec)

/-- 'slotcodelaw15.BoxGets', WHERE WHAT IT READS IS OF BULK AT MOST 1048576: true; the input reads as it did. -/
def boxGetsUptoRow : OpenClaim := { program := "ytnpjfkleoijbiaa", sum := "be71dbc6093905f5560457db7e6ec7847c9cf2d99d549ed880292253a426a12b", func := "slotcode/slotcodelaw15.BoxGets", spec := "boxGets", unfollowed := true, recurses := true, apart := false, narrowed := true }
def BoxGetsUptoSaid : Prop := boxGetsUptoRow.holds Try.pinned (OpenSpec.upto boxGetsSpec)

/-- 'slotcodelaw15.BoxRejects', WHERE WHAT IT READS IS OF BULK AT MOST 1048576: true; the input reads as it did. -/
def boxRejectsUptoRow : OpenClaim := { program := "ytnpjfkleoijbiaa", sum := "be71dbc6093905f5560457db7e6ec7847c9cf2d99d549ed880292253a426a12b", func := "slotcode/slotcodelaw15.BoxRejects", spec := "boxRejects", unfollowed := true, recurses := true, apart := false, narrowed := true }
def BoxRejectsUptoSaid : Prop := boxRejectsUptoRow.holds Try.pinned (OpenSpec.upto boxRejectsSpec)

end Rows
end Go.Proofs.Ytnpjfkleoijbiaa
