/-
  No cell of these rows narrows 'for every input' (looked for: loops, veiled, ifaces, maps, wideKeys, modest, calm, conditions, laid).
  DERIVED. THE GIVEN ROWS OF THIS SEAT. 6 by the template 'for every input the law returns true; each argument reads behind the call as it read before'; 0 by the template 'total and deterministic' (their statements: YtbepheikefkaiaaTotals.lean).
  GIVEN WITH THE SEED: the statements are not yours to turn. If you find one false, say at which input.
  Laid BY PROGRAM, IN A SANDBOX (cutbox-rows.mjs): the forced cells as the released guide's own fill.sh prints them over the translation ec369552b40ea52a… (all of the seat's roots in one cut). By AI agents, Wed Nov 11 2026. No macro, syntax, notation, axiom, sorry.
-/
import Derived.Test.YtbepheikefkaiaaChecked
import GoSem.Claim
import GoSem.ClaimJoined
import GoSem.ClaimMapViews
import Derived.JoinedTies
import Derived.KernelRfl
namespace Go.Proofs.Ytbepheikefkaiaa
/- THE CELL 'sum', in the pinned program and in every row, IS THE sha256 OF THE DUMP (.gsa) THAT YtbepheikefkaiaaProg.lean LOADS. Nothing in Lean hashes anything: it is a label: what it is worth is what the hold of that sum in a sandbox is worth. -/
noncomputable def Try.pinned : Pinned := { name := "ytbepheikefkaiaa", sum := "ec369552b40ea52a7038211f9246ffb542725149cec019414ea2fd78d9c627e5", checked := Try.checked }
namespace Rows
def none {H : Type} : Left H := { results := [], args := [] }

/-- 'slotcodelaw14.StrtabBuilds': WHATEVER THE INPUT: true; the input reads as it did. -/
def strtabBuildsSpec : ChangeSpec := { name := "strtabBuilds", fn := fun _ => fun
  | [d] => { results := [.lit (.bool true)], args := [d] }
  | _ => none }
def strtabBuildsRow : OpenClaim := { program := "ytbepheikefkaiaa", sum := "ec369552b40ea52a7038211f9246ffb542725149cec019414ea2fd78d9c627e5", func := "slotcode/slotcodelaw14.StrtabBuilds", spec := "strtabBuilds", inPlace := ["internal/bytealg.IndexByteString", "internal/bytealg.IndexByte", "internal/bytealg.Index"], unfollowed := true, recurses := true, named := ["internal/bytealg.MaxLen"], apart := false }
def StrtabBuildsSaid : Prop := strtabBuildsRow.holds Try.pinned (OpenSpec.ofChange strtabBuildsSpec)

/-- ITS FALSE NEIGHBOUR: 'it returns false'. Refute it at one input. -/
def strtabBuildsWrong : ChangeSpec := { name := "strtabBuilds", fn := fun _ => fun
  | [d] => { results := [.lit (.bool false)], args := [d] }
  | _ => none }
def StrtabBuildsWrongFalsely : Prop := strtabBuildsRow.holds Try.pinned (OpenSpec.ofChange strtabBuildsWrong)

/-- 'slotcodelaw14.StrtabParses': WHATEVER THE INPUT: true; the input reads as it did. -/
def strtabParsesSpec : ChangeSpec := { name := "strtabParses", fn := fun _ => fun
  | [d] => { results := [.lit (.bool true)], args := [d] }
  | _ => none }
def strtabParsesRow : OpenClaim := { program := "ytbepheikefkaiaa", sum := "ec369552b40ea52a7038211f9246ffb542725149cec019414ea2fd78d9c627e5", func := "slotcode/slotcodelaw14.StrtabParses", spec := "strtabParses", inPlace := ["internal/bytealg.IndexByteString", "internal/bytealg.IndexByte", "internal/bytealg.Index"], unfollowed := true, recurses := true, named := ["internal/bytealg.MaxLen"], apart := false }
def StrtabParsesSaid : Prop := strtabParsesRow.holds Try.pinned (OpenSpec.ofChange strtabParsesSpec)

/-- ITS FALSE NEIGHBOUR: 'it returns false'. Refute it at one input. -/
def strtabParsesWrong : ChangeSpec := { name := "strtabParses", fn := fun _ => fun
  | [d] => { results := [.lit (.bool false)], args := [d] }
  | _ => none }
def StrtabParsesWrongFalsely : Prop := strtabParsesRow.holds Try.pinned (OpenSpec.ofChange strtabParsesWrong)

/-- 'slotcodelaw14.StrtabGets': WHATEVER THE INPUT: true; the input reads as it did. -/
def strtabGetsSpec : ChangeSpec := { name := "strtabGets", fn := fun _ => fun
  | [d1, d2] => { results := [.lit (.bool true)], args := [d1, d2] }
  | _ => none }
def strtabGetsRow : OpenClaim := { program := "ytbepheikefkaiaa", sum := "ec369552b40ea52a7038211f9246ffb542725149cec019414ea2fd78d9c627e5", func := "slotcode/slotcodelaw14.StrtabGets", spec := "strtabGets", inPlace := ["internal/bytealg.IndexByteString", "internal/bytealg.IndexByte", "internal/bytealg.Index"], unfollowed := true, recurses := true, named := ["internal/bytealg.MaxLen"], apart := false }
def StrtabGetsSaid : Prop := strtabGetsRow.holds Try.pinned (OpenSpec.ofChange strtabGetsSpec)

/-- ITS FALSE NEIGHBOUR: 'it returns false'. Refute it at one input. -/
def strtabGetsWrong : ChangeSpec := { name := "strtabGets", fn := fun _ => fun
  | [d1, d2] => { results := [.lit (.bool false)], args := [d1, d2] }
  | _ => none }
def StrtabGetsWrongFalsely : Prop := strtabGetsRow.holds Try.pinned (OpenSpec.ofChange strtabGetsWrong)

/-- 'slotcodelaw14.StrtabFinds': WHATEVER THE INPUT: true; the input reads as it did. -/
def strtabFindsSpec : ChangeSpec := { name := "strtabFinds", fn := fun _ => fun
  | [d1, d2] => { results := [.lit (.bool true)], args := [d1, d2] }
  | _ => none }
def strtabFindsRow : OpenClaim := { program := "ytbepheikefkaiaa", sum := "ec369552b40ea52a7038211f9246ffb542725149cec019414ea2fd78d9c627e5", func := "slotcode/slotcodelaw14.StrtabFinds", spec := "strtabFinds", inPlace := ["internal/bytealg.IndexByteString", "internal/bytealg.IndexByte", "internal/bytealg.Index"], unfollowed := true, recurses := true, named := ["internal/bytealg.MaxLen"], apart := false }
def StrtabFindsSaid : Prop := strtabFindsRow.holds Try.pinned (OpenSpec.ofChange strtabFindsSpec)

/-- ITS FALSE NEIGHBOUR: 'it returns false'. Refute it at one input. -/
def strtabFindsWrong : ChangeSpec := { name := "strtabFinds", fn := fun _ => fun
  | [d1, d2] => { results := [.lit (.bool false)], args := [d1, d2] }
  | _ => none }
def StrtabFindsWrongFalsely : Prop := strtabFindsRow.holds Try.pinned (OpenSpec.ofChange strtabFindsWrong)

/-- 'slotcodelaw14.StrtabInverts': WHATEVER THE INPUT: true; the input reads as it did. -/
def strtabInvertsSpec : ChangeSpec := { name := "strtabInverts", fn := fun _ => fun
  | [d] => { results := [.lit (.bool true)], args := [d] }
  | _ => none }
def strtabInvertsRow : OpenClaim := { program := "ytbepheikefkaiaa", sum := "ec369552b40ea52a7038211f9246ffb542725149cec019414ea2fd78d9c627e5", func := "slotcode/slotcodelaw14.StrtabInverts", spec := "strtabInverts", inPlace := ["internal/bytealg.IndexByteString", "internal/bytealg.IndexByte", "internal/bytealg.Index"], unfollowed := true, recurses := true, named := ["internal/bytealg.MaxLen"], apart := false }
def StrtabInvertsSaid : Prop := strtabInvertsRow.holds Try.pinned (OpenSpec.ofChange strtabInvertsSpec)

/-- ITS FALSE NEIGHBOUR: 'it returns false'. Refute it at one input. -/
def strtabInvertsWrong : ChangeSpec := { name := "strtabInverts", fn := fun _ => fun
  | [d] => { results := [.lit (.bool false)], args := [d] }
  | _ => none }
def StrtabInvertsWrongFalsely : Prop := strtabInvertsRow.holds Try.pinned (OpenSpec.ofChange strtabInvertsWrong)

/-- 'slotcodelaw14.StrtabIsCanonical': WHATEVER THE INPUT: true; the input reads as it did. -/
def strtabIsCanonicalSpec : ChangeSpec := { name := "strtabIsCanonical", fn := fun _ => fun
  | [d] => { results := [.lit (.bool true)], args := [d] }
  | _ => none }
def strtabIsCanonicalRow : OpenClaim := { program := "ytbepheikefkaiaa", sum := "ec369552b40ea52a7038211f9246ffb542725149cec019414ea2fd78d9c627e5", func := "slotcode/slotcodelaw14.StrtabIsCanonical", spec := "strtabIsCanonical", inPlace := ["internal/bytealg.IndexByteString", "internal/bytealg.IndexByte", "internal/bytealg.Index"], unfollowed := true, recurses := true, named := ["internal/bytealg.MaxLen"], apart := false }
def StrtabIsCanonicalSaid : Prop := strtabIsCanonicalRow.holds Try.pinned (OpenSpec.ofChange strtabIsCanonicalSpec)

/-- ITS FALSE NEIGHBOUR: 'it returns false'. Refute it at one input. -/
def strtabIsCanonicalWrong : ChangeSpec := { name := "strtabIsCanonical", fn := fun _ => fun
  | [d] => { results := [.lit (.bool false)], args := [d] }
  | _ => none }
def StrtabIsCanonicalWrongFalsely : Prop := strtabIsCanonicalRow.holds Try.pinned (OpenSpec.ofChange strtabIsCanonicalWrong)

/- THE SECOND FORM. 'bulk': how many values and letters a reading holds, each counted each time it is reached (what is shared counts as often as it is met; a slice's spare places count too). A statement '..UptoSaid' is the law's where the arguments, and the package variables that the reading takes, are together of bulk at most 1048576: NARROWER than '..Said'. Prove '..Said' where nothing that the law and all that it calls make is longer than what came in: it says more and counts as full. Else prove '..UptoSaid'. A law counts once. -/
mutual
def uptoBulk {H : Type} : DataW H → Nat
  | .lit (.string bytes) => bytes.length + 1
  | .lit _ => 1
  | .nil => 1
  | .ptr d => uptoBulk d + 1
  | .slice elems spare => uptoBulkAll elems + uptoBulkAll spare + 1
  | .agg parts => uptoBulkAll parts + 1
  | .iface _ d => uptoBulk d + 1
  | .map entries => uptoBulkEntries entries + 1
  | .held _ => 1
def uptoBulkAll {H : Type} : List (DataW H) → Nat
  | [] => 0
  | d :: r => uptoBulk d + uptoBulkAll r
def uptoBulkEntries {H : Type} : List (Lit × DataW H) → Nat
  | [] => 0
  | x :: r => uptoBulkEntry x + uptoBulkEntries r
def uptoBulkEntry {H : Type} : Lit × DataW H → Nat
  | (.string bytes, d) => bytes.length + uptoBulk d + 1
  | (_, d) => uptoBulk d + 1
 end
def uptoSmall : (H : Type) → List (DataW H) → Bool := fun _ ds => decide (uptoBulkAll ds ≤ 1048576)
def OpenSpec.upto (s : _root_.Go.ChangeSpec) : _root_.Go.OpenSpec := { _root_.Go.OpenSpec.ofChange s with cond := some uptoSmall }

/-- 'slotcodelaw14.StrtabBuilds', WHERE WHAT IT READS IS OF BULK AT MOST 1048576: true; the input reads as it did. -/
def strtabBuildsUptoRow : OpenClaim := { program := "ytbepheikefkaiaa", sum := "ec369552b40ea52a7038211f9246ffb542725149cec019414ea2fd78d9c627e5", func := "slotcode/slotcodelaw14.StrtabBuilds", spec := "strtabBuilds", inPlace := ["internal/bytealg.IndexByteString", "internal/bytealg.IndexByte", "internal/bytealg.Index"], unfollowed := true, recurses := true, named := ["internal/bytealg.MaxLen"], apart := false, narrowed := true }
def StrtabBuildsUptoSaid : Prop := strtabBuildsUptoRow.holds Try.pinned (OpenSpec.upto strtabBuildsSpec)

/-- 'slotcodelaw14.StrtabParses', WHERE WHAT IT READS IS OF BULK AT MOST 1048576: true; the input reads as it did. -/
def strtabParsesUptoRow : OpenClaim := { program := "ytbepheikefkaiaa", sum := "ec369552b40ea52a7038211f9246ffb542725149cec019414ea2fd78d9c627e5", func := "slotcode/slotcodelaw14.StrtabParses", spec := "strtabParses", inPlace := ["internal/bytealg.IndexByteString", "internal/bytealg.IndexByte", "internal/bytealg.Index"], unfollowed := true, recurses := true, named := ["internal/bytealg.MaxLen"], apart := false, narrowed := true }
def StrtabParsesUptoSaid : Prop := strtabParsesUptoRow.holds Try.pinned (OpenSpec.upto strtabParsesSpec)

/-- 'slotcodelaw14.StrtabGets', WHERE WHAT IT READS IS OF BULK AT MOST 1048576: true; the input reads as it did. -/
def strtabGetsUptoRow : OpenClaim := { program := "ytbepheikefkaiaa", sum := "ec369552b40ea52a7038211f9246ffb542725149cec019414ea2fd78d9c627e5", func := "slotcode/slotcodelaw14.StrtabGets", spec := "strtabGets", inPlace := ["internal/bytealg.IndexByteString", "internal/bytealg.IndexByte", "internal/bytealg.Index"], unfollowed := true, recurses := true, named := ["internal/bytealg.MaxLen"], apart := false, narrowed := true }
def StrtabGetsUptoSaid : Prop := strtabGetsUptoRow.holds Try.pinned (OpenSpec.upto strtabGetsSpec)

/-- 'slotcodelaw14.StrtabFinds', WHERE WHAT IT READS IS OF BULK AT MOST 1048576: true; the input reads as it did. -/
def strtabFindsUptoRow : OpenClaim := { program := "ytbepheikefkaiaa", sum := "ec369552b40ea52a7038211f9246ffb542725149cec019414ea2fd78d9c627e5", func := "slotcode/slotcodelaw14.StrtabFinds", spec := "strtabFinds", inPlace := ["internal/bytealg.IndexByteString", "internal/bytealg.IndexByte", "internal/bytealg.Index"], unfollowed := true, recurses := true, named := ["internal/bytealg.MaxLen"], apart := false, narrowed := true }
def StrtabFindsUptoSaid : Prop := strtabFindsUptoRow.holds Try.pinned (OpenSpec.upto strtabFindsSpec)

/-- 'slotcodelaw14.StrtabInverts', WHERE WHAT IT READS IS OF BULK AT MOST 1048576: true; the input reads as it did. -/
def strtabInvertsUptoRow : OpenClaim := { program := "ytbepheikefkaiaa", sum := "ec369552b40ea52a7038211f9246ffb542725149cec019414ea2fd78d9c627e5", func := "slotcode/slotcodelaw14.StrtabInverts", spec := "strtabInverts", inPlace := ["internal/bytealg.IndexByteString", "internal/bytealg.IndexByte", "internal/bytealg.Index"], unfollowed := true, recurses := true, named := ["internal/bytealg.MaxLen"], apart := false, narrowed := true }
def StrtabInvertsUptoSaid : Prop := strtabInvertsUptoRow.holds Try.pinned (OpenSpec.upto strtabInvertsSpec)

/-- 'slotcodelaw14.StrtabIsCanonical', WHERE WHAT IT READS IS OF BULK AT MOST 1048576: true; the input reads as it did. -/
def strtabIsCanonicalUptoRow : OpenClaim := { program := "ytbepheikefkaiaa", sum := "ec369552b40ea52a7038211f9246ffb542725149cec019414ea2fd78d9c627e5", func := "slotcode/slotcodelaw14.StrtabIsCanonical", spec := "strtabIsCanonical", inPlace := ["internal/bytealg.IndexByteString", "internal/bytealg.IndexByte", "internal/bytealg.Index"], unfollowed := true, recurses := true, named := ["internal/bytealg.MaxLen"], apart := false, narrowed := true }
def StrtabIsCanonicalUptoSaid : Prop := strtabIsCanonicalUptoRow.holds Try.pinned (OpenSpec.upto strtabIsCanonicalSpec)

end Rows
end Go.Proofs.Ytbepheikefkaiaa
