/-
  No cell of these rows narrows 'for every input' (looked for: loops, veiled, ifaces, maps, wideKeys, modest, calm, conditions, laid).
  DERIVED. THE GIVEN ROWS OF THIS SEAT. 6 by the template 'for every input the law returns true; each argument reads behind the call as it read before'; 0 by the template 'total and deterministic' (their statements: YtlolhmocimaobaaTotals.lean).
  GIVEN WITH THE SEED: the statements are not yours to turn. If you find one false, say at which input.
  Laid BY PROGRAM, IN A SANDBOX (cutbox-rows.mjs): the forced cells as the released guide's own fill.sh prints them over the translation b29fe48b30d5806d… (all of the seat's roots in one cut). By AI agents, Wed Nov 11 2026. No macro, syntax, notation, axiom, sorry.
-/
import Derived.Test.YtlolhmocimaobaaChecked
import GoSem.Claim
import GoSem.ClaimJoined
import GoSem.ClaimMapViews
import Derived.JoinedTies
import Derived.KernelRfl
namespace Go.Proofs.Ytlolhmocimaobaa
/- THE CELL 'sum', in the pinned program and in every row, IS THE sha256 OF THE DUMP (.gsa) THAT YtlolhmocimaobaaProg.lean LOADS. Nothing in Lean hashes anything: it is a label: what it is worth is what the hold of that sum in a sandbox is worth. -/
noncomputable def Try.pinned : Pinned := { name := "ytlolhmocimaobaa", sum := "b29fe48b30d5806d0c8ddc8d51e81626381f0f98cc4c154d8fa7afbd1957082f", checked := Try.checked }
namespace Rows
def none {H : Type} : Left H := { results := [], args := [] }

/-- 'slotcodelaw20.MemRuns': WHATEVER THE INPUT: true; the input reads as it did. -/
def memRunsSpec : ChangeSpec := { name := "memRuns", fn := fun _ => fun
  | [d] => { results := [.lit (.bool true)], args := [d] }
  | _ => none }
def memRunsRow : OpenClaim := { program := "ytlolhmocimaobaa", sum := "b29fe48b30d5806d0c8ddc8d51e81626381f0f98cc4c154d8fa7afbd1957082f", func := "slotcode/slotcodelaw20.MemRuns", spec := "memRuns", inPlace := ["slices.overlaps[*slotcode/mem.region]"], unfollowed := true, recurses := true, apart := false }
def MemRunsSaid : Prop := memRunsRow.holds Try.pinned (OpenSpec.ofChange memRunsSpec)

/-- ITS FALSE NEIGHBOUR: 'it returns false'. Refute it at one input. -/
def memRunsWrong : ChangeSpec := { name := "memRuns", fn := fun _ => fun
  | [d] => { results := [.lit (.bool false)], args := [d] }
  | _ => none }
def MemRunsWrongFalsely : Prop := memRunsRow.holds Try.pinned (OpenSpec.ofChange memRunsWrong)

/-- 'slotcodelaw20.MemWrites': WHATEVER THE INPUT: true; the input reads as it did. -/
def memWritesSpec : ChangeSpec := { name := "memWrites", fn := fun _ => fun
  | [d1, d2, d3] => { results := [.lit (.bool true)], args := [d1, d2, d3] }
  | _ => none }
def memWritesRow : OpenClaim := { program := "ytlolhmocimaobaa", sum := "b29fe48b30d5806d0c8ddc8d51e81626381f0f98cc4c154d8fa7afbd1957082f", func := "slotcode/slotcodelaw20.MemWrites", spec := "memWrites", inPlace := ["slices.overlaps[*slotcode/mem.region]"], unfollowed := true, recurses := true, apart := false }
def MemWritesSaid : Prop := memWritesRow.holds Try.pinned (OpenSpec.ofChange memWritesSpec)

/-- ITS FALSE NEIGHBOUR: 'it returns false'. Refute it at one input. -/
def memWritesWrong : ChangeSpec := { name := "memWrites", fn := fun _ => fun
  | [d1, d2, d3] => { results := [.lit (.bool false)], args := [d1, d2, d3] }
  | _ => none }
def MemWritesWrongFalsely : Prop := memWritesRow.holds Try.pinned (OpenSpec.ofChange memWritesWrong)

/-- 'slotcodelaw20.MemBounds': WHATEVER THE INPUT: true; the input reads as it did. -/
def memBoundsSpec : ChangeSpec := { name := "memBounds", fn := fun _ => fun
  | [d1, d2, d3] => { results := [.lit (.bool true)], args := [d1, d2, d3] }
  | _ => none }
def memBoundsRow : OpenClaim := { program := "ytlolhmocimaobaa", sum := "b29fe48b30d5806d0c8ddc8d51e81626381f0f98cc4c154d8fa7afbd1957082f", func := "slotcode/slotcodelaw20.MemBounds", spec := "memBounds", inPlace := ["slices.overlaps[*slotcode/mem.region]"], unfollowed := true, recurses := true, apart := false }
def MemBoundsSaid : Prop := memBoundsRow.holds Try.pinned (OpenSpec.ofChange memBoundsSpec)

/-- ITS FALSE NEIGHBOUR: 'it returns false'. Refute it at one input. -/
def memBoundsWrong : ChangeSpec := { name := "memBounds", fn := fun _ => fun
  | [d1, d2, d3] => { results := [.lit (.bool false)], args := [d1, d2, d3] }
  | _ => none }
def MemBoundsWrongFalsely : Prop := memBoundsRow.holds Try.pinned (OpenSpec.ofChange memBoundsWrong)

/-- 'slotcodelaw20.MemApart': WHATEVER THE INPUT: true; the input reads as it did. -/
def memApartSpec : ChangeSpec := { name := "memApart", fn := fun _ => fun
  | [d1, d2, d3] => { results := [.lit (.bool true)], args := [d1, d2, d3] }
  | _ => none }
def memApartRow : OpenClaim := { program := "ytlolhmocimaobaa", sum := "b29fe48b30d5806d0c8ddc8d51e81626381f0f98cc4c154d8fa7afbd1957082f", func := "slotcode/slotcodelaw20.MemApart", spec := "memApart", inPlace := ["slices.overlaps[*slotcode/mem.region]"], unfollowed := true, recurses := true, apart := false }
def MemApartSaid : Prop := memApartRow.holds Try.pinned (OpenSpec.ofChange memApartSpec)

/-- ITS FALSE NEIGHBOUR: 'it returns false'. Refute it at one input. -/
def memApartWrong : ChangeSpec := { name := "memApart", fn := fun _ => fun
  | [d1, d2, d3] => { results := [.lit (.bool false)], args := [d1, d2, d3] }
  | _ => none }
def MemApartWrongFalsely : Prop := memApartRow.holds Try.pinned (OpenSpec.ofChange memApartWrong)

/-- 'slotcodelaw20.MemCopies': WHATEVER THE INPUT: true; the input reads as it did. -/
def memCopiesSpec : ChangeSpec := { name := "memCopies", fn := fun _ => fun
  | [d] => { results := [.lit (.bool true)], args := [d] }
  | _ => none }
def memCopiesRow : OpenClaim := { program := "ytlolhmocimaobaa", sum := "b29fe48b30d5806d0c8ddc8d51e81626381f0f98cc4c154d8fa7afbd1957082f", func := "slotcode/slotcodelaw20.MemCopies", spec := "memCopies", inPlace := ["slices.overlaps[*slotcode/mem.region]"], unfollowed := true, recurses := true, apart := false }
def MemCopiesSaid : Prop := memCopiesRow.holds Try.pinned (OpenSpec.ofChange memCopiesSpec)

/-- ITS FALSE NEIGHBOUR: 'it returns false'. Refute it at one input. -/
def memCopiesWrong : ChangeSpec := { name := "memCopies", fn := fun _ => fun
  | [d] => { results := [.lit (.bool false)], args := [d] }
  | _ => none }
def MemCopiesWrongFalsely : Prop := memCopiesRow.holds Try.pinned (OpenSpec.ofChange memCopiesWrong)

/-- 'slotcodelaw20.MemNil': WHATEVER THE INPUT: true; the input reads as it did. -/
def memNilSpec : ChangeSpec := { name := "memNil", fn := fun _ => fun
  | [d1, d2, d3] => { results := [.lit (.bool true)], args := [d1, d2, d3] }
  | _ => none }
def memNilRow : OpenClaim := { program := "ytlolhmocimaobaa", sum := "b29fe48b30d5806d0c8ddc8d51e81626381f0f98cc4c154d8fa7afbd1957082f", func := "slotcode/slotcodelaw20.MemNil", spec := "memNil", inPlace := ["slices.overlaps[*slotcode/mem.region]"], unfollowed := true, recurses := true, apart := false }
def MemNilSaid : Prop := memNilRow.holds Try.pinned (OpenSpec.ofChange memNilSpec)

/-- ITS FALSE NEIGHBOUR: 'it returns false'. Refute it at one input. -/
def memNilWrong : ChangeSpec := { name := "memNil", fn := fun _ => fun
  | [d1, d2, d3] => { results := [.lit (.bool false)], args := [d1, d2, d3] }
  | _ => none }
def MemNilWrongFalsely : Prop := memNilRow.holds Try.pinned (OpenSpec.ofChange memNilWrong)

/- THE SECOND FORM. 'bulk': how many values and letters a reading holds, each counted each time it is reached (what is shared counts as often as it is met; a slice's spare places count too). A statement '..UptoSaid' is the law's where the arguments, and the package variables that the reading takes, are together of bulk at most 1048576: NARROWER than '..Said'. Prove '..Said' where nothing that the law and all that it calls make is longer than what came in: it says more and counts as full. Else prove '..UptoSaid'. A law counts once. -/
mutual
def uptoBulk {H : Type} : DataW H → Nat
  | .lit (.string bytes) => bytes.length + 1
  | .lit _ => 1
  | .nil => 1
  | .ptr d => uptoBulk d + 1
  | .slice elems spare => uptoBulkAll elems + uptoBulkAll spare + 1
  | .agg parts => uptoBulkAll parts + 1
  | .iface _ d => uptoBulk d + 1
  | .map entries => uptoBulkEntries entries + 1
  | .held _ => 1
def uptoBulkAll {H : Type} : List (DataW H) → Nat
  | [] => 0
  | d :: r => uptoBulk d + uptoBulkAll r
def uptoBulkEntries {H : Type} : List (Lit × DataW H) → Nat
  | [] => 0
  | x :: r => uptoBulkEntry x + uptoBulkEntries r
def uptoBulkEntry {H : Type} : Lit × DataW H → Nat
  | (.string bytes, d) => bytes.length + uptoBulk d + 1
  | (_, d) => uptoBulk d + 1
 end
def uptoSmall : (H : Type) → List (DataW H) → Bool := fun _ ds => decide (uptoBulkAll ds ≤ 1048576)
def OpenSpec.upto (s : _root_.Go.ChangeSpec) : _root_.Go.OpenSpec := { _root_.Go.OpenSpec.ofChange s with cond := some uptoSmall }

/-- 'slotcodelaw20.MemRuns', WHERE WHAT IT READS IS OF BULK AT MOST 1048576: true; the input reads as it did. -/
def memRunsUptoRow : OpenClaim := { program := "ytlolhmocimaobaa", sum := "b29fe48b30d5806d0c8ddc8d51e81626381f0f98cc4c154d8fa7afbd1957082f", func := "slotcode/slotcodelaw20.MemRuns", spec := "memRuns", inPlace := ["slices.overlaps[*slotcode/mem.region]"], unfollowed := true, recurses := true, apart := false, narrowed := true }
def MemRunsUptoSaid : Prop := memRunsUptoRow.holds Try.pinned (OpenSpec.upto memRunsSpec)

/-- 'slotcodelaw20.MemWrites', WHERE WHAT IT READS IS OF BULK AT MOST 1048576: true; the input reads as it did. -/
def memWritesUptoRow : OpenClaim := { program := "ytlolhmocimaobaa", sum := "b29fe48b30d5806d0c8ddc8d51e81626381f0f98cc4c154d8fa7afbd1957082f", func := "slotcode/slotcodelaw20.MemWrites", spec := "memWrites", inPlace := ["slices.overlaps[*slotcode/mem.region]"], unfollowed := true, recurses := true, apart := false, narrowed := true }
def MemWritesUptoSaid : Prop := memWritesUptoRow.holds Try.pinned (OpenSpec.upto memWritesSpec)

/-- 'slotcodelaw20.MemBounds', WHERE WHAT IT READS IS OF BULK AT MOST 1048576: true; the input reads as it did. -/
def memBoundsUptoRow : OpenClaim := { program := "ytlolhmocimaobaa", sum := "b29fe48b30d5806d0c8ddc8d51e81626381f0f98cc4c154d8fa7afbd1957082f", func := "slotcode/slotcodelaw20.MemBounds", spec := "memBounds", inPlace := ["slices.overlaps[*slotcode/mem.region]"], unfollowed := true, recurses := true, apart := false, narrowed := true }
def MemBoundsUptoSaid : Prop := memBoundsUptoRow.holds Try.pinned (OpenSpec.upto memBoundsSpec)

/-- 'slotcodelaw20.MemApart', WHERE WHAT IT READS IS OF BULK AT MOST 1048576: true; the input reads as it did. -/
def memApartUptoRow : OpenClaim := { program := "ytlolhmocimaobaa", sum := "b29fe48b30d5806d0c8ddc8d51e81626381f0f98cc4c154d8fa7afbd1957082f", func := "slotcode/slotcodelaw20.MemApart", spec := "memApart", inPlace := ["slices.overlaps[*slotcode/mem.region]"], unfollowed := true, recurses := true, apart := false, narrowed := true }
def MemApartUptoSaid : Prop := memApartUptoRow.holds Try.pinned (OpenSpec.upto memApartSpec)

/-- 'slotcodelaw20.MemCopies', WHERE WHAT IT READS IS OF BULK AT MOST 1048576: true; the input reads as it did. -/
def memCopiesUptoRow : OpenClaim := { program := "ytlolhmocimaobaa", sum := "b29fe48b30d5806d0c8ddc8d51e81626381f0f98cc4c154d8fa7afbd1957082f", func := "slotcode/slotcodelaw20.MemCopies", spec := "memCopies", inPlace := ["slices.overlaps[*slotcode/mem.region]"], unfollowed := true, recurses := true, apart := false, narrowed := true }
def MemCopiesUptoSaid : Prop := memCopiesUptoRow.holds Try.pinned (OpenSpec.upto memCopiesSpec)

/-- 'slotcodelaw20.MemNil', WHERE WHAT IT READS IS OF BULK AT MOST 1048576: true; the input reads as it did. -/
def memNilUptoRow : OpenClaim := { program := "ytlolhmocimaobaa", sum := "b29fe48b30d5806d0c8ddc8d51e81626381f0f98cc4c154d8fa7afbd1957082f", func := "slotcode/slotcodelaw20.MemNil", spec := "memNil", inPlace := ["slices.overlaps[*slotcode/mem.region]"], unfollowed := true, recurses := true, apart := false, narrowed := true }
def MemNilUptoSaid : Prop := memNilUptoRow.holds Try.pinned (OpenSpec.upto memNilSpec)

end Rows
end Go.Proofs.Ytlolhmocimaobaa
