/-
  NARROWER THAN 'FOR EVERY INPUT', by the rows' own cells (each row's printed sentence says how): NumParses: laid · NumFormats: laid · NumExtends: laid · NumFits: laid · NumHexes: laid · NumUnhexes: laid.
  DERIVED. THE GIVEN ROWS OF THIS SEAT. 6 by the template 'for every input the law returns true; each argument reads behind the call as it read before'; 0 by the template 'total and deterministic' (their statements: YthahmmmkojeddaaDoorTotals.lean).
  GIVEN WITH THE SEED: the statements are not yours to turn. If you find one false, say at which input.
  Laid BY PROGRAM, IN A SANDBOX (cutbox-rows.mjs): the forced cells as the released guide's own fill.sh prints them over the translation 5259f1bb42b3585e… (all of the seat's roots in one cut). By AI agents, Wed Nov 11 2026. No macro, syntax, notation, axiom, sorry.
-/
import Derived.Test.YthahmmmkojeddaaDoorChecked
import GoSem.Claim
import GoSem.ClaimJoined
import GoSem.ClaimMapViews
import Derived.JoinedTies
import Derived.KernelRfl
namespace Go.Proofs.YthahmmmkojeddaaDoor
/- THE CELL 'sum', in the pinned program and in every row, IS THE sha256 OF THE DUMP (.gsa) THAT YthahmmmkojeddaaDoorProg.lean LOADS. Nothing in Lean hashes anything: it is a label: what it is worth is what the hold of that sum in a sandbox is worth. -/
noncomputable def Tryd.pinned : Pinned := { name := "ythahmmmkojeddaadoor", sum := "5259f1bb42b3585ecc97f4272a2732164ec88f3614611ed1339000a3388a16e1", checked := Tryd.checked }
namespace Rows
def none {H : Type} : Left H := { results := [], args := [] }

/- WHAT THE LISTED PACKAGE-LEVEL VARIABLES READ AS WHEN THE CALL BEGINS. Each datum BY PROGRAM (the guide's laid-datum.mjs) off the statement by which the dump's own 'gosem.cut.vars' lays the variable. In a bare row this is a premise. The card (YthahmmmkojeddaaDoorCards.lean) ties it to the program's text. -/
def laid_math_bits_deBruijn32tab {H : Type} : DataW H := .agg [.lit (.int .u8 0), .lit (.int .u8 1), .lit (.int .u8 28), .lit (.int .u8 2), .lit (.int .u8 29), .lit (.int .u8 14), .lit (.int .u8 24), .lit (.int .u8 3), .lit (.int .u8 30), .lit (.int .u8 22), .lit (.int .u8 20), .lit (.int .u8 15), .lit (.int .u8 25), .lit (.int .u8 17), .lit (.int .u8 4), .lit (.int .u8 8), .lit (.int .u8 31), .lit (.int .u8 27), .lit (.int .u8 13), .lit (.int .u8 23), .lit (.int .u8 21), .lit (.int .u8 19), .lit (.int .u8 16), .lit (.int .u8 7), .lit (.int .u8 26), .lit (.int .u8 12), .lit (.int .u8 18), .lit (.int .u8 6), .lit (.int .u8 11), .lit (.int .u8 5), .lit (.int .u8 10), .lit (.int .u8 9)]
def laid_math_bits_deBruijn64tab {H : Type} : DataW H := .agg [.lit (.int .u8 0), .lit (.int .u8 1), .lit (.int .u8 56), .lit (.int .u8 2), .lit (.int .u8 57), .lit (.int .u8 49), .lit (.int .u8 28), .lit (.int .u8 3), .lit (.int .u8 61), .lit (.int .u8 58), .lit (.int .u8 42), .lit (.int .u8 50), .lit (.int .u8 38), .lit (.int .u8 29), .lit (.int .u8 17), .lit (.int .u8 4), .lit (.int .u8 62), .lit (.int .u8 47), .lit (.int .u8 59), .lit (.int .u8 36), .lit (.int .u8 45), .lit (.int .u8 43), .lit (.int .u8 51), .lit (.int .u8 22), .lit (.int .u8 53), .lit (.int .u8 39), .lit (.int .u8 33), .lit (.int .u8 30), .lit (.int .u8 24), .lit (.int .u8 18), .lit (.int .u8 12), .lit (.int .u8 5), .lit (.int .u8 63), .lit (.int .u8 55), .lit (.int .u8 48), .lit (.int .u8 27), .lit (.int .u8 60), .lit (.int .u8 41), .lit (.int .u8 37), .lit (.int .u8 16), .lit (.int .u8 46), .lit (.int .u8 35), .lit (.int .u8 44), .lit (.int .u8 21), .lit (.int .u8 52), .lit (.int .u8 32), .lit (.int .u8 23), .lit (.int .u8 11), .lit (.int .u8 54), .lit (.int .u8 26), .lit (.int .u8 40), .lit (.int .u8 15), .lit (.int .u8 34), .lit (.int .u8 20), .lit (.int .u8 31), .lit (.int .u8 10), .lit (.int .u8 25), .lit (.int .u8 14), .lit (.int .u8 19), .lit (.int .u8 9), .lit (.int .u8 13), .lit (.int .u8 8), .lit (.int .u8 7), .lit (.int .u8 6)]
def laid_internal_strconv_uint64pow10 {H : Type} : DataW H := .agg [.lit (.int .u64 1), .lit (.int .u64 10), .lit (.int .u64 100), .lit (.int .u64 1000), .lit (.int .u64 10000), .lit (.int .u64 100000), .lit (.int .u64 1000000), .lit (.int .u64 10000000), .lit (.int .u64 100000000), .lit (.int .u64 1000000000), .lit (.int .u64 10000000000), .lit (.int .u64 100000000000), .lit (.int .u64 1000000000000), .lit (.int .u64 10000000000000), .lit (.int .u64 100000000000000), .lit (.int .u64 1000000000000000), .lit (.int .u64 10000000000000000), .lit (.int .u64 100000000000000000), .lit (.int .u64 1000000000000000000), .lit (.int .u64 10000000000000000000)]
def laid_slotcode_num_widths {H : Type} : DataW H := .agg [.lit (.int .i64 8), .lit (.int .i64 16), .lit (.int .i64 32), .lit (.int .i64 64)]

/-- 'slotcodelaw01.NumParses': WHATEVER THE INPUT: true; the input reads as it did. -/
def numParsesSpec : ChangeSpec := { name := "numParses", fn := fun _ => fun
  | [d1, d2] => { results := [.lit (.bool true)], args := [d1, d2] }
  | _ => none }
def numParsesRow : OpenClaim := { program := "ythahmmmkojeddaadoor", sum := "5259f1bb42b3585ecc97f4272a2732164ec88f3614611ed1339000a3388a16e1", func := "slotcode/slotcodelaw01.NumParses", spec := "numParses", inPlace := ["internal/abi.NoEscape"], unfollowed := true, recurses := true, named := ["slotcode/num.widths", "internal/strconv.uint64pow10", "math/bits.deBruijn32tab", "math/bits.deBruijn64tab"], apart := false, laid := [("math/bits.deBruijn32tab", laid_math_bits_deBruijn32tab), ("math/bits.deBruijn64tab", laid_math_bits_deBruijn64tab), ("internal/strconv.uint64pow10", laid_internal_strconv_uint64pow10), ("slotcode/num.widths", laid_slotcode_num_widths)] }
def NumParsesSaid : Prop := numParsesRow.holds Tryd.pinned (OpenSpec.ofChange numParsesSpec)

/-- ITS FALSE NEIGHBOUR: 'it returns false'. Refute it at one input. -/
def numParsesWrong : ChangeSpec := { name := "numParses", fn := fun _ => fun
  | [d1, d2] => { results := [.lit (.bool false)], args := [d1, d2] }
  | _ => none }
def NumParsesWrongFalsely : Prop := numParsesRow.holds Tryd.pinned (OpenSpec.ofChange numParsesWrong)

/-- 'slotcodelaw01.NumFormats': WHATEVER THE INPUT: true; the input reads as it did. -/
def numFormatsSpec : ChangeSpec := { name := "numFormats", fn := fun _ => fun
  | [d] => { results := [.lit (.bool true)], args := [d] }
  | _ => none }
def numFormatsRow : OpenClaim := { program := "ythahmmmkojeddaadoor", sum := "5259f1bb42b3585ecc97f4272a2732164ec88f3614611ed1339000a3388a16e1", func := "slotcode/slotcodelaw01.NumFormats", spec := "numFormats", inPlace := ["internal/abi.NoEscape"], unfollowed := true, recurses := true, named := ["internal/strconv.uint64pow10", "math/bits.deBruijn32tab", "math/bits.deBruijn64tab", "slotcode/num.widths"], apart := false, laid := [("math/bits.deBruijn32tab", laid_math_bits_deBruijn32tab), ("math/bits.deBruijn64tab", laid_math_bits_deBruijn64tab), ("internal/strconv.uint64pow10", laid_internal_strconv_uint64pow10), ("slotcode/num.widths", laid_slotcode_num_widths)] }
def NumFormatsSaid : Prop := numFormatsRow.holds Tryd.pinned (OpenSpec.ofChange numFormatsSpec)

/-- ITS FALSE NEIGHBOUR: 'it returns false'. Refute it at one input. -/
def numFormatsWrong : ChangeSpec := { name := "numFormats", fn := fun _ => fun
  | [d] => { results := [.lit (.bool false)], args := [d] }
  | _ => none }
def NumFormatsWrongFalsely : Prop := numFormatsRow.holds Tryd.pinned (OpenSpec.ofChange numFormatsWrong)

/-- 'slotcodelaw01.NumExtends': WHATEVER THE INPUT: true; the input reads as it did. -/
def numExtendsSpec : ChangeSpec := { name := "numExtends", fn := fun _ => fun
  | [d1, d2] => { results := [.lit (.bool true)], args := [d1, d2] }
  | _ => none }
def numExtendsRow : OpenClaim := { program := "ythahmmmkojeddaadoor", sum := "5259f1bb42b3585ecc97f4272a2732164ec88f3614611ed1339000a3388a16e1", func := "slotcode/slotcodelaw01.NumExtends", spec := "numExtends", inPlace := ["internal/abi.NoEscape"], unfollowed := true, recurses := true, named := ["slotcode/num.widths", "internal/strconv.uint64pow10", "math/bits.deBruijn32tab", "math/bits.deBruijn64tab"], apart := false, laid := [("math/bits.deBruijn32tab", laid_math_bits_deBruijn32tab), ("math/bits.deBruijn64tab", laid_math_bits_deBruijn64tab), ("internal/strconv.uint64pow10", laid_internal_strconv_uint64pow10), ("slotcode/num.widths", laid_slotcode_num_widths)] }
def NumExtendsSaid : Prop := numExtendsRow.holds Tryd.pinned (OpenSpec.ofChange numExtendsSpec)

/-- ITS FALSE NEIGHBOUR: 'it returns false'. Refute it at one input. -/
def numExtendsWrong : ChangeSpec := { name := "numExtends", fn := fun _ => fun
  | [d1, d2] => { results := [.lit (.bool false)], args := [d1, d2] }
  | _ => none }
def NumExtendsWrongFalsely : Prop := numExtendsRow.holds Tryd.pinned (OpenSpec.ofChange numExtendsWrong)

/-- 'slotcodelaw01.NumFits': WHATEVER THE INPUT: true; the input reads as it did. -/
def numFitsSpec : ChangeSpec := { name := "numFits", fn := fun _ => fun
  | [d1, d2] => { results := [.lit (.bool true)], args := [d1, d2] }
  | _ => none }
def numFitsRow : OpenClaim := { program := "ythahmmmkojeddaadoor", sum := "5259f1bb42b3585ecc97f4272a2732164ec88f3614611ed1339000a3388a16e1", func := "slotcode/slotcodelaw01.NumFits", spec := "numFits", inPlace := ["internal/abi.NoEscape"], unfollowed := true, recurses := true, named := ["slotcode/num.widths", "internal/strconv.uint64pow10", "math/bits.deBruijn32tab", "math/bits.deBruijn64tab"], apart := false, laid := [("math/bits.deBruijn32tab", laid_math_bits_deBruijn32tab), ("math/bits.deBruijn64tab", laid_math_bits_deBruijn64tab), ("internal/strconv.uint64pow10", laid_internal_strconv_uint64pow10), ("slotcode/num.widths", laid_slotcode_num_widths)] }
def NumFitsSaid : Prop := numFitsRow.holds Tryd.pinned (OpenSpec.ofChange numFitsSpec)

/-- ITS FALSE NEIGHBOUR: 'it returns false'. Refute it at one input. -/
def numFitsWrong : ChangeSpec := { name := "numFits", fn := fun _ => fun
  | [d1, d2] => { results := [.lit (.bool false)], args := [d1, d2] }
  | _ => none }
def NumFitsWrongFalsely : Prop := numFitsRow.holds Tryd.pinned (OpenSpec.ofChange numFitsWrong)

/-- 'slotcodelaw01.NumHexes': WHATEVER THE INPUT: true; the input reads as it did. -/
def numHexesSpec : ChangeSpec := { name := "numHexes", fn := fun _ => fun
  | [d] => { results := [.lit (.bool true)], args := [d] }
  | _ => none }
def numHexesRow : OpenClaim := { program := "ythahmmmkojeddaadoor", sum := "5259f1bb42b3585ecc97f4272a2732164ec88f3614611ed1339000a3388a16e1", func := "slotcode/slotcodelaw01.NumHexes", spec := "numHexes", inPlace := ["internal/abi.NoEscape", "internal/bytealg.IndexByteString", "internal/bytealg.IndexString"], unfollowed := true, recurses := true, named := ["slotcode/num.widths", "internal/strconv.uint64pow10", "math/bits.deBruijn32tab", "math/bits.deBruijn64tab", "internal/bytealg.MaxLen"], apart := false, laid := [("math/bits.deBruijn32tab", laid_math_bits_deBruijn32tab), ("math/bits.deBruijn64tab", laid_math_bits_deBruijn64tab), ("internal/strconv.uint64pow10", laid_internal_strconv_uint64pow10), ("slotcode/num.widths", laid_slotcode_num_widths)] }
def NumHexesSaid : Prop := numHexesRow.holds Tryd.pinned (OpenSpec.ofChange numHexesSpec)

/-- ITS FALSE NEIGHBOUR: 'it returns false'. Refute it at one input. -/
def numHexesWrong : ChangeSpec := { name := "numHexes", fn := fun _ => fun
  | [d] => { results := [.lit (.bool false)], args := [d] }
  | _ => none }
def NumHexesWrongFalsely : Prop := numHexesRow.holds Tryd.pinned (OpenSpec.ofChange numHexesWrong)

/-- 'slotcodelaw01.NumUnhexes': WHATEVER THE INPUT: true; the input reads as it did. -/
def numUnhexesSpec : ChangeSpec := { name := "numUnhexes", fn := fun _ => fun
  | [d] => { results := [.lit (.bool true)], args := [d] }
  | _ => none }
def numUnhexesRow : OpenClaim := { program := "ythahmmmkojeddaadoor", sum := "5259f1bb42b3585ecc97f4272a2732164ec88f3614611ed1339000a3388a16e1", func := "slotcode/slotcodelaw01.NumUnhexes", spec := "numUnhexes", inPlace := ["internal/abi.NoEscape", "internal/bytealg.IndexByteString", "internal/bytealg.IndexString"], unfollowed := true, recurses := true, named := ["slotcode/num.widths", "internal/strconv.uint64pow10", "math/bits.deBruijn32tab", "math/bits.deBruijn64tab", "internal/bytealg.MaxLen"], apart := false, laid := [("math/bits.deBruijn32tab", laid_math_bits_deBruijn32tab), ("math/bits.deBruijn64tab", laid_math_bits_deBruijn64tab), ("internal/strconv.uint64pow10", laid_internal_strconv_uint64pow10), ("slotcode/num.widths", laid_slotcode_num_widths)] }
def NumUnhexesSaid : Prop := numUnhexesRow.holds Tryd.pinned (OpenSpec.ofChange numUnhexesSpec)

/-- ITS FALSE NEIGHBOUR: 'it returns false'. Refute it at one input. -/
def numUnhexesWrong : ChangeSpec := { name := "numUnhexes", fn := fun _ => fun
  | [d] => { results := [.lit (.bool false)], args := [d] }
  | _ => none }
def NumUnhexesWrongFalsely : Prop := numUnhexesRow.holds Tryd.pinned (OpenSpec.ofChange numUnhexesWrong)

/- THE SECOND FORM. 'bulk': how many values and letters a reading holds, each counted each time it is reached (what is shared counts as often as it is met; a slice's spare places count too). A statement '..UptoSaid' is the law's where the arguments, and the package variables that the reading takes, are together of bulk at most 1048576: NARROWER than '..Said'. Prove '..Said' where nothing that the law and all that it calls make is longer than what came in: it says more and counts as full. Else prove '..UptoSaid'. A law counts once. -/
mutual
def uptoBulk {H : Type} : DataW H → Nat
  | .lit (.string bytes) => bytes.length + 1
  | .lit _ => 1
  | .nil => 1
  | .ptr d => uptoBulk d + 1
  | .slice elems spare => uptoBulkAll elems + uptoBulkAll spare + 1
  | .agg parts => uptoBulkAll parts + 1
  | .iface _ d => uptoBulk d + 1
  | .map entries => uptoBulkEntries entries + 1
  | .held _ => 1
def uptoBulkAll {H : Type} : List (DataW H) → Nat
  | [] => 0
  | d :: r => uptoBulk d + uptoBulkAll r
def uptoBulkEntries {H : Type} : List (Lit × DataW H) → Nat
  | [] => 0
  | x :: r => uptoBulkEntry x + uptoBulkEntries r
def uptoBulkEntry {H : Type} : Lit × DataW H → Nat
  | (.string bytes, d) => bytes.length + uptoBulk d + 1
  | (_, d) => uptoBulk d + 1
 end
def uptoSmall : (H : Type) → List (DataW H) → Bool := fun _ ds => decide (uptoBulkAll ds ≤ 1048576)
def OpenSpec.upto (s : _root_.Go.ChangeSpec) : _root_.Go.OpenSpec := { _root_.Go.OpenSpec.ofChange s with cond := some uptoSmall }

/-- 'slotcodelaw01.NumParses', WHERE WHAT IT READS IS OF BULK AT MOST 1048576: true; the input reads as it did. -/
def numParsesUptoRow : OpenClaim := { program := "ythahmmmkojeddaadoor", sum := "5259f1bb42b3585ecc97f4272a2732164ec88f3614611ed1339000a3388a16e1", func := "slotcode/slotcodelaw01.NumParses", spec := "numParses", inPlace := ["internal/abi.NoEscape"], unfollowed := true, recurses := true, named := ["slotcode/num.widths", "internal/strconv.uint64pow10", "math/bits.deBruijn32tab", "math/bits.deBruijn64tab"], apart := false, laid := [("math/bits.deBruijn32tab", laid_math_bits_deBruijn32tab), ("math/bits.deBruijn64tab", laid_math_bits_deBruijn64tab), ("internal/strconv.uint64pow10", laid_internal_strconv_uint64pow10), ("slotcode/num.widths", laid_slotcode_num_widths)], narrowed := true }
def NumParsesUptoSaid : Prop := numParsesUptoRow.holds Tryd.pinned (OpenSpec.upto numParsesSpec)

/-- 'slotcodelaw01.NumFormats', WHERE WHAT IT READS IS OF BULK AT MOST 1048576: true; the input reads as it did. -/
def numFormatsUptoRow : OpenClaim := { program := "ythahmmmkojeddaadoor", sum := "5259f1bb42b3585ecc97f4272a2732164ec88f3614611ed1339000a3388a16e1", func := "slotcode/slotcodelaw01.NumFormats", spec := "numFormats", inPlace := ["internal/abi.NoEscape"], unfollowed := true, recurses := true, named := ["internal/strconv.uint64pow10", "math/bits.deBruijn32tab", "math/bits.deBruijn64tab", "slotcode/num.widths"], apart := false, laid := [("math/bits.deBruijn32tab", laid_math_bits_deBruijn32tab), ("math/bits.deBruijn64tab", laid_math_bits_deBruijn64tab), ("internal/strconv.uint64pow10", laid_internal_strconv_uint64pow10), ("slotcode/num.widths", laid_slotcode_num_widths)], narrowed := true }
def NumFormatsUptoSaid : Prop := numFormatsUptoRow.holds Tryd.pinned (OpenSpec.upto numFormatsSpec)

/-- 'slotcodelaw01.NumExtends', WHERE WHAT IT READS IS OF BULK AT MOST 1048576: true; the input reads as it did. -/
def numExtendsUptoRow : OpenClaim := { program := "ythahmmmkojeddaadoor", sum := "5259f1bb42b3585ecc97f4272a2732164ec88f3614611ed1339000a3388a16e1", func := "slotcode/slotcodelaw01.NumExtends", spec := "numExtends", inPlace := ["internal/abi.NoEscape"], unfollowed := true, recurses := true, named := ["slotcode/num.widths", "internal/strconv.uint64pow10", "math/bits.deBruijn32tab", "math/bits.deBruijn64tab"], apart := false, laid := [("math/bits.deBruijn32tab", laid_math_bits_deBruijn32tab), ("math/bits.deBruijn64tab", laid_math_bits_deBruijn64tab), ("internal/strconv.uint64pow10", laid_internal_strconv_uint64pow10), ("slotcode/num.widths", laid_slotcode_num_widths)], narrowed := true }
def NumExtendsUptoSaid : Prop := numExtendsUptoRow.holds Tryd.pinned (OpenSpec.upto numExtendsSpec)

/-- 'slotcodelaw01.NumFits', WHERE WHAT IT READS IS OF BULK AT MOST 1048576: true; the input reads as it did. -/
def numFitsUptoRow : OpenClaim := { program := "ythahmmmkojeddaadoor", sum := "5259f1bb42b3585ecc97f4272a2732164ec88f3614611ed1339000a3388a16e1", func := "slotcode/slotcodelaw01.NumFits", spec := "numFits", inPlace := ["internal/abi.NoEscape"], unfollowed := true, recurses := true, named := ["slotcode/num.widths", "internal/strconv.uint64pow10", "math/bits.deBruijn32tab", "math/bits.deBruijn64tab"], apart := false, laid := [("math/bits.deBruijn32tab", laid_math_bits_deBruijn32tab), ("math/bits.deBruijn64tab", laid_math_bits_deBruijn64tab), ("internal/strconv.uint64pow10", laid_internal_strconv_uint64pow10), ("slotcode/num.widths", laid_slotcode_num_widths)], narrowed := true }
def NumFitsUptoSaid : Prop := numFitsUptoRow.holds Tryd.pinned (OpenSpec.upto numFitsSpec)

/-- 'slotcodelaw01.NumHexes', WHERE WHAT IT READS IS OF BULK AT MOST 1048576: true; the input reads as it did. -/
def numHexesUptoRow : OpenClaim := { program := "ythahmmmkojeddaadoor", sum := "5259f1bb42b3585ecc97f4272a2732164ec88f3614611ed1339000a3388a16e1", func := "slotcode/slotcodelaw01.NumHexes", spec := "numHexes", inPlace := ["internal/abi.NoEscape", "internal/bytealg.IndexByteString", "internal/bytealg.IndexString"], unfollowed := true, recurses := true, named := ["slotcode/num.widths", "internal/strconv.uint64pow10", "math/bits.deBruijn32tab", "math/bits.deBruijn64tab", "internal/bytealg.MaxLen"], apart := false, laid := [("math/bits.deBruijn32tab", laid_math_bits_deBruijn32tab), ("math/bits.deBruijn64tab", laid_math_bits_deBruijn64tab), ("internal/strconv.uint64pow10", laid_internal_strconv_uint64pow10), ("slotcode/num.widths", laid_slotcode_num_widths)], narrowed := true }
def NumHexesUptoSaid : Prop := numHexesUptoRow.holds Tryd.pinned (OpenSpec.upto numHexesSpec)

/-- 'slotcodelaw01.NumUnhexes', WHERE WHAT IT READS IS OF BULK AT MOST 1048576: true; the input reads as it did. -/
def numUnhexesUptoRow : OpenClaim := { program := "ythahmmmkojeddaadoor", sum := "5259f1bb42b3585ecc97f4272a2732164ec88f3614611ed1339000a3388a16e1", func := "slotcode/slotcodelaw01.NumUnhexes", spec := "numUnhexes", inPlace := ["internal/abi.NoEscape", "internal/bytealg.IndexByteString", "internal/bytealg.IndexString"], unfollowed := true, recurses := true, named := ["slotcode/num.widths", "internal/strconv.uint64pow10", "math/bits.deBruijn32tab", "math/bits.deBruijn64tab", "internal/bytealg.MaxLen"], apart := false, laid := [("math/bits.deBruijn32tab", laid_math_bits_deBruijn32tab), ("math/bits.deBruijn64tab", laid_math_bits_deBruijn64tab), ("internal/strconv.uint64pow10", laid_internal_strconv_uint64pow10), ("slotcode/num.widths", laid_slotcode_num_widths)], narrowed := true }
def NumUnhexesUptoSaid : Prop := numUnhexesUptoRow.holds Tryd.pinned (OpenSpec.upto numUnhexesSpec)

end Rows
end Go.Proofs.YthahmmmkojeddaaDoor
