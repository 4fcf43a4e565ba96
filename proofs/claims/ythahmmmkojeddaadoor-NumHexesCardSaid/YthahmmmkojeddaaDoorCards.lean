/-
  DERIVED. GIVEN WITH THE SEED: THE CARDS: each row of YthahmmmkojeddaaDoorRows.lean that lists a variable, with what it lists TIED to the program's text (the seventh form; the later family's looks); each row that meets fmt, with fmt's text TOLD by the authors' own Lean function (tested against real Go, not proved from fmt's source: count such statements apart). THE CARD IS WHAT COUNTS. Prove the row's statement (the work); the ties are given (YthahmmmkojeddaaDoorTie.lean); close each card by the builder's one call (the guide's Derived/Test/ToyasCard.lean, 'card_holds'). Laid BY PROGRAM, IN A SANDBOX (cutbox-door.mjs). By AI agents, Wed Nov 11 2026. No macro, syntax, notation, axiom, sorry.
-/
import Derived.Test.YthahmmmkojeddaaDoorRows
import GoSem.ClaimSeven
namespace Go.Proofs.YthahmmmkojeddaaDoor
namespace Rows

/-- THE TIED CARD OF 'slotcodelaw01.NumParses'. -/
def numParsesCard : Claim7 := { stood := { row := numParsesRow, standIns := [], harness := (true, "438510f75264866513c6cd0ce8b4680d9c49d19c4728727372554e180f14e6bb"), looks := false }, kinds := [], alts := [], laidByText := true, laidKinds := [.data, .data, .data, .widerDeep], laidTests := true, laidLooks := .later }
def NumParsesCardSaid : Prop := Claim7.holds Tryd.pinned (.plain (OpenSpec.ofChange numParsesSpec)) numParsesCard

/-- THE TIED CARD OF 'slotcodelaw01.NumFormats'. -/
def numFormatsCard : Claim7 := { stood := { row := numFormatsRow, standIns := [], harness := (true, "438510f75264866513c6cd0ce8b4680d9c49d19c4728727372554e180f14e6bb"), looks := false }, kinds := [], alts := [], laidByText := true, laidKinds := [.data, .data, .data, .widerDeep], laidTests := true, laidLooks := .later }
def NumFormatsCardSaid : Prop := Claim7.holds Tryd.pinned (.plain (OpenSpec.ofChange numFormatsSpec)) numFormatsCard

/-- THE TIED CARD OF 'slotcodelaw01.NumExtends'. -/
def numExtendsCard : Claim7 := { stood := { row := numExtendsRow, standIns := [], harness := (true, "438510f75264866513c6cd0ce8b4680d9c49d19c4728727372554e180f14e6bb"), looks := false }, kinds := [], alts := [], laidByText := true, laidKinds := [.data, .data, .data, .widerDeep], laidTests := true, laidLooks := .later }
def NumExtendsCardSaid : Prop := Claim7.holds Tryd.pinned (.plain (OpenSpec.ofChange numExtendsSpec)) numExtendsCard

/-- THE TIED CARD OF 'slotcodelaw01.NumFits'. -/
def numFitsCard : Claim7 := { stood := { row := numFitsRow, standIns := [], harness := (true, "438510f75264866513c6cd0ce8b4680d9c49d19c4728727372554e180f14e6bb"), looks := false }, kinds := [], alts := [], laidByText := true, laidKinds := [.data, .data, .data, .widerDeep], laidTests := true, laidLooks := .later }
def NumFitsCardSaid : Prop := Claim7.holds Tryd.pinned (.plain (OpenSpec.ofChange numFitsSpec)) numFitsCard

/-- THE TIED CARD OF 'slotcodelaw01.NumHexes'. -/
def numHexesCard : Claim7 := { stood := { row := numHexesRow, standIns := [], harness := (true, "438510f75264866513c6cd0ce8b4680d9c49d19c4728727372554e180f14e6bb"), looks := false }, kinds := [], alts := [], laidByText := true, laidKinds := [.data, .data, .data, .widerDeep], laidTests := true, laidLooks := .later }
def NumHexesCardSaid : Prop := Claim7.holds Tryd.pinned (.plain (OpenSpec.ofChange numHexesSpec)) numHexesCard

/-- THE TIED CARD OF 'slotcodelaw01.NumUnhexes'. -/
def numUnhexesCard : Claim7 := { stood := { row := numUnhexesRow, standIns := [], harness := (true, "438510f75264866513c6cd0ce8b4680d9c49d19c4728727372554e180f14e6bb"), looks := false }, kinds := [], alts := [], laidByText := true, laidKinds := [.data, .data, .data, .widerDeep], laidTests := true, laidLooks := .later }
def NumUnhexesCardSaid : Prop := Claim7.holds Tryd.pinned (.plain (OpenSpec.ofChange numUnhexesSpec)) numUnhexesCard

/-- THE SECOND FORM's CARD OF 'slotcodelaw01.NumParses'. -/
def numParsesUptoCard : Claim7 := { stood := { row := numParsesUptoRow, standIns := [], harness := (true, "438510f75264866513c6cd0ce8b4680d9c49d19c4728727372554e180f14e6bb"), looks := false }, kinds := [], alts := [], laidByText := true, laidKinds := [.data, .data, .data, .widerDeep], laidTests := true, laidLooks := .later }
def NumParsesUptoCardSaid : Prop := Claim7.holds Tryd.pinned (.plain (OpenSpec.upto numParsesSpec)) numParsesUptoCard

/-- THE SECOND FORM's CARD OF 'slotcodelaw01.NumFormats'. -/
def numFormatsUptoCard : Claim7 := { stood := { row := numFormatsUptoRow, standIns := [], harness := (true, "438510f75264866513c6cd0ce8b4680d9c49d19c4728727372554e180f14e6bb"), looks := false }, kinds := [], alts := [], laidByText := true, laidKinds := [.data, .data, .data, .widerDeep], laidTests := true, laidLooks := .later }
def NumFormatsUptoCardSaid : Prop := Claim7.holds Tryd.pinned (.plain (OpenSpec.upto numFormatsSpec)) numFormatsUptoCard

/-- THE SECOND FORM's CARD OF 'slotcodelaw01.NumExtends'. -/
def numExtendsUptoCard : Claim7 := { stood := { row := numExtendsUptoRow, standIns := [], harness := (true, "438510f75264866513c6cd0ce8b4680d9c49d19c4728727372554e180f14e6bb"), looks := false }, kinds := [], alts := [], laidByText := true, laidKinds := [.data, .data, .data, .widerDeep], laidTests := true, laidLooks := .later }
def NumExtendsUptoCardSaid : Prop := Claim7.holds Tryd.pinned (.plain (OpenSpec.upto numExtendsSpec)) numExtendsUptoCard

/-- THE SECOND FORM's CARD OF 'slotcodelaw01.NumFits'. -/
def numFitsUptoCard : Claim7 := { stood := { row := numFitsUptoRow, standIns := [], harness := (true, "438510f75264866513c6cd0ce8b4680d9c49d19c4728727372554e180f14e6bb"), looks := false }, kinds := [], alts := [], laidByText := true, laidKinds := [.data, .data, .data, .widerDeep], laidTests := true, laidLooks := .later }
def NumFitsUptoCardSaid : Prop := Claim7.holds Tryd.pinned (.plain (OpenSpec.upto numFitsSpec)) numFitsUptoCard

/-- THE SECOND FORM's CARD OF 'slotcodelaw01.NumHexes'. -/
def numHexesUptoCard : Claim7 := { stood := { row := numHexesUptoRow, standIns := [], harness := (true, "438510f75264866513c6cd0ce8b4680d9c49d19c4728727372554e180f14e6bb"), looks := false }, kinds := [], alts := [], laidByText := true, laidKinds := [.data, .data, .data, .widerDeep], laidTests := true, laidLooks := .later }
def NumHexesUptoCardSaid : Prop := Claim7.holds Tryd.pinned (.plain (OpenSpec.upto numHexesSpec)) numHexesUptoCard

/-- THE SECOND FORM's CARD OF 'slotcodelaw01.NumUnhexes'. -/
def numUnhexesUptoCard : Claim7 := { stood := { row := numUnhexesUptoRow, standIns := [], harness := (true, "438510f75264866513c6cd0ce8b4680d9c49d19c4728727372554e180f14e6bb"), looks := false }, kinds := [], alts := [], laidByText := true, laidKinds := [.data, .data, .data, .widerDeep], laidTests := true, laidLooks := .later }
def NumUnhexesUptoCardSaid : Prop := Claim7.holds Tryd.pinned (.plain (OpenSpec.upto numUnhexesSpec)) numUnhexesUptoCard
end Rows
end Go.Proofs.YthahmmmkojeddaaDoor
