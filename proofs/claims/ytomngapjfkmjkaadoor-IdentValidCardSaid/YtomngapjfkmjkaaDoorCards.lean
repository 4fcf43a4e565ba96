/-
  DERIVED. GIVEN WITH THE SEED: THE CARDS: each row of YtomngapjfkmjkaaDoorRows.lean that lists a variable, with what it lists TIED to the program's text (the seventh form; the later family's looks); each row that meets fmt, with fmt's text TOLD by the authors' own Lean function (tested against real Go, not proved from fmt's source: count such statements apart). THE CARD IS WHAT COUNTS. Prove the row's statement (the work); the ties are given (YtomngapjfkmjkaaDoorTie.lean); close each card by the builder's one call (the guide's Derived/Test/ToyasCard.lean, 'card_holds'). Laid BY PROGRAM, IN A SANDBOX (cutbox-door.mjs). By AI agents, Wed Nov 11 2026. No macro, syntax, notation, axiom, sorry.
-/
import Derived.Test.YtomngapjfkmjkaaDoorRows
import GoSem.ClaimSeven
namespace Go.Proofs.YtomngapjfkmjkaaDoor
namespace Rows

/-- THE TIED CARD OF 'slotcodelaw02.IdentValid'. -/
def identValidCard : Claim7 := { stood := { row := identValidRow, standIns := [], harness := (true, "102f28e580703f50a6d860e014890d5bce379d68c1190104418c6b987d1903a3"), looks := true }, kinds := [], alts := [], laidByText := true, laidKinds := [.data, .data, .data, .sentinel, .sentinel, .data, .pinned, .pinned], laidTests := true, laidLooks := .later }
def IdentValidCardSaid : Prop := Claim7.holds Tryd.pinned (.plain (OpenSpec.ofChange identValidSpec)) identValidCard

/-- THE TIED CARD OF 'slotcodelaw02.IdentRegisters'. -/
def identRegistersCard : Claim7 := { stood := { row := identRegistersRow, standIns := [], harness := (true, "102f28e580703f50a6d860e014890d5bce379d68c1190104418c6b987d1903a3"), looks := true }, kinds := [], alts := [], laidByText := true, laidKinds := [.data, .data, .data, .sentinel, .sentinel, .data, .pinned, .pinned], laidTests := true, laidLooks := .later }
def IdentRegistersCardSaid : Prop := Claim7.holds Tryd.pinned (.plain (OpenSpec.ofChange identRegistersSpec)) identRegistersCard

/-- THE TIED CARD OF 'slotcodelaw02.IdentFresh'. -/
def identFreshCard : Claim7 := { stood := { row := identFreshRow, standIns := [], harness := (true, "102f28e580703f50a6d860e014890d5bce379d68c1190104418c6b987d1903a3"), looks := true }, kinds := [], alts := [], laidByText := true, laidKinds := [.data, .data, .data, .sentinel, .sentinel, .data, .pinned, .pinned], laidTests := true, laidLooks := .later }
def IdentFreshCardSaid : Prop := Claim7.holds Tryd.pinned (.plain (OpenSpec.ofChange identFreshSpec)) identFreshCard

/-- THE TIED CARD OF 'slotcodelaw02.IdentRepeated'. -/
def identRepeatedCard : Claim7 := { stood := { row := identRepeatedRow, standIns := [], harness := (true, "102f28e580703f50a6d860e014890d5bce379d68c1190104418c6b987d1903a3"), looks := true }, kinds := [], alts := [], laidByText := true, laidKinds := [.data, .data, .data, .sentinel, .sentinel, .data, .pinned, .pinned], laidTests := true, laidLooks := .later }
def IdentRepeatedCardSaid : Prop := Claim7.holds Tryd.pinned (.plain (OpenSpec.ofChange identRepeatedSpec)) identRepeatedCard

/-- THE TIED CARD OF 'slotcodelaw02.IdentWords'. -/
def identWordsCard : Claim7 := { stood := { row := identWordsRow, standIns := [], harness := (true, "102f28e580703f50a6d860e014890d5bce379d68c1190104418c6b987d1903a3"), looks := true }, kinds := [], alts := [], laidByText := true, laidKinds := [.data, .data, .data, .sentinel, .sentinel, .data, .pinned, .pinned], laidTests := true, laidLooks := .later }
def IdentWordsCardSaid : Prop := Claim7.holds Tryd.pinned (.plain (OpenSpec.ofChange identWordsSpec)) identWordsCard

/-- THE TIED CARD OF 'slotcodelaw02.IdentJoins'. -/
def identJoinsCard : Claim7 := { stood := { row := identJoinsRow, standIns := [], harness := (true, "102f28e580703f50a6d860e014890d5bce379d68c1190104418c6b987d1903a3"), looks := true }, kinds := [], alts := [], laidByText := true, laidKinds := [.data, .data, .data, .sentinel, .sentinel, .data, .pinned, .pinned], laidTests := true, laidLooks := .later }
def IdentJoinsCardSaid : Prop := Claim7.holds Tryd.pinned (.plain (OpenSpec.ofChange identJoinsSpec)) identJoinsCard

/-- THE SECOND FORM's CARD OF 'slotcodelaw02.IdentValid'. -/
def identValidUptoCard : Claim7 := { stood := { row := identValidUptoRow, standIns := [], harness := (true, "102f28e580703f50a6d860e014890d5bce379d68c1190104418c6b987d1903a3"), looks := true }, kinds := [], alts := [], laidByText := true, laidKinds := [.data, .data, .data, .sentinel, .sentinel, .data, .pinned, .pinned], laidTests := true, laidLooks := .later }
def IdentValidUptoCardSaid : Prop := Claim7.holds Tryd.pinned (.plain (OpenSpec.upto identValidSpec)) identValidUptoCard

/-- THE SECOND FORM's CARD OF 'slotcodelaw02.IdentRegisters'. -/
def identRegistersUptoCard : Claim7 := { stood := { row := identRegistersUptoRow, standIns := [], harness := (true, "102f28e580703f50a6d860e014890d5bce379d68c1190104418c6b987d1903a3"), looks := true }, kinds := [], alts := [], laidByText := true, laidKinds := [.data, .data, .data, .sentinel, .sentinel, .data, .pinned, .pinned], laidTests := true, laidLooks := .later }
def IdentRegistersUptoCardSaid : Prop := Claim7.holds Tryd.pinned (.plain (OpenSpec.upto identRegistersSpec)) identRegistersUptoCard

/-- THE SECOND FORM's CARD OF 'slotcodelaw02.IdentFresh'. -/
def identFreshUptoCard : Claim7 := { stood := { row := identFreshUptoRow, standIns := [], harness := (true, "102f28e580703f50a6d860e014890d5bce379d68c1190104418c6b987d1903a3"), looks := true }, kinds := [], alts := [], laidByText := true, laidKinds := [.data, .data, .data, .sentinel, .sentinel, .data, .pinned, .pinned], laidTests := true, laidLooks := .later }
def IdentFreshUptoCardSaid : Prop := Claim7.holds Tryd.pinned (.plain (OpenSpec.upto identFreshSpec)) identFreshUptoCard

/-- THE SECOND FORM's CARD OF 'slotcodelaw02.IdentRepeated'. -/
def identRepeatedUptoCard : Claim7 := { stood := { row := identRepeatedUptoRow, standIns := [], harness := (true, "102f28e580703f50a6d860e014890d5bce379d68c1190104418c6b987d1903a3"), looks := true }, kinds := [], alts := [], laidByText := true, laidKinds := [.data, .data, .data, .sentinel, .sentinel, .data, .pinned, .pinned], laidTests := true, laidLooks := .later }
def IdentRepeatedUptoCardSaid : Prop := Claim7.holds Tryd.pinned (.plain (OpenSpec.upto identRepeatedSpec)) identRepeatedUptoCard

/-- THE SECOND FORM's CARD OF 'slotcodelaw02.IdentWords'. -/
def identWordsUptoCard : Claim7 := { stood := { row := identWordsUptoRow, standIns := [], harness := (true, "102f28e580703f50a6d860e014890d5bce379d68c1190104418c6b987d1903a3"), looks := true }, kinds := [], alts := [], laidByText := true, laidKinds := [.data, .data, .data, .sentinel, .sentinel, .data, .pinned, .pinned], laidTests := true, laidLooks := .later }
def IdentWordsUptoCardSaid : Prop := Claim7.holds Tryd.pinned (.plain (OpenSpec.upto identWordsSpec)) identWordsUptoCard

/-- THE SECOND FORM's CARD OF 'slotcodelaw02.IdentJoins'. -/
def identJoinsUptoCard : Claim7 := { stood := { row := identJoinsUptoRow, standIns := [], harness := (true, "102f28e580703f50a6d860e014890d5bce379d68c1190104418c6b987d1903a3"), looks := true }, kinds := [], alts := [], laidByText := true, laidKinds := [.data, .data, .data, .sentinel, .sentinel, .data, .pinned, .pinned], laidTests := true, laidLooks := .later }
def IdentJoinsUptoCardSaid : Prop := Claim7.holds Tryd.pinned (.plain (OpenSpec.upto identJoinsSpec)) identJoinsUptoCard
end Rows
end Go.Proofs.YtomngapjfkmjkaaDoor
