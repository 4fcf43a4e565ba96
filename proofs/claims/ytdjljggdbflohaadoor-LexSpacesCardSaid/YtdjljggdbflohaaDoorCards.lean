/-
  DERIVED. GIVEN WITH THE SEED: THE CARDS: each row of YtdjljggdbflohaaDoorRows.lean that lists a variable, with what it lists TIED to the program's text (the seventh form; the later family's looks); each row that meets fmt, with fmt's text TOLD by the authors' own Lean function (tested against real Go, not proved from fmt's source: count such statements apart). THE CARD IS WHAT COUNTS. Prove the row's statement (the work); the ties are given (YtdjljggdbflohaaDoorTie.lean); close each card by the builder's one call (the guide's Derived/Test/ToyasCard.lean, 'card_holds'). Laid BY PROGRAM, IN A SANDBOX (cutbox-door.mjs). By AI agents, Wed Nov 11 2026. No macro, syntax, notation, axiom, sorry.
-/
import Derived.Test.YtdjljggdbflohaaDoorRows
import GoSem.ClaimSeven
namespace Go.Proofs.YtdjljggdbflohaaDoor
namespace Rows

/-- THE TIED CARD OF 'slotcodelaw08.LexTokens'. -/
def lexTokensCard : Claim7 := { stood := { row := lexTokensRow, standIns := [], harness := (true, "1ae99c6f458f87a20ff712c73df54faeb4309efacaff3622c11c3f4d90f2064f"), looks := false }, kinds := [], alts := [], laidByText := true, laidKinds := [.data, .pinned, .pinned], laidTests := true, laidLooks := .later }
def LexTokensCardSaid : Prop := Claim7.holds Tryd.pinned (.plain (OpenSpec.ofChange lexTokensSpec)) lexTokensCard

/-- THE TIED CARD OF 'slotcodelaw08.LexShapes'. -/
def lexShapesCard : Claim7 := { stood := { row := lexShapesRow, standIns := [], harness := (true, "1ae99c6f458f87a20ff712c73df54faeb4309efacaff3622c11c3f4d90f2064f"), looks := false }, kinds := [], alts := [], laidByText := true, laidKinds := [.data, .pinned, .pinned], laidTests := true, laidLooks := .later }
def LexShapesCardSaid : Prop := Claim7.holds Tryd.pinned (.plain (OpenSpec.ofChange lexShapesSpec)) lexShapesCard

/-- THE TIED CARD OF 'slotcodelaw08.LexLines'. -/
def lexLinesCard : Claim7 := { stood := { row := lexLinesRow, standIns := [], harness := (true, "1ae99c6f458f87a20ff712c73df54faeb4309efacaff3622c11c3f4d90f2064f"), looks := false }, kinds := [], alts := [], laidByText := true, laidKinds := [.data, .pinned, .pinned], laidTests := true, laidLooks := .later }
def LexLinesCardSaid : Prop := Claim7.holds Tryd.pinned (.plain (OpenSpec.ofChange lexLinesSpec)) lexLinesCard

/-- THE TIED CARD OF 'slotcodelaw08.LexPlaces'. -/
def lexPlacesCard : Claim7 := { stood := { row := lexPlacesRow, standIns := [], harness := (true, "1ae99c6f458f87a20ff712c73df54faeb4309efacaff3622c11c3f4d90f2064f"), looks := false }, kinds := [], alts := [], laidByText := true, laidKinds := [.data, .pinned, .pinned], laidTests := true, laidLooks := .later }
def LexPlacesCardSaid : Prop := Claim7.holds Tryd.pinned (.plain (OpenSpec.ofChange lexPlacesSpec)) lexPlacesCard

/-- THE TIED CARD OF 'slotcodelaw08.LexWords'. -/
def lexWordsCard : Claim7 := { stood := { row := lexWordsRow, standIns := [], harness := (true, "1ae99c6f458f87a20ff712c73df54faeb4309efacaff3622c11c3f4d90f2064f"), looks := false }, kinds := [], alts := [], laidByText := true, laidKinds := [.data, .pinned, .pinned], laidTests := true, laidLooks := .later }
def LexWordsCardSaid : Prop := Claim7.holds Tryd.pinned (.plain (OpenSpec.ofChange lexWordsSpec)) lexWordsCard

/-- THE TIED CARD OF 'slotcodelaw08.LexSpaces'. -/
def lexSpacesCard : Claim7 := { stood := { row := lexSpacesRow, standIns := [], harness := (true, "1ae99c6f458f87a20ff712c73df54faeb4309efacaff3622c11c3f4d90f2064f"), looks := false }, kinds := [], alts := [], laidByText := true, laidKinds := [.data, .pinned, .pinned], laidTests := true, laidLooks := .later }
def LexSpacesCardSaid : Prop := Claim7.holds Tryd.pinned (.plain (OpenSpec.ofChange lexSpacesSpec)) lexSpacesCard

/-- THE SECOND FORM's CARD OF 'slotcodelaw08.LexTokens'. -/
def lexTokensUptoCard : Claim7 := { stood := { row := lexTokensUptoRow, standIns := [], harness := (true, "1ae99c6f458f87a20ff712c73df54faeb4309efacaff3622c11c3f4d90f2064f"), looks := false }, kinds := [], alts := [], laidByText := true, laidKinds := [.data, .pinned, .pinned], laidTests := true, laidLooks := .later }
def LexTokensUptoCardSaid : Prop := Claim7.holds Tryd.pinned (.plain (OpenSpec.upto lexTokensSpec)) lexTokensUptoCard

/-- THE SECOND FORM's CARD OF 'slotcodelaw08.LexShapes'. -/
def lexShapesUptoCard : Claim7 := { stood := { row := lexShapesUptoRow, standIns := [], harness := (true, "1ae99c6f458f87a20ff712c73df54faeb4309efacaff3622c11c3f4d90f2064f"), looks := false }, kinds := [], alts := [], laidByText := true, laidKinds := [.data, .pinned, .pinned], laidTests := true, laidLooks := .later }
def LexShapesUptoCardSaid : Prop := Claim7.holds Tryd.pinned (.plain (OpenSpec.upto lexShapesSpec)) lexShapesUptoCard

/-- THE SECOND FORM's CARD OF 'slotcodelaw08.LexLines'. -/
def lexLinesUptoCard : Claim7 := { stood := { row := lexLinesUptoRow, standIns := [], harness := (true, "1ae99c6f458f87a20ff712c73df54faeb4309efacaff3622c11c3f4d90f2064f"), looks := false }, kinds := [], alts := [], laidByText := true, laidKinds := [.data, .pinned, .pinned], laidTests := true, laidLooks := .later }
def LexLinesUptoCardSaid : Prop := Claim7.holds Tryd.pinned (.plain (OpenSpec.upto lexLinesSpec)) lexLinesUptoCard

/-- THE SECOND FORM's CARD OF 'slotcodelaw08.LexPlaces'. -/
def lexPlacesUptoCard : Claim7 := { stood := { row := lexPlacesUptoRow, standIns := [], harness := (true, "1ae99c6f458f87a20ff712c73df54faeb4309efacaff3622c11c3f4d90f2064f"), looks := false }, kinds := [], alts := [], laidByText := true, laidKinds := [.data, .pinned, .pinned], laidTests := true, laidLooks := .later }
def LexPlacesUptoCardSaid : Prop := Claim7.holds Tryd.pinned (.plain (OpenSpec.upto lexPlacesSpec)) lexPlacesUptoCard

/-- THE SECOND FORM's CARD OF 'slotcodelaw08.LexWords'. -/
def lexWordsUptoCard : Claim7 := { stood := { row := lexWordsUptoRow, standIns := [], harness := (true, "1ae99c6f458f87a20ff712c73df54faeb4309efacaff3622c11c3f4d90f2064f"), looks := false }, kinds := [], alts := [], laidByText := true, laidKinds := [.data, .pinned, .pinned], laidTests := true, laidLooks := .later }
def LexWordsUptoCardSaid : Prop := Claim7.holds Tryd.pinned (.plain (OpenSpec.upto lexWordsSpec)) lexWordsUptoCard

/-- THE SECOND FORM's CARD OF 'slotcodelaw08.LexSpaces'. -/
def lexSpacesUptoCard : Claim7 := { stood := { row := lexSpacesUptoRow, standIns := [], harness := (true, "1ae99c6f458f87a20ff712c73df54faeb4309efacaff3622c11c3f4d90f2064f"), looks := false }, kinds := [], alts := [], laidByText := true, laidKinds := [.data, .pinned, .pinned], laidTests := true, laidLooks := .later }
def LexSpacesUptoCardSaid : Prop := Claim7.holds Tryd.pinned (.plain (OpenSpec.upto lexSpacesSpec)) lexSpacesUptoCard
end Rows
end Go.Proofs.YtdjljggdbflohaaDoor
