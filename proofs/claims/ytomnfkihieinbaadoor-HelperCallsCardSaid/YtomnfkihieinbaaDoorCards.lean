/-
  DERIVED. GIVEN WITH THE SEED: THE CARDS: each row of YtomnfkihieinbaaDoorRows.lean that lists a variable, with what it lists TIED to the program's text (the seventh form; the later family's looks); each row that meets fmt, with fmt's text TOLD by the authors' own Lean function (tested against real Go, not proved from fmt's source: count such statements apart). THE CARD IS WHAT COUNTS. Prove the row's statement (the work); the ties are given (YtomnfkihieinbaaDoorTie.lean); close each card by the builder's one call (the guide's Derived/Test/ToyasCard.lean, 'card_holds'). Laid BY PROGRAM, IN A SANDBOX (cutbox-door.mjs). By AI agents, Wed Nov 11 2026. No macro, syntax, notation, axiom, sorry.
-/
import Derived.Test.YtomnfkihieinbaaDoorRows
import GoSem.ClaimSeven
namespace Go.Proofs.YtomnfkihieinbaaDoor
namespace Rows

/-- THE TIED CARD OF 'slotcodelaw22.HelperValues'. -/
def helperValuesCard : Claim7 := { stood := { row := helperValuesRow, standIns := [], harness := (true, "45ba069f300b77818ff20f7c34d2be0543d5b4ca8ff1451b975a0c479bb7352a"), looks := false }, kinds := [], alts := [], laidByText := true, laidKinds := [.widerDeep], laidTests := true, laidLooks := .later }
def HelperValuesCardSaid : Prop := Claim7.holds Tryd.pinned (.plain (OpenSpec.ofChange helperValuesSpec)) helperValuesCard

/-- THE TIED CARD OF 'slotcodelaw22.HelperCalls'. -/
def helperCallsCard : Claim7 := { stood := { row := helperCallsRow, standIns := [], harness := (true, "45ba069f300b77818ff20f7c34d2be0543d5b4ca8ff1451b975a0c479bb7352a"), looks := false }, kinds := [], alts := [], laidByText := true, laidKinds := [.widerDeep], laidTests := true, laidLooks := .later }
def HelperCallsCardSaid : Prop := Claim7.holds Tryd.pinned (.plain (OpenSpec.ofChange helperCallsSpec)) helperCallsCard

/-- THE TIED CARD OF 'slotcodelaw22.HelperFinds'. -/
def helperFindsCard : Claim7 := { stood := { row := helperFindsRow, standIns := [], harness := (true, "45ba069f300b77818ff20f7c34d2be0543d5b4ca8ff1451b975a0c479bb7352a"), looks := false }, kinds := [], alts := [], laidByText := true, laidKinds := [.widerDeep], laidTests := true, laidLooks := .later }
def HelperFindsCardSaid : Prop := Claim7.holds Tryd.pinned (.plain (OpenSpec.ofChange helperFindsSpec)) helperFindsCard

/-- THE TIED CARD OF 'slotcodelaw22.HelperNames'. -/
def helperNamesCard : Claim7 := { stood := { row := helperNamesRow, standIns := [], harness := (true, "45ba069f300b77818ff20f7c34d2be0543d5b4ca8ff1451b975a0c479bb7352a"), looks := false }, kinds := [], alts := [], laidByText := true, laidKinds := [.widerDeep], laidTests := true, laidLooks := .later }
def HelperNamesCardSaid : Prop := Claim7.holds Tryd.pinned (.plain (OpenSpec.ofChange helperNamesSpec)) helperNamesCard

/-- THE TIED CARD OF 'slotcodelaw22.HelperFaults'. -/
def helperFaultsCard : Claim7 := { stood := { row := helperFaultsRow, standIns := [], harness := (true, "45ba069f300b77818ff20f7c34d2be0543d5b4ca8ff1451b975a0c479bb7352a"), looks := false }, kinds := [], alts := [], laidByText := true, laidKinds := [.widerDeep], laidTests := true, laidLooks := .later }
def HelperFaultsCardSaid : Prop := Claim7.holds Tryd.pinned (.plain (OpenSpec.ofChange helperFaultsSpec)) helperFaultsCard

/-- THE TIED CARD OF 'slotcodelaw22.HelperDeletes'. -/
def helperDeletesCard : Claim7 := { stood := { row := helperDeletesRow, standIns := [], harness := (true, "45ba069f300b77818ff20f7c34d2be0543d5b4ca8ff1451b975a0c479bb7352a"), looks := false }, kinds := [], alts := [], laidByText := true, laidKinds := [.widerDeep], laidTests := true, laidLooks := .later }
def HelperDeletesCardSaid : Prop := Claim7.holds Tryd.pinned (.plain (OpenSpec.ofChange helperDeletesSpec)) helperDeletesCard

/-- THE SECOND FORM's CARD OF 'slotcodelaw22.HelperValues'. -/
def helperValuesUptoCard : Claim7 := { stood := { row := helperValuesUptoRow, standIns := [], harness := (true, "45ba069f300b77818ff20f7c34d2be0543d5b4ca8ff1451b975a0c479bb7352a"), looks := false }, kinds := [], alts := [], laidByText := true, laidKinds := [.widerDeep], laidTests := true, laidLooks := .later }
def HelperValuesUptoCardSaid : Prop := Claim7.holds Tryd.pinned (.plain (OpenSpec.upto helperValuesSpec)) helperValuesUptoCard

/-- THE SECOND FORM's CARD OF 'slotcodelaw22.HelperCalls'. -/
def helperCallsUptoCard : Claim7 := { stood := { row := helperCallsUptoRow, standIns := [], harness := (true, "45ba069f300b77818ff20f7c34d2be0543d5b4ca8ff1451b975a0c479bb7352a"), looks := false }, kinds := [], alts := [], laidByText := true, laidKinds := [.widerDeep], laidTests := true, laidLooks := .later }
def HelperCallsUptoCardSaid : Prop := Claim7.holds Tryd.pinned (.plain (OpenSpec.upto helperCallsSpec)) helperCallsUptoCard

/-- THE SECOND FORM's CARD OF 'slotcodelaw22.HelperFinds'. -/
def helperFindsUptoCard : Claim7 := { stood := { row := helperFindsUptoRow, standIns := [], harness := (true, "45ba069f300b77818ff20f7c34d2be0543d5b4ca8ff1451b975a0c479bb7352a"), looks := false }, kinds := [], alts := [], laidByText := true, laidKinds := [.widerDeep], laidTests := true, laidLooks := .later }
def HelperFindsUptoCardSaid : Prop := Claim7.holds Tryd.pinned (.plain (OpenSpec.upto helperFindsSpec)) helperFindsUptoCard

/-- THE SECOND FORM's CARD OF 'slotcodelaw22.HelperNames'. -/
def helperNamesUptoCard : Claim7 := { stood := { row := helperNamesUptoRow, standIns := [], harness := (true, "45ba069f300b77818ff20f7c34d2be0543d5b4ca8ff1451b975a0c479bb7352a"), looks := false }, kinds := [], alts := [], laidByText := true, laidKinds := [.widerDeep], laidTests := true, laidLooks := .later }
def HelperNamesUptoCardSaid : Prop := Claim7.holds Tryd.pinned (.plain (OpenSpec.upto helperNamesSpec)) helperNamesUptoCard

/-- THE SECOND FORM's CARD OF 'slotcodelaw22.HelperFaults'. -/
def helperFaultsUptoCard : Claim7 := { stood := { row := helperFaultsUptoRow, standIns := [], harness := (true, "45ba069f300b77818ff20f7c34d2be0543d5b4ca8ff1451b975a0c479bb7352a"), looks := false }, kinds := [], alts := [], laidByText := true, laidKinds := [.widerDeep], laidTests := true, laidLooks := .later }
def HelperFaultsUptoCardSaid : Prop := Claim7.holds Tryd.pinned (.plain (OpenSpec.upto helperFaultsSpec)) helperFaultsUptoCard

/-- THE SECOND FORM's CARD OF 'slotcodelaw22.HelperDeletes'. -/
def helperDeletesUptoCard : Claim7 := { stood := { row := helperDeletesUptoRow, standIns := [], harness := (true, "45ba069f300b77818ff20f7c34d2be0543d5b4ca8ff1451b975a0c479bb7352a"), looks := false }, kinds := [], alts := [], laidByText := true, laidKinds := [.widerDeep], laidTests := true, laidLooks := .later }
def HelperDeletesUptoCardSaid : Prop := Claim7.holds Tryd.pinned (.plain (OpenSpec.upto helperDeletesSpec)) helperDeletesUptoCard
end Rows
end Go.Proofs.YtomnfkihieinbaaDoor
