/-
  DERIVED. GIVEN WITH THE SEED: THE CARDS: each row of YtfgjkmipfikooaaGreatDoorRows.lean that lists a variable, with what it lists TIED to the program's text (the seventh form; the later family's looks); each row that meets fmt, with fmt's text TOLD by the authors' own Lean function (tested against real Go, not proved from fmt's source: count such statements apart). THE CARD IS WHAT COUNTS. Prove the row's statement (the work); the ties are given (YtfgjkmipfikooaaGreatDoorTie.lean); close each card by the builder's one call (the guide's Derived/Test/ToyasCard.lean, 'card_holds'). Laid BY PROGRAM, IN A SANDBOX (cutbox-door.mjs). By AI agents, Wed Nov 11 2026. No macro, syntax, notation, axiom, sorry.
-/
import Derived.Test.YtfgjkmipfikooaaGreatDoorRows
import GoSem.ClaimSeven
namespace Go.Proofs.YtfgjkmipfikooaaGreatDoor
namespace Rows

/-- THE TIED CARD OF 'graduslaw07.LinkModules'. -/
def linkModulesCard : Claim7 := { stood := { row := linkModulesRow, standIns := [], harness := (true, "c7ae37c4b9a51a19eac12da47ff4b9bcef2a8e6c8813c7560532cbf2fd17a226"), looks := true }, kinds := [], alts := [], laidByText := true, laidKinds := [.data, .data, .data, .sentinel, .sentinel, .listed, .data], laidTests := true, laidLooks := .later }
def LinkModulesCardSaid : Prop := Claim7.holds Tryz.pinned (.plain (OpenSpec.ofChange linkModulesSpec)) linkModulesCard

/-- THE TIED CARD OF 'graduslaw05.ParseTexts'. -/
def parseTextsCard : Claim7 := { stood := { row := parseTextsRow, standIns := [], harness := (true, "c7ae37c4b9a51a19eac12da47ff4b9bcef2a8e6c8813c7560532cbf2fd17a226"), looks := true }, kinds := [], alts := [], laidByText := true, laidKinds := [.data, .data, .data, .sentinel, .sentinel, .listed, .data], laidTests := true, laidLooks := .later }
def ParseTextsCardSaid : Prop := Claim7.holds Tryz.pinned (.plain (OpenSpec.ofChange parseTextsSpec)) parseTextsCard

/-- THE TIED CARD OF 'graduslaw05.ParseExprs'. -/
def parseExprsCard : Claim7 := { stood := { row := parseExprsRow, standIns := [], harness := (true, "c7ae37c4b9a51a19eac12da47ff4b9bcef2a8e6c8813c7560532cbf2fd17a226"), looks := true }, kinds := [], alts := [], laidByText := true, laidKinds := [.data, .data, .data, .sentinel, .sentinel, .listed, .data], laidTests := true, laidLooks := .later }
def ParseExprsCardSaid : Prop := Claim7.holds Tryz.pinned (.plain (OpenSpec.ofChange parseExprsSpec)) parseExprsCard

/-- THE TIED CARD OF 'graduslaw05.ParseTypes'. -/
def parseTypesCard : Claim7 := { stood := { row := parseTypesRow, standIns := [], harness := (true, "c7ae37c4b9a51a19eac12da47ff4b9bcef2a8e6c8813c7560532cbf2fd17a226"), looks := true }, kinds := [], alts := [], laidByText := true, laidKinds := [.data, .data, .data, .sentinel, .sentinel, .listed, .data], laidTests := true, laidLooks := .later }
def ParseTypesCardSaid : Prop := Claim7.holds Tryz.pinned (.plain (OpenSpec.ofChange parseTypesSpec)) parseTypesCard

/-- THE TIED CARD OF 'graduslaw05.ParseExprsBack'. -/
def parseExprsBackCard : Claim7 := { stood := { row := parseExprsBackRow, standIns := [], harness := (true, "c7ae37c4b9a51a19eac12da47ff4b9bcef2a8e6c8813c7560532cbf2fd17a226"), looks := true }, kinds := [], alts := [], laidByText := true, laidKinds := [.data, .data, .data, .sentinel, .sentinel, .listed, .data], laidTests := true, laidLooks := .later }
def ParseExprsBackCardSaid : Prop := Claim7.holds Tryz.pinned (.plain (OpenSpec.ofChange parseExprsBackSpec)) parseExprsBackCard

/-- THE TIED CARD OF 'graduslaw05.ParseTypesBack'. -/
def parseTypesBackCard : Claim7 := { stood := { row := parseTypesBackRow, standIns := [], harness := (true, "c7ae37c4b9a51a19eac12da47ff4b9bcef2a8e6c8813c7560532cbf2fd17a226"), looks := true }, kinds := [], alts := [], laidByText := true, laidKinds := [.data, .data, .data, .sentinel, .sentinel, .listed, .data], laidTests := true, laidLooks := .later }
def ParseTypesBackCardSaid : Prop := Claim7.holds Tryz.pinned (.plain (OpenSpec.ofChange parseTypesBackSpec)) parseTypesBackCard

/-- THE TIED CARD OF 'graduslaw05.ParseBack'. -/
def parseBackCard : Claim7 := { stood := { row := parseBackRow, standIns := [], harness := (true, "c7ae37c4b9a51a19eac12da47ff4b9bcef2a8e6c8813c7560532cbf2fd17a226"), looks := true }, kinds := [], alts := [], laidByText := true, laidKinds := [.data, .data, .data, .sentinel, .sentinel, .listed, .data], laidTests := true, laidLooks := .later }
def ParseBackCardSaid : Prop := Claim7.holds Tryz.pinned (.plain (OpenSpec.ofChange parseBackSpec)) parseBackCard

/-- THE TIED CARD OF 'graduslaw05.ParseAgain'. -/
def parseAgainCard : Claim7 := { stood := { row := parseAgainRow, standIns := [], harness := (true, "c7ae37c4b9a51a19eac12da47ff4b9bcef2a8e6c8813c7560532cbf2fd17a226"), looks := true }, kinds := [], alts := [], laidByText := true, laidKinds := [.data, .data, .data, .sentinel, .sentinel, .listed, .data], laidTests := true, laidLooks := .later }
def ParseAgainCardSaid : Prop := Claim7.holds Tryz.pinned (.plain (OpenSpec.ofChange parseAgainSpec)) parseAgainCard

/-- THE SECOND FORM's CARD OF 'graduslaw07.LinkModules'. -/
def linkModulesUptoCard : Claim7 := { stood := { row := linkModulesUptoRow, standIns := [], harness := (true, "c7ae37c4b9a51a19eac12da47ff4b9bcef2a8e6c8813c7560532cbf2fd17a226"), looks := true }, kinds := [], alts := [], laidByText := true, laidKinds := [.data, .data, .data, .sentinel, .sentinel, .listed, .data], laidTests := true, laidLooks := .later }
def LinkModulesUptoCardSaid : Prop := Claim7.holds Tryz.pinned (.plain (OpenSpec.upto linkModulesSpec)) linkModulesUptoCard

/-- THE SECOND FORM's CARD OF 'graduslaw05.ParseTexts'. -/
def parseTextsUptoCard : Claim7 := { stood := { row := parseTextsUptoRow, standIns := [], harness := (true, "c7ae37c4b9a51a19eac12da47ff4b9bcef2a8e6c8813c7560532cbf2fd17a226"), looks := true }, kinds := [], alts := [], laidByText := true, laidKinds := [.data, .data, .data, .sentinel, .sentinel, .listed, .data], laidTests := true, laidLooks := .later }
def ParseTextsUptoCardSaid : Prop := Claim7.holds Tryz.pinned (.plain (OpenSpec.upto parseTextsSpec)) parseTextsUptoCard

/-- THE SECOND FORM's CARD OF 'graduslaw05.ParseExprs'. -/
def parseExprsUptoCard : Claim7 := { stood := { row := parseExprsUptoRow, standIns := [], harness := (true, "c7ae37c4b9a51a19eac12da47ff4b9bcef2a8e6c8813c7560532cbf2fd17a226"), looks := true }, kinds := [], alts := [], laidByText := true, laidKinds := [.data, .data, .data, .sentinel, .sentinel, .listed, .data], laidTests := true, laidLooks := .later }
def ParseExprsUptoCardSaid : Prop := Claim7.holds Tryz.pinned (.plain (OpenSpec.upto parseExprsSpec)) parseExprsUptoCard

/-- THE SECOND FORM's CARD OF 'graduslaw05.ParseTypes'. -/
def parseTypesUptoCard : Claim7 := { stood := { row := parseTypesUptoRow, standIns := [], harness := (true, "c7ae37c4b9a51a19eac12da47ff4b9bcef2a8e6c8813c7560532cbf2fd17a226"), looks := true }, kinds := [], alts := [], laidByText := true, laidKinds := [.data, .data, .data, .sentinel, .sentinel, .listed, .data], laidTests := true, laidLooks := .later }
def ParseTypesUptoCardSaid : Prop := Claim7.holds Tryz.pinned (.plain (OpenSpec.upto parseTypesSpec)) parseTypesUptoCard

/-- THE SECOND FORM's CARD OF 'graduslaw05.ParseExprsBack'. -/
def parseExprsBackUptoCard : Claim7 := { stood := { row := parseExprsBackUptoRow, standIns := [], harness := (true, "c7ae37c4b9a51a19eac12da47ff4b9bcef2a8e6c8813c7560532cbf2fd17a226"), looks := true }, kinds := [], alts := [], laidByText := true, laidKinds := [.data, .data, .data, .sentinel, .sentinel, .listed, .data], laidTests := true, laidLooks := .later }
def ParseExprsBackUptoCardSaid : Prop := Claim7.holds Tryz.pinned (.plain (OpenSpec.upto parseExprsBackSpec)) parseExprsBackUptoCard

/-- THE SECOND FORM's CARD OF 'graduslaw05.ParseTypesBack'. -/
def parseTypesBackUptoCard : Claim7 := { stood := { row := parseTypesBackUptoRow, standIns := [], harness := (true, "c7ae37c4b9a51a19eac12da47ff4b9bcef2a8e6c8813c7560532cbf2fd17a226"), looks := true }, kinds := [], alts := [], laidByText := true, laidKinds := [.data, .data, .data, .sentinel, .sentinel, .listed, .data], laidTests := true, laidLooks := .later }
def ParseTypesBackUptoCardSaid : Prop := Claim7.holds Tryz.pinned (.plain (OpenSpec.upto parseTypesBackSpec)) parseTypesBackUptoCard

/-- THE SECOND FORM's CARD OF 'graduslaw05.ParseBack'. -/
def parseBackUptoCard : Claim7 := { stood := { row := parseBackUptoRow, standIns := [], harness := (true, "c7ae37c4b9a51a19eac12da47ff4b9bcef2a8e6c8813c7560532cbf2fd17a226"), looks := true }, kinds := [], alts := [], laidByText := true, laidKinds := [.data, .data, .data, .sentinel, .sentinel, .listed, .data], laidTests := true, laidLooks := .later }
def ParseBackUptoCardSaid : Prop := Claim7.holds Tryz.pinned (.plain (OpenSpec.upto parseBackSpec)) parseBackUptoCard

/-- THE SECOND FORM's CARD OF 'graduslaw05.ParseAgain'. -/
def parseAgainUptoCard : Claim7 := { stood := { row := parseAgainUptoRow, standIns := [], harness := (true, "c7ae37c4b9a51a19eac12da47ff4b9bcef2a8e6c8813c7560532cbf2fd17a226"), looks := true }, kinds := [], alts := [], laidByText := true, laidKinds := [.data, .data, .data, .sentinel, .sentinel, .listed, .data], laidTests := true, laidLooks := .later }
def ParseAgainUptoCardSaid : Prop := Claim7.holds Tryz.pinned (.plain (OpenSpec.upto parseAgainSpec)) parseAgainUptoCard
end Rows
end Go.Proofs.YtfgjkmipfikooaaGreatDoor
