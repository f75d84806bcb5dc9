/-
  DERIVED. GIVEN WITH THE SEED: THE CARDS: each row of YtmbppnbekkbibaaGreatDoorRows.lean that lists a variable, with what it lists TIED to the program's text (the seventh form; the later family's looks); each row that meets fmt, with fmt's text TOLD by the authors' own Lean function (tested against real Go, not proved from fmt's source: count such statements apart). THE CARD IS WHAT COUNTS. Prove the row's statement (the work); the ties are given (YtmbppnbekkbibaaGreatDoorTie.lean); close each card by the builder's one call (the guide's Derived/Test/ToyasCard.lean, 'card_holds'). Laid BY PROGRAM, IN A SANDBOX (cutbox-door.mjs). By AI agents, Wed Nov 11 2026. No macro, syntax, notation, axiom, sorry.
-/
import Derived.Test.YtmbppnbekkbibaaGreatDoorRows
import GoSem.ClaimSeven
namespace Go.Proofs.YtmbppnbekkbibaaGreatDoor
namespace Rows

/-- THE TIED CARD OF 'graduslaw07.LinkModules'. -/
def linkModulesCard : Claim7 := { stood := { row := linkModulesRow, standIns := [], harness := (true, "18bc1feec25b1ff7e3a46df6e18cf2cb5bbe7d82819354ae6717543f09723d08"), looks := true }, kinds := [], alts := [], laidByText := true, laidKinds := [.data, .data, .data, .sentinel, .sentinel, .listed, .data], laidTests := true, laidLooks := .later }
def LinkModulesCardSaid : Prop := Claim7.holds Tryz.pinned (.plain (OpenSpec.ofChange linkModulesSpec)) linkModulesCard

/-- THE TIED CARD OF 'graduslaw07.LinkOrder'. -/
def linkOrderCard : Claim7 := { stood := { row := linkOrderRow, standIns := [], harness := (true, "18bc1feec25b1ff7e3a46df6e18cf2cb5bbe7d82819354ae6717543f09723d08"), looks := true }, kinds := [], alts := [], laidByText := true, laidKinds := [.data, .data, .data, .sentinel, .sentinel, .listed, .data], laidTests := true, laidLooks := .later }
def LinkOrderCardSaid : Prop := Claim7.holds Tryz.pinned (.plain (OpenSpec.ofChange linkOrderSpec)) linkOrderCard

/-- THE TIED CARD OF 'graduslaw07.LinkScopes'. -/
def linkScopesCard : Claim7 := { stood := { row := linkScopesRow, standIns := [], harness := (true, "18bc1feec25b1ff7e3a46df6e18cf2cb5bbe7d82819354ae6717543f09723d08"), looks := true }, kinds := [], alts := [], laidByText := true, laidKinds := [.data, .data, .data, .sentinel, .sentinel, .listed, .data], laidTests := true, laidLooks := .later }
def LinkScopesCardSaid : Prop := Claim7.holds Tryz.pinned (.plain (OpenSpec.ofChange linkScopesSpec)) linkScopesCard

/-- THE TIED CARD OF 'graduslaw07.LinkBlanks'. -/
def linkBlanksCard : Claim7 := { stood := { row := linkBlanksRow, standIns := [], harness := (true, "18bc1feec25b1ff7e3a46df6e18cf2cb5bbe7d82819354ae6717543f09723d08"), looks := true }, kinds := [], alts := [], laidByText := true, laidKinds := [.data, .data, .data, .sentinel, .sentinel, .listed, .data], laidTests := true, laidLooks := .later }
def LinkBlanksCardSaid : Prop := Claim7.holds Tryz.pinned (.plain (OpenSpec.ofChange linkBlanksSpec)) linkBlanksCard

/-- THE TIED CARD OF 'graduslaw05.ParseTexts'. -/
def parseTextsCard : Claim7 := { stood := { row := parseTextsRow, standIns := [], harness := (true, "18bc1feec25b1ff7e3a46df6e18cf2cb5bbe7d82819354ae6717543f09723d08"), looks := true }, kinds := [], alts := [], laidByText := true, laidKinds := [.data, .data, .data, .sentinel, .sentinel, .listed, .data], laidTests := true, laidLooks := .later }
def ParseTextsCardSaid : Prop := Claim7.holds Tryz.pinned (.plain (OpenSpec.ofChange parseTextsSpec)) parseTextsCard

/-- THE TIED CARD OF 'graduslaw05.ParseExprs'. -/
def parseExprsCard : Claim7 := { stood := { row := parseExprsRow, standIns := [], harness := (true, "18bc1feec25b1ff7e3a46df6e18cf2cb5bbe7d82819354ae6717543f09723d08"), looks := true }, kinds := [], alts := [], laidByText := true, laidKinds := [.data, .data, .data, .sentinel, .sentinel, .listed, .data], laidTests := true, laidLooks := .later }
def ParseExprsCardSaid : Prop := Claim7.holds Tryz.pinned (.plain (OpenSpec.ofChange parseExprsSpec)) parseExprsCard

/-- THE TIED CARD OF 'graduslaw05.ParseTypes'. -/
def parseTypesCard : Claim7 := { stood := { row := parseTypesRow, standIns := [], harness := (true, "18bc1feec25b1ff7e3a46df6e18cf2cb5bbe7d82819354ae6717543f09723d08"), looks := true }, kinds := [], alts := [], laidByText := true, laidKinds := [.data, .data, .data, .sentinel, .sentinel, .listed, .data], laidTests := true, laidLooks := .later }
def ParseTypesCardSaid : Prop := Claim7.holds Tryz.pinned (.plain (OpenSpec.ofChange parseTypesSpec)) parseTypesCard

/-- THE TIED CARD OF 'graduslaw05.ParseFaults'. -/
def parseFaultsCard : Claim7 := { stood := { row := parseFaultsRow, standIns := [], harness := (true, "18bc1feec25b1ff7e3a46df6e18cf2cb5bbe7d82819354ae6717543f09723d08"), looks := true }, kinds := [], alts := [], laidByText := true, laidKinds := [.data, .data, .data, .sentinel, .sentinel, .listed, .data], laidTests := true, laidLooks := .later }
def ParseFaultsCardSaid : Prop := Claim7.holds Tryz.pinned (.plain (OpenSpec.ofChange parseFaultsSpec)) parseFaultsCard

/-- THE TIED CARD OF 'graduslaw05.ParseBrackets'. -/
def parseBracketsCard : Claim7 := { stood := { row := parseBracketsRow, standIns := [], harness := (true, "18bc1feec25b1ff7e3a46df6e18cf2cb5bbe7d82819354ae6717543f09723d08"), looks := true }, kinds := [], alts := [], laidByText := true, laidKinds := [.data, .data, .data, .sentinel, .sentinel, .listed, .data], laidTests := true, laidLooks := .later }
def ParseBracketsCardSaid : Prop := Claim7.holds Tryz.pinned (.plain (OpenSpec.ofChange parseBracketsSpec)) parseBracketsCard

/-- THE TIED CARD OF 'graduslaw05.ParseLeft'. -/
def parseLeftCard : Claim7 := { stood := { row := parseLeftRow, standIns := [], harness := (true, "18bc1feec25b1ff7e3a46df6e18cf2cb5bbe7d82819354ae6717543f09723d08"), looks := true }, kinds := [], alts := [], laidByText := true, laidKinds := [.data, .data, .data, .sentinel, .sentinel, .listed, .data], laidTests := true, laidLooks := .later }
def ParseLeftCardSaid : Prop := Claim7.holds Tryz.pinned (.plain (OpenSpec.ofChange parseLeftSpec)) parseLeftCard

/-- THE SECOND FORM's CARD OF 'graduslaw07.LinkModules'. -/
def linkModulesUptoCard : Claim7 := { stood := { row := linkModulesUptoRow, standIns := [], harness := (true, "18bc1feec25b1ff7e3a46df6e18cf2cb5bbe7d82819354ae6717543f09723d08"), looks := true }, kinds := [], alts := [], laidByText := true, laidKinds := [.data, .data, .data, .sentinel, .sentinel, .listed, .data], laidTests := true, laidLooks := .later }
def LinkModulesUptoCardSaid : Prop := Claim7.holds Tryz.pinned (.plain (OpenSpec.upto linkModulesSpec)) linkModulesUptoCard

/-- THE SECOND FORM's CARD OF 'graduslaw07.LinkOrder'. -/
def linkOrderUptoCard : Claim7 := { stood := { row := linkOrderUptoRow, standIns := [], harness := (true, "18bc1feec25b1ff7e3a46df6e18cf2cb5bbe7d82819354ae6717543f09723d08"), looks := true }, kinds := [], alts := [], laidByText := true, laidKinds := [.data, .data, .data, .sentinel, .sentinel, .listed, .data], laidTests := true, laidLooks := .later }
def LinkOrderUptoCardSaid : Prop := Claim7.holds Tryz.pinned (.plain (OpenSpec.upto linkOrderSpec)) linkOrderUptoCard

/-- THE SECOND FORM's CARD OF 'graduslaw07.LinkScopes'. -/
def linkScopesUptoCard : Claim7 := { stood := { row := linkScopesUptoRow, standIns := [], harness := (true, "18bc1feec25b1ff7e3a46df6e18cf2cb5bbe7d82819354ae6717543f09723d08"), looks := true }, kinds := [], alts := [], laidByText := true, laidKinds := [.data, .data, .data, .sentinel, .sentinel, .listed, .data], laidTests := true, laidLooks := .later }
def LinkScopesUptoCardSaid : Prop := Claim7.holds Tryz.pinned (.plain (OpenSpec.upto linkScopesSpec)) linkScopesUptoCard

/-- THE SECOND FORM's CARD OF 'graduslaw07.LinkBlanks'. -/
def linkBlanksUptoCard : Claim7 := { stood := { row := linkBlanksUptoRow, standIns := [], harness := (true, "18bc1feec25b1ff7e3a46df6e18cf2cb5bbe7d82819354ae6717543f09723d08"), looks := true }, kinds := [], alts := [], laidByText := true, laidKinds := [.data, .data, .data, .sentinel, .sentinel, .listed, .data], laidTests := true, laidLooks := .later }
def LinkBlanksUptoCardSaid : Prop := Claim7.holds Tryz.pinned (.plain (OpenSpec.upto linkBlanksSpec)) linkBlanksUptoCard

/-- THE SECOND FORM's CARD OF 'graduslaw05.ParseTexts'. -/
def parseTextsUptoCard : Claim7 := { stood := { row := parseTextsUptoRow, standIns := [], harness := (true, "18bc1feec25b1ff7e3a46df6e18cf2cb5bbe7d82819354ae6717543f09723d08"), looks := true }, kinds := [], alts := [], laidByText := true, laidKinds := [.data, .data, .data, .sentinel, .sentinel, .listed, .data], laidTests := true, laidLooks := .later }
def ParseTextsUptoCardSaid : Prop := Claim7.holds Tryz.pinned (.plain (OpenSpec.upto parseTextsSpec)) parseTextsUptoCard

/-- THE SECOND FORM's CARD OF 'graduslaw05.ParseExprs'. -/
def parseExprsUptoCard : Claim7 := { stood := { row := parseExprsUptoRow, standIns := [], harness := (true, "18bc1feec25b1ff7e3a46df6e18cf2cb5bbe7d82819354ae6717543f09723d08"), looks := true }, kinds := [], alts := [], laidByText := true, laidKinds := [.data, .data, .data, .sentinel, .sentinel, .listed, .data], laidTests := true, laidLooks := .later }
def ParseExprsUptoCardSaid : Prop := Claim7.holds Tryz.pinned (.plain (OpenSpec.upto parseExprsSpec)) parseExprsUptoCard

/-- THE SECOND FORM's CARD OF 'graduslaw05.ParseTypes'. -/
def parseTypesUptoCard : Claim7 := { stood := { row := parseTypesUptoRow, standIns := [], harness := (true, "18bc1feec25b1ff7e3a46df6e18cf2cb5bbe7d82819354ae6717543f09723d08"), looks := true }, kinds := [], alts := [], laidByText := true, laidKinds := [.data, .data, .data, .sentinel, .sentinel, .listed, .data], laidTests := true, laidLooks := .later }
def ParseTypesUptoCardSaid : Prop := Claim7.holds Tryz.pinned (.plain (OpenSpec.upto parseTypesSpec)) parseTypesUptoCard

/-- THE SECOND FORM's CARD OF 'graduslaw05.ParseFaults'. -/
def parseFaultsUptoCard : Claim7 := { stood := { row := parseFaultsUptoRow, standIns := [], harness := (true, "18bc1feec25b1ff7e3a46df6e18cf2cb5bbe7d82819354ae6717543f09723d08"), looks := true }, kinds := [], alts := [], laidByText := true, laidKinds := [.data, .data, .data, .sentinel, .sentinel, .listed, .data], laidTests := true, laidLooks := .later }
def ParseFaultsUptoCardSaid : Prop := Claim7.holds Tryz.pinned (.plain (OpenSpec.upto parseFaultsSpec)) parseFaultsUptoCard

/-- THE SECOND FORM's CARD OF 'graduslaw05.ParseBrackets'. -/
def parseBracketsUptoCard : Claim7 := { stood := { row := parseBracketsUptoRow, standIns := [], harness := (true, "18bc1feec25b1ff7e3a46df6e18cf2cb5bbe7d82819354ae6717543f09723d08"), looks := true }, kinds := [], alts := [], laidByText := true, laidKinds := [.data, .data, .data, .sentinel, .sentinel, .listed, .data], laidTests := true, laidLooks := .later }
def ParseBracketsUptoCardSaid : Prop := Claim7.holds Tryz.pinned (.plain (OpenSpec.upto parseBracketsSpec)) parseBracketsUptoCard

/-- THE SECOND FORM's CARD OF 'graduslaw05.ParseLeft'. -/
def parseLeftUptoCard : Claim7 := { stood := { row := parseLeftUptoRow, standIns := [], harness := (true, "18bc1feec25b1ff7e3a46df6e18cf2cb5bbe7d82819354ae6717543f09723d08"), looks := true }, kinds := [], alts := [], laidByText := true, laidKinds := [.data, .data, .data, .sentinel, .sentinel, .listed, .data], laidTests := true, laidLooks := .later }
def ParseLeftUptoCardSaid : Prop := Claim7.holds Tryz.pinned (.plain (OpenSpec.upto parseLeftSpec)) parseLeftUptoCard
end Rows
end Go.Proofs.YtmbppnbekkbibaaGreatDoor
