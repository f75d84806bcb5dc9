/-
  DERIVED. GIVEN WITH THE SEED: THE CARDS: each row of YtncnnedlgofccaaGreatDoorRows.lean that lists a variable, with what it lists TIED to the program's text (the seventh form; the later family's looks); each row that meets fmt, with fmt's text TOLD by the authors' own Lean function (tested against real Go, not proved from fmt's source: count such statements apart). THE CARD IS WHAT COUNTS. Prove the row's statement (the work); the ties are given (YtncnnedlgofccaaGreatDoorTie.lean); close each card by the builder's one call (the guide's Derived/Test/ToyasCard.lean, 'card_holds'). Laid BY PROGRAM, IN A SANDBOX (cutbox-door.mjs). By AI agents, Wed Nov 11 2026. No macro, syntax, notation, axiom, sorry.
-/
import Derived.Test.YtncnnedlgofccaaGreatDoorRows
import GoSem.ClaimSeven
namespace Go.Proofs.YtncnnedlgofccaaGreatDoor
namespace Rows

/-- THE TIED CARD OF 'graduslaw07.LinkModules'. -/
def linkModulesCard : Claim7 := { stood := { row := linkModulesRow, standIns := [], harness := (true, "c78f001b084d5d263de39db8390c4c4a2a16b24f93ebc00bdcf86546f7ae6d2b"), looks := true }, kinds := [], alts := [], laidByText := true, laidKinds := [.data, .data, .data, .sentinel, .sentinel, .listed, .data], laidTests := true, laidLooks := .later }
def LinkModulesCardSaid : Prop := Claim7.holds Tryz.pinned (.plain (OpenSpec.ofChange linkModulesSpec)) linkModulesCard

/-- THE TIED CARD OF 'graduslaw05.ParseTexts'. -/
def parseTextsCard : Claim7 := { stood := { row := parseTextsRow, standIns := [], harness := (true, "c78f001b084d5d263de39db8390c4c4a2a16b24f93ebc00bdcf86546f7ae6d2b"), looks := true }, kinds := [], alts := [], laidByText := true, laidKinds := [.data, .data, .data, .sentinel, .sentinel, .listed, .data], laidTests := true, laidLooks := .later }
def ParseTextsCardSaid : Prop := Claim7.holds Tryz.pinned (.plain (OpenSpec.ofChange parseTextsSpec)) parseTextsCard

/-- THE TIED CARD OF 'graduslaw05.ParseBack'. -/
def parseBackCard : Claim7 := { stood := { row := parseBackRow, standIns := [], harness := (true, "c78f001b084d5d263de39db8390c4c4a2a16b24f93ebc00bdcf86546f7ae6d2b"), looks := true }, kinds := [], alts := [], laidByText := true, laidKinds := [.data, .data, .data, .sentinel, .sentinel, .listed, .data], laidTests := true, laidLooks := .later }
def ParseBackCardSaid : Prop := Claim7.holds Tryz.pinned (.plain (OpenSpec.ofChange parseBackSpec)) parseBackCard

/-- THE TIED CARD OF 'graduslaw05.ParseAgain'. -/
def parseAgainCard : Claim7 := { stood := { row := parseAgainRow, standIns := [], harness := (true, "c78f001b084d5d263de39db8390c4c4a2a16b24f93ebc00bdcf86546f7ae6d2b"), looks := true }, kinds := [], alts := [], laidByText := true, laidKinds := [.data, .data, .data, .sentinel, .sentinel, .listed, .data], laidTests := true, laidLooks := .later }
def ParseAgainCardSaid : Prop := Claim7.holds Tryz.pinned (.plain (OpenSpec.ofChange parseAgainSpec)) parseAgainCard

/-- THE SECOND FORM's CARD OF 'graduslaw07.LinkModules'. -/
def linkModulesUptoCard : Claim7 := { stood := { row := linkModulesUptoRow, standIns := [], harness := (true, "c78f001b084d5d263de39db8390c4c4a2a16b24f93ebc00bdcf86546f7ae6d2b"), looks := true }, kinds := [], alts := [], laidByText := true, laidKinds := [.data, .data, .data, .sentinel, .sentinel, .listed, .data], laidTests := true, laidLooks := .later }
def LinkModulesUptoCardSaid : Prop := Claim7.holds Tryz.pinned (.plain (OpenSpec.upto linkModulesSpec)) linkModulesUptoCard

/-- THE SECOND FORM's CARD OF 'graduslaw05.ParseTexts'. -/
def parseTextsUptoCard : Claim7 := { stood := { row := parseTextsUptoRow, standIns := [], harness := (true, "c78f001b084d5d263de39db8390c4c4a2a16b24f93ebc00bdcf86546f7ae6d2b"), looks := true }, kinds := [], alts := [], laidByText := true, laidKinds := [.data, .data, .data, .sentinel, .sentinel, .listed, .data], laidTests := true, laidLooks := .later }
def ParseTextsUptoCardSaid : Prop := Claim7.holds Tryz.pinned (.plain (OpenSpec.upto parseTextsSpec)) parseTextsUptoCard

/-- THE SECOND FORM's CARD OF 'graduslaw05.ParseBack'. -/
def parseBackUptoCard : Claim7 := { stood := { row := parseBackUptoRow, standIns := [], harness := (true, "c78f001b084d5d263de39db8390c4c4a2a16b24f93ebc00bdcf86546f7ae6d2b"), looks := true }, kinds := [], alts := [], laidByText := true, laidKinds := [.data, .data, .data, .sentinel, .sentinel, .listed, .data], laidTests := true, laidLooks := .later }
def ParseBackUptoCardSaid : Prop := Claim7.holds Tryz.pinned (.plain (OpenSpec.upto parseBackSpec)) parseBackUptoCard

/-- THE SECOND FORM's CARD OF 'graduslaw05.ParseAgain'. -/
def parseAgainUptoCard : Claim7 := { stood := { row := parseAgainUptoRow, standIns := [], harness := (true, "c78f001b084d5d263de39db8390c4c4a2a16b24f93ebc00bdcf86546f7ae6d2b"), looks := true }, kinds := [], alts := [], laidByText := true, laidKinds := [.data, .data, .data, .sentinel, .sentinel, .listed, .data], laidTests := true, laidLooks := .later }
def ParseAgainUptoCardSaid : Prop := Claim7.holds Tryz.pinned (.plain (OpenSpec.upto parseAgainSpec)) parseAgainUptoCard
end Rows
end Go.Proofs.YtncnnedlgofccaaGreatDoor
