/-
  DERIVED. GIVEN WITH THE SEED: THE CARDS: each row of YtfgfafojmjbmbaaDoorRows.lean that lists a variable, with what it lists TIED to the program's text (the seventh form; the later family's looks); each row that meets fmt, with fmt's text TOLD by the authors' own Lean function (tested against real Go, not proved from fmt's source: count such statements apart). THE CARD IS WHAT COUNTS. Prove the row's statement (the work); the ties are given (YtfgfafojmjbmbaaDoorTie.lean); close each card by the builder's one call (the guide's Derived/Test/ToyasCard.lean, 'card_holds'). Laid BY PROGRAM, IN A SANDBOX (cutbox-door.mjs). By AI agents, Wed Nov 11 2026. No macro, syntax, notation, axiom, sorry.
-/
import Derived.Test.YtfgfafojmjbmbaaDoorRows
import GoSem.ClaimSeven
namespace Go.Proofs.YtfgfafojmjbmbaaDoor
namespace Rows

/-- THE TIED CARD OF 'graduslaw01.WordBins'. -/
def wordBinsCard : Claim7 := { stood := { row := wordBinsRow, standIns := [], harness := (true, "84f292e03c410ff3dbb69eae7804d70d21584e775fb45a1ba2c746973ac72278"), looks := true }, kinds := [], alts := [], laidByText := true, laidKinds := [.data, .data, .data, .sentinel, .sentinel], laidTests := true, laidLooks := .later }
def WordBinsCardSaid : Prop := Claim7.holds Tryd.pinned (.plain (OpenSpec.ofChange wordBinsSpec)) wordBinsCard

/-- THE TIED CARD OF 'graduslaw01.WordDivides'. -/
def wordDividesCard : Claim7 := { stood := { row := wordDividesRow, standIns := [], harness := (true, "84f292e03c410ff3dbb69eae7804d70d21584e775fb45a1ba2c746973ac72278"), looks := true }, kinds := [], alts := [], laidByText := true, laidKinds := [.data, .data, .data, .sentinel, .sentinel], laidTests := true, laidLooks := .later }
def WordDividesCardSaid : Prop := Claim7.holds Tryd.pinned (.plain (OpenSpec.ofChange wordDividesSpec)) wordDividesCard

/-- THE TIED CARD OF 'graduslaw01.WordShows'. -/
def wordShowsCard : Claim7 := { stood := { row := wordShowsRow, standIns := [], harness := (true, "84f292e03c410ff3dbb69eae7804d70d21584e775fb45a1ba2c746973ac72278"), looks := true }, kinds := [], alts := [], laidByText := true, laidKinds := [.data, .data, .data, .sentinel, .sentinel], laidTests := true, laidLooks := .later }
def WordShowsCardSaid : Prop := Claim7.holds Tryd.pinned (.plain (OpenSpec.ofChange wordShowsSpec)) wordShowsCard

/-- THE TIED CARD OF 'graduslaw01.WordReads'. -/
def wordReadsCard : Claim7 := { stood := { row := wordReadsRow, standIns := [], harness := (true, "84f292e03c410ff3dbb69eae7804d70d21584e775fb45a1ba2c746973ac72278"), looks := true }, kinds := [], alts := [], laidByText := true, laidKinds := [.data, .data, .data, .sentinel, .sentinel], laidTests := true, laidLooks := .later }
def WordReadsCardSaid : Prop := Claim7.holds Tryd.pinned (.plain (OpenSpec.ofChange wordReadsSpec)) wordReadsCard

/-- THE TIED CARD OF 'graduslaw01.WordFits'. -/
def wordFitsCard : Claim7 := { stood := { row := wordFitsRow, standIns := [], harness := (true, "84f292e03c410ff3dbb69eae7804d70d21584e775fb45a1ba2c746973ac72278"), looks := true }, kinds := [], alts := [], laidByText := true, laidKinds := [.data, .data, .data, .sentinel, .sentinel], laidTests := true, laidLooks := .later }
def WordFitsCardSaid : Prop := Claim7.holds Tryd.pinned (.plain (OpenSpec.ofChange wordFitsSpec)) wordFitsCard

/-- THE TIED CARD OF 'graduslaw01.WordPuts'. -/
def wordPutsCard : Claim7 := { stood := { row := wordPutsRow, standIns := [], harness := (true, "84f292e03c410ff3dbb69eae7804d70d21584e775fb45a1ba2c746973ac72278"), looks := true }, kinds := [], alts := [], laidByText := true, laidKinds := [.data, .data, .data, .sentinel, .sentinel], laidTests := true, laidLooks := .later }
def WordPutsCardSaid : Prop := Claim7.holds Tryd.pinned (.plain (OpenSpec.ofChange wordPutsSpec)) wordPutsCard

/-- THE TIED CARD OF 'graduslaw01.WordRings'. -/
def wordRingsCard : Claim7 := { stood := { row := wordRingsRow, standIns := [], harness := (true, "84f292e03c410ff3dbb69eae7804d70d21584e775fb45a1ba2c746973ac72278"), looks := true }, kinds := [], alts := [], laidByText := true, laidKinds := [.data, .data, .data, .sentinel, .sentinel], laidTests := true, laidLooks := .later }
def WordRingsCardSaid : Prop := Claim7.holds Tryd.pinned (.plain (OpenSpec.ofChange wordRingsSpec)) wordRingsCard

/-- THE TIED CARD OF 'graduslaw01.WordOrders'. -/
def wordOrdersCard : Claim7 := { stood := { row := wordOrdersRow, standIns := [], harness := (true, "84f292e03c410ff3dbb69eae7804d70d21584e775fb45a1ba2c746973ac72278"), looks := true }, kinds := [], alts := [], laidByText := true, laidKinds := [.data, .data, .data, .sentinel, .sentinel], laidTests := true, laidLooks := .later }
def WordOrdersCardSaid : Prop := Claim7.holds Tryd.pinned (.plain (OpenSpec.ofChange wordOrdersSpec)) wordOrdersCard

/-- THE TIED CARD OF 'graduslaw01.WordShifts'. -/
def wordShiftsCard : Claim7 := { stood := { row := wordShiftsRow, standIns := [], harness := (true, "84f292e03c410ff3dbb69eae7804d70d21584e775fb45a1ba2c746973ac72278"), looks := true }, kinds := [], alts := [], laidByText := true, laidKinds := [.data, .data, .data, .sentinel, .sentinel], laidTests := true, laidLooks := .later }
def WordShiftsCardSaid : Prop := Claim7.holds Tryd.pinned (.plain (OpenSpec.ofChange wordShiftsSpec)) wordShiftsCard

/-- THE TIED CARD OF 'graduslaw01.WordGets'. -/
def wordGetsCard : Claim7 := { stood := { row := wordGetsRow, standIns := [], harness := (true, "84f292e03c410ff3dbb69eae7804d70d21584e775fb45a1ba2c746973ac72278"), looks := true }, kinds := [], alts := [], laidByText := true, laidKinds := [.data, .data, .data, .sentinel, .sentinel], laidTests := true, laidLooks := .later }
def WordGetsCardSaid : Prop := Claim7.holds Tryd.pinned (.plain (OpenSpec.ofChange wordGetsSpec)) wordGetsCard

/-- THE TIED CARD OF 'graduslaw01.WordBack'. -/
def wordBackCard : Claim7 := { stood := { row := wordBackRow, standIns := [], harness := (true, "84f292e03c410ff3dbb69eae7804d70d21584e775fb45a1ba2c746973ac72278"), looks := true }, kinds := [], alts := [], laidByText := true, laidKinds := [.data, .data, .data, .sentinel, .sentinel], laidTests := true, laidLooks := .later }
def WordBackCardSaid : Prop := Claim7.holds Tryd.pinned (.plain (OpenSpec.ofChange wordBackSpec)) wordBackCard

/-- THE SECOND FORM's CARD OF 'graduslaw01.WordBins'. -/
def wordBinsUptoCard : Claim7 := { stood := { row := wordBinsUptoRow, standIns := [], harness := (true, "84f292e03c410ff3dbb69eae7804d70d21584e775fb45a1ba2c746973ac72278"), looks := true }, kinds := [], alts := [], laidByText := true, laidKinds := [.data, .data, .data, .sentinel, .sentinel], laidTests := true, laidLooks := .later }
def WordBinsUptoCardSaid : Prop := Claim7.holds Tryd.pinned (.plain (OpenSpec.upto wordBinsSpec)) wordBinsUptoCard

/-- THE SECOND FORM's CARD OF 'graduslaw01.WordDivides'. -/
def wordDividesUptoCard : Claim7 := { stood := { row := wordDividesUptoRow, standIns := [], harness := (true, "84f292e03c410ff3dbb69eae7804d70d21584e775fb45a1ba2c746973ac72278"), looks := true }, kinds := [], alts := [], laidByText := true, laidKinds := [.data, .data, .data, .sentinel, .sentinel], laidTests := true, laidLooks := .later }
def WordDividesUptoCardSaid : Prop := Claim7.holds Tryd.pinned (.plain (OpenSpec.upto wordDividesSpec)) wordDividesUptoCard

/-- THE SECOND FORM's CARD OF 'graduslaw01.WordShows'. -/
def wordShowsUptoCard : Claim7 := { stood := { row := wordShowsUptoRow, standIns := [], harness := (true, "84f292e03c410ff3dbb69eae7804d70d21584e775fb45a1ba2c746973ac72278"), looks := true }, kinds := [], alts := [], laidByText := true, laidKinds := [.data, .data, .data, .sentinel, .sentinel], laidTests := true, laidLooks := .later }
def WordShowsUptoCardSaid : Prop := Claim7.holds Tryd.pinned (.plain (OpenSpec.upto wordShowsSpec)) wordShowsUptoCard

/-- THE SECOND FORM's CARD OF 'graduslaw01.WordReads'. -/
def wordReadsUptoCard : Claim7 := { stood := { row := wordReadsUptoRow, standIns := [], harness := (true, "84f292e03c410ff3dbb69eae7804d70d21584e775fb45a1ba2c746973ac72278"), looks := true }, kinds := [], alts := [], laidByText := true, laidKinds := [.data, .data, .data, .sentinel, .sentinel], laidTests := true, laidLooks := .later }
def WordReadsUptoCardSaid : Prop := Claim7.holds Tryd.pinned (.plain (OpenSpec.upto wordReadsSpec)) wordReadsUptoCard

/-- THE SECOND FORM's CARD OF 'graduslaw01.WordFits'. -/
def wordFitsUptoCard : Claim7 := { stood := { row := wordFitsUptoRow, standIns := [], harness := (true, "84f292e03c410ff3dbb69eae7804d70d21584e775fb45a1ba2c746973ac72278"), looks := true }, kinds := [], alts := [], laidByText := true, laidKinds := [.data, .data, .data, .sentinel, .sentinel], laidTests := true, laidLooks := .later }
def WordFitsUptoCardSaid : Prop := Claim7.holds Tryd.pinned (.plain (OpenSpec.upto wordFitsSpec)) wordFitsUptoCard

/-- THE SECOND FORM's CARD OF 'graduslaw01.WordPuts'. -/
def wordPutsUptoCard : Claim7 := { stood := { row := wordPutsUptoRow, standIns := [], harness := (true, "84f292e03c410ff3dbb69eae7804d70d21584e775fb45a1ba2c746973ac72278"), looks := true }, kinds := [], alts := [], laidByText := true, laidKinds := [.data, .data, .data, .sentinel, .sentinel], laidTests := true, laidLooks := .later }
def WordPutsUptoCardSaid : Prop := Claim7.holds Tryd.pinned (.plain (OpenSpec.upto wordPutsSpec)) wordPutsUptoCard

/-- THE SECOND FORM's CARD OF 'graduslaw01.WordRings'. -/
def wordRingsUptoCard : Claim7 := { stood := { row := wordRingsUptoRow, standIns := [], harness := (true, "84f292e03c410ff3dbb69eae7804d70d21584e775fb45a1ba2c746973ac72278"), looks := true }, kinds := [], alts := [], laidByText := true, laidKinds := [.data, .data, .data, .sentinel, .sentinel], laidTests := true, laidLooks := .later }
def WordRingsUptoCardSaid : Prop := Claim7.holds Tryd.pinned (.plain (OpenSpec.upto wordRingsSpec)) wordRingsUptoCard

/-- THE SECOND FORM's CARD OF 'graduslaw01.WordOrders'. -/
def wordOrdersUptoCard : Claim7 := { stood := { row := wordOrdersUptoRow, standIns := [], harness := (true, "84f292e03c410ff3dbb69eae7804d70d21584e775fb45a1ba2c746973ac72278"), looks := true }, kinds := [], alts := [], laidByText := true, laidKinds := [.data, .data, .data, .sentinel, .sentinel], laidTests := true, laidLooks := .later }
def WordOrdersUptoCardSaid : Prop := Claim7.holds Tryd.pinned (.plain (OpenSpec.upto wordOrdersSpec)) wordOrdersUptoCard

/-- THE SECOND FORM's CARD OF 'graduslaw01.WordShifts'. -/
def wordShiftsUptoCard : Claim7 := { stood := { row := wordShiftsUptoRow, standIns := [], harness := (true, "84f292e03c410ff3dbb69eae7804d70d21584e775fb45a1ba2c746973ac72278"), looks := true }, kinds := [], alts := [], laidByText := true, laidKinds := [.data, .data, .data, .sentinel, .sentinel], laidTests := true, laidLooks := .later }
def WordShiftsUptoCardSaid : Prop := Claim7.holds Tryd.pinned (.plain (OpenSpec.upto wordShiftsSpec)) wordShiftsUptoCard

/-- THE SECOND FORM's CARD OF 'graduslaw01.WordGets'. -/
def wordGetsUptoCard : Claim7 := { stood := { row := wordGetsUptoRow, standIns := [], harness := (true, "84f292e03c410ff3dbb69eae7804d70d21584e775fb45a1ba2c746973ac72278"), looks := true }, kinds := [], alts := [], laidByText := true, laidKinds := [.data, .data, .data, .sentinel, .sentinel], laidTests := true, laidLooks := .later }
def WordGetsUptoCardSaid : Prop := Claim7.holds Tryd.pinned (.plain (OpenSpec.upto wordGetsSpec)) wordGetsUptoCard

/-- THE SECOND FORM's CARD OF 'graduslaw01.WordBack'. -/
def wordBackUptoCard : Claim7 := { stood := { row := wordBackUptoRow, standIns := [], harness := (true, "84f292e03c410ff3dbb69eae7804d70d21584e775fb45a1ba2c746973ac72278"), looks := true }, kinds := [], alts := [], laidByText := true, laidKinds := [.data, .data, .data, .sentinel, .sentinel], laidTests := true, laidLooks := .later }
def WordBackUptoCardSaid : Prop := Claim7.holds Tryd.pinned (.plain (OpenSpec.upto wordBackSpec)) wordBackUptoCard
end Rows
end Go.Proofs.YtfgfafojmjbmbaaDoor
