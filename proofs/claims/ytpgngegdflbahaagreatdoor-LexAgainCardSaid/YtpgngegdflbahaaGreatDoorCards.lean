/-
  DERIVED. GIVEN WITH THE SEED: THE CARDS: each row of YtpgngegdflbahaaGreatDoorRows.lean that lists a variable, with what it lists TIED to the program's text (the seventh form; the later family's looks); each row that meets fmt, with fmt's text TOLD by the authors' own Lean function (tested against real Go, not proved from fmt's source: count such statements apart). THE CARD IS WHAT COUNTS. Prove the row's statement (the work); the ties are given (YtpgngegdflbahaaGreatDoorTie.lean); close each card by the builder's one call (the guide's Derived/Test/ToyasCard.lean, 'card_holds'). Laid BY PROGRAM, IN A SANDBOX (cutbox-door.mjs). By AI agents, Wed Nov 11 2026. No macro, syntax, notation, axiom, sorry.
-/
import Derived.Test.YtpgngegdflbahaaGreatDoorRows
import GoSem.ClaimSeven
namespace Go.Proofs.YtpgngegdflbahaaGreatDoor
namespace Rows

/-- THE TIED CARD OF 'graduslaw02.LexQuotes'. -/
def lexQuotesCard : Claim7 := { stood := { row := lexQuotesRow, standIns := [], harness := (true, "14d496d2ab564fc72ed98b3c5e188f6275ebdd5de738d575739d9cd80bf2339a"), looks := true }, kinds := [], alts := [], laidByText := true, laidKinds := [.data, .data, .data, .sentinel, .sentinel, .listed, .data], laidTests := true, laidLooks := .later }
def LexQuotesCardSaid : Prop := Claim7.holds Tryz.pinned (.plain (OpenSpec.ofChange lexQuotesSpec)) lexQuotesCard

/-- THE TIED CARD OF 'graduslaw02.LexAgain'. -/
def lexAgainCard : Claim7 := { stood := { row := lexAgainRow, standIns := [], harness := (true, "14d496d2ab564fc72ed98b3c5e188f6275ebdd5de738d575739d9cd80bf2339a"), looks := true }, kinds := [], alts := [], laidByText := true, laidKinds := [.data, .data, .data, .sentinel, .sentinel, .listed, .data], laidTests := true, laidLooks := .later }
def LexAgainCardSaid : Prop := Claim7.holds Tryz.pinned (.plain (OpenSpec.ofChange lexAgainSpec)) lexAgainCard

/-- THE SECOND FORM's CARD OF 'graduslaw02.LexQuotes'. -/
def lexQuotesUptoCard : Claim7 := { stood := { row := lexQuotesUptoRow, standIns := [], harness := (true, "14d496d2ab564fc72ed98b3c5e188f6275ebdd5de738d575739d9cd80bf2339a"), looks := true }, kinds := [], alts := [], laidByText := true, laidKinds := [.data, .data, .data, .sentinel, .sentinel, .listed, .data], laidTests := true, laidLooks := .later }
def LexQuotesUptoCardSaid : Prop := Claim7.holds Tryz.pinned (.plain (OpenSpec.upto lexQuotesSpec)) lexQuotesUptoCard

/-- THE SECOND FORM's CARD OF 'graduslaw02.LexAgain'. -/
def lexAgainUptoCard : Claim7 := { stood := { row := lexAgainUptoRow, standIns := [], harness := (true, "14d496d2ab564fc72ed98b3c5e188f6275ebdd5de738d575739d9cd80bf2339a"), looks := true }, kinds := [], alts := [], laidByText := true, laidKinds := [.data, .data, .data, .sentinel, .sentinel, .listed, .data], laidTests := true, laidLooks := .later }
def LexAgainUptoCardSaid : Prop := Claim7.holds Tryz.pinned (.plain (OpenSpec.upto lexAgainSpec)) lexAgainUptoCard
end Rows
end Go.Proofs.YtpgngegdflbahaaGreatDoor
