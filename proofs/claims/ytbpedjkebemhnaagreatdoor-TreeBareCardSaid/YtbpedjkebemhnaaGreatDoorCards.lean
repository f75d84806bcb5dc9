/-
  DERIVED. GIVEN WITH THE SEED: THE CARDS: each row of YtbpedjkebemhnaaGreatDoorRows.lean that lists a variable, with what it lists TIED to the program's text (the seventh form; the later family's looks); each row that meets fmt, with fmt's text TOLD by the authors' own Lean function (tested against real Go, not proved from fmt's source: count such statements apart). THE CARD IS WHAT COUNTS. Prove the row's statement (the work); the ties are given (YtbpedjkebemhnaaGreatDoorTie.lean); close each card by the builder's one call (the guide's Derived/Test/ToyasCard.lean, 'card_holds'). Laid BY PROGRAM, IN A SANDBOX (cutbox-door.mjs). By AI agents, Wed Nov 11 2026. No macro, syntax, notation, axiom, sorry.
-/
import Derived.Test.YtbpedjkebemhnaaGreatDoorRows
import GoSem.ClaimSeven
namespace Go.Proofs.YtbpedjkebemhnaaGreatDoor
namespace Rows

/-- THE TIED CARD OF 'graduslaw04.TreeExprs'. -/
def treeExprsCard : Claim7 := { stood := { row := treeExprsRow, standIns := [], harness := (true, "082a16fa1c01a48f8eabd4a485782712e43de1286c8c982807d3ffc57ee3f40e"), looks := true }, kinds := [], alts := [], laidByText := true, laidKinds := [.data, .data, .data, .listed, .data], laidTests := true, laidLooks := .later }
def TreeExprsCardSaid : Prop := Claim7.holds Tryz.pinned (.plain (OpenSpec.ofChange treeExprsSpec)) treeExprsCard

/-- THE TIED CARD OF 'graduslaw04.TreeTypes'. -/
def treeTypesCard : Claim7 := { stood := { row := treeTypesRow, standIns := [], harness := (true, "082a16fa1c01a48f8eabd4a485782712e43de1286c8c982807d3ffc57ee3f40e"), looks := true }, kinds := [], alts := [], laidByText := true, laidKinds := [.data, .data, .data, .listed, .data], laidTests := true, laidLooks := .later }
def TreeTypesCardSaid : Prop := Claim7.holds Tryz.pinned (.plain (OpenSpec.ofChange treeTypesSpec)) treeTypesCard

/-- THE TIED CARD OF 'graduslaw04.TreePrints'. -/
def treePrintsCard : Claim7 := { stood := { row := treePrintsRow, standIns := [], harness := (true, "082a16fa1c01a48f8eabd4a485782712e43de1286c8c982807d3ffc57ee3f40e"), looks := true }, kinds := [], alts := [], laidByText := true, laidKinds := [.data, .data, .data, .listed, .data], laidTests := true, laidLooks := .later }
def TreePrintsCardSaid : Prop := Claim7.holds Tryz.pinned (.plain (OpenSpec.ofChange treePrintsSpec)) treePrintsCard

/-- THE TIED CARD OF 'graduslaw04.TreePieces'. -/
def treePiecesCard : Claim7 := { stood := { row := treePiecesRow, standIns := [], harness := (true, "082a16fa1c01a48f8eabd4a485782712e43de1286c8c982807d3ffc57ee3f40e"), looks := true }, kinds := [], alts := [], laidByText := true, laidKinds := [.data, .data, .data, .listed, .data], laidTests := true, laidLooks := .later }
def TreePiecesCardSaid : Prop := Claim7.holds Tryz.pinned (.plain (OpenSpec.ofChange treePiecesSpec)) treePiecesCard

/-- THE TIED CARD OF 'graduslaw04.TreeBare'. -/
def treeBareCard : Claim7 := { stood := { row := treeBareRow, standIns := [], harness := (true, "082a16fa1c01a48f8eabd4a485782712e43de1286c8c982807d3ffc57ee3f40e"), looks := true }, kinds := [], alts := [], laidByText := true, laidKinds := [.data, .data, .data, .listed, .data], laidTests := true, laidLooks := .later }
def TreeBareCardSaid : Prop := Claim7.holds Tryz.pinned (.plain (OpenSpec.ofChange treeBareSpec)) treeBareCard

/-- THE TIED CARD OF 'graduslaw04.TreeLexes'. -/
def treeLexesCard : Claim7 := { stood := { row := treeLexesRow, standIns := [], harness := (true, "082a16fa1c01a48f8eabd4a485782712e43de1286c8c982807d3ffc57ee3f40e"), looks := true }, kinds := [], alts := [], laidByText := true, laidKinds := [.data, .data, .data, .sentinel, .sentinel, .listed, .data], laidTests := true, laidLooks := .later }
def TreeLexesCardSaid : Prop := Claim7.holds Tryz.pinned (.plain (OpenSpec.ofChange treeLexesSpec)) treeLexesCard

/-- THE TIED CARD OF 'graduslaw04.TreeNormal'. -/
def treeNormalCard : Claim7 := { stood := { row := treeNormalRow, standIns := [], harness := (true, "082a16fa1c01a48f8eabd4a485782712e43de1286c8c982807d3ffc57ee3f40e"), looks := true }, kinds := [], alts := [], laidByText := true, laidKinds := [.data, .data, .data, .listed, .data], laidTests := true, laidLooks := .later }
def TreeNormalCardSaid : Prop := Claim7.holds Tryz.pinned (.plain (OpenSpec.ofChange treeNormalSpec)) treeNormalCard

/-- THE SECOND FORM's CARD OF 'graduslaw04.TreeExprs'. -/
def treeExprsUptoCard : Claim7 := { stood := { row := treeExprsUptoRow, standIns := [], harness := (true, "082a16fa1c01a48f8eabd4a485782712e43de1286c8c982807d3ffc57ee3f40e"), looks := true }, kinds := [], alts := [], laidByText := true, laidKinds := [.data, .data, .data, .listed, .data], laidTests := true, laidLooks := .later }
def TreeExprsUptoCardSaid : Prop := Claim7.holds Tryz.pinned (.plain (OpenSpec.upto treeExprsSpec)) treeExprsUptoCard

/-- THE SECOND FORM's CARD OF 'graduslaw04.TreeTypes'. -/
def treeTypesUptoCard : Claim7 := { stood := { row := treeTypesUptoRow, standIns := [], harness := (true, "082a16fa1c01a48f8eabd4a485782712e43de1286c8c982807d3ffc57ee3f40e"), looks := true }, kinds := [], alts := [], laidByText := true, laidKinds := [.data, .data, .data, .listed, .data], laidTests := true, laidLooks := .later }
def TreeTypesUptoCardSaid : Prop := Claim7.holds Tryz.pinned (.plain (OpenSpec.upto treeTypesSpec)) treeTypesUptoCard

/-- THE SECOND FORM's CARD OF 'graduslaw04.TreePrints'. -/
def treePrintsUptoCard : Claim7 := { stood := { row := treePrintsUptoRow, standIns := [], harness := (true, "082a16fa1c01a48f8eabd4a485782712e43de1286c8c982807d3ffc57ee3f40e"), looks := true }, kinds := [], alts := [], laidByText := true, laidKinds := [.data, .data, .data, .listed, .data], laidTests := true, laidLooks := .later }
def TreePrintsUptoCardSaid : Prop := Claim7.holds Tryz.pinned (.plain (OpenSpec.upto treePrintsSpec)) treePrintsUptoCard

/-- THE SECOND FORM's CARD OF 'graduslaw04.TreePieces'. -/
def treePiecesUptoCard : Claim7 := { stood := { row := treePiecesUptoRow, standIns := [], harness := (true, "082a16fa1c01a48f8eabd4a485782712e43de1286c8c982807d3ffc57ee3f40e"), looks := true }, kinds := [], alts := [], laidByText := true, laidKinds := [.data, .data, .data, .listed, .data], laidTests := true, laidLooks := .later }
def TreePiecesUptoCardSaid : Prop := Claim7.holds Tryz.pinned (.plain (OpenSpec.upto treePiecesSpec)) treePiecesUptoCard

/-- THE SECOND FORM's CARD OF 'graduslaw04.TreeBare'. -/
def treeBareUptoCard : Claim7 := { stood := { row := treeBareUptoRow, standIns := [], harness := (true, "082a16fa1c01a48f8eabd4a485782712e43de1286c8c982807d3ffc57ee3f40e"), looks := true }, kinds := [], alts := [], laidByText := true, laidKinds := [.data, .data, .data, .listed, .data], laidTests := true, laidLooks := .later }
def TreeBareUptoCardSaid : Prop := Claim7.holds Tryz.pinned (.plain (OpenSpec.upto treeBareSpec)) treeBareUptoCard

/-- THE SECOND FORM's CARD OF 'graduslaw04.TreeLexes'. -/
def treeLexesUptoCard : Claim7 := { stood := { row := treeLexesUptoRow, standIns := [], harness := (true, "082a16fa1c01a48f8eabd4a485782712e43de1286c8c982807d3ffc57ee3f40e"), looks := true }, kinds := [], alts := [], laidByText := true, laidKinds := [.data, .data, .data, .sentinel, .sentinel, .listed, .data], laidTests := true, laidLooks := .later }
def TreeLexesUptoCardSaid : Prop := Claim7.holds Tryz.pinned (.plain (OpenSpec.upto treeLexesSpec)) treeLexesUptoCard

/-- THE SECOND FORM's CARD OF 'graduslaw04.TreeNormal'. -/
def treeNormalUptoCard : Claim7 := { stood := { row := treeNormalUptoRow, standIns := [], harness := (true, "082a16fa1c01a48f8eabd4a485782712e43de1286c8c982807d3ffc57ee3f40e"), looks := true }, kinds := [], alts := [], laidByText := true, laidKinds := [.data, .data, .data, .listed, .data], laidTests := true, laidLooks := .later }
def TreeNormalUptoCardSaid : Prop := Claim7.holds Tryz.pinned (.plain (OpenSpec.upto treeNormalSpec)) treeNormalUptoCard
end Rows
end Go.Proofs.YtbpedjkebemhnaaGreatDoor
