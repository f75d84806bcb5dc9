/- What the tree rows' listed variables give the walks, and a world in which they read so. -/
import Derived.Test.YtbpedjkebemhnaaGreatDoorGE
import Derived.Test.YtbpedjkebemhnaaGreatDoorCards
import Derived.Test.YtbpedjkebemhnaaGreatDoorTie
import Derived.ProofKit
import Derived.OpenShut
import Derived.LaidMore
import Derived.LaidSub
import Derived.Stop.Joined
import Derived.Stop.LaidErr
import Derived.Lib.LaidTab
import Derived.Deep.DeepHandedRow
import Derived.Deep.DeepWitnessRowRef
set_option linter.unusedVariables false
namespace Go.Proofs.YtbpedjkebemhnaaGreatDoor
open Go.ChangeShapes Go.WideShapes Go.ChangeAt Go.RowKit

theorem own : ownKnob Tryz.prog.godebug = none := by kernel_rfl
theorem laidOut : laidOutB Tryz.prog = true := by kernel_rfl
theorem pow10_of {l : List (String × DataW Unit)} {W : World}
    (h1 : (l.filter fun x => x.1 == "internal/strconv.uint64pow10") = [("internal/strconv.uint64pow10", Lib.tabData .u64 Lib.pow10Tab)])
    (h : laidMetH Tryz.prog l W) : Lib.TabIs Tryz.prog W "internal/strconv.uint64pow10" .u64 Lib.pow10Tab := by
  have g1 := laidMetH.filter (fun x => x.1 == "internal/strconv.uint64pow10") h
  rw [h1] at g1
  rw [MakeChecks.laidMetH_plain _ _ _ (by kernel_rfl)] at g1
  exact Lib.tabIs_of_head (g := 5) (by kernel_rfl) (by kernel_rfl) Tryz.underlying258 Tryz.underlying213 (by kernel_rfl) (by kernel_rfl) g1
theorem ascii_of {l : List (String × DataW Unit)} {W : World}
    (h1 : (l.filter fun x => x.1 == "strings.asciiSpace") = [("strings.asciiSpace", Lib.tabData .u8 Lib.asciiSpaceTab)])
    (h : laidMetH Tryz.prog l W) : Lib.TabIs Tryz.prog W "strings.asciiSpace" .u8 Lib.asciiSpaceTab := by
  have g1 := laidMetH.filter (fun x => x.1 == "strings.asciiSpace") h
  rw [h1] at g1
  rw [MakeChecks.laidMetH_plain _ _ _ (by kernel_rfl)] at g1
  exact Lib.tabIs_of_head (g := 0) (by kernel_rfl) (by kernel_rfl) Tryz.underlying120 Tryz.underlying5 (by kernel_rfl) (by kernel_rfl) g1
theorem pre_laid {W : World} (h : laidMetH Tryz.prog Rows.treeTypesRow.laid W) : LaidT W := ⟨pow10_of (by kernel_rfl) h, ascii_of (by kernel_rfl) h⟩
/-- The door's own heap meets the condition. -/
theorem door_met (os : Os) (args : Array Value) : laidMetH Tryz.prog Rows.treeTypesRow.laid ((World.doorLaid Tryz.prog 400 os).forCall (fun _ _ => 0) ⟨#[], args, []⟩).memory :=
  laidMetH_of_parts3 (fuel := 8) (laidMet_of_run' 8 (by kernel_rfl) (by kernel_rfl)) (by kernel_rfl) (by kernel_rfl)
end Go.Proofs.YtbpedjkebemhnaaGreatDoor
