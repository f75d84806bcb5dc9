/- What the rows' listed variables give the walks, and a world in which they read so. -/
import Derived.Test.YtpgngegdflbahaaGreatDoorXB
import Derived.Test.YtpgngegdflbahaaGreatDoorCards
import Derived.Test.YtpgngegdflbahaaGreatDoorTie
import Derived.ProofKit
import Derived.OpenShut
import Derived.LaidMore
import Derived.LaidSub
import Derived.Stop.Joined
import Derived.Stop.LaidErr
import Derived.Lib.LaidTab
import Derived.Deep.DeepHandedRow
import Derived.Deep.DeepWitnessRowRef
set_option linter.unusedVariables false
namespace Go.Proofs.YtpgngegdflbahaaGreatDoor
open Go.ChangeShapes Go.WideShapes Go.ChangeAt Go.RowKit

theorem own : ownKnob Tryz.prog.godebug = none := by kernel_rfl
theorem laidOut : laidOutB Tryz.prog = true := by kernel_rfl
theorem star_es : "*" ++ "errors.errorString" = "*errors.errorString" := by decide
theorem row_es (u : TypeId) (h : Tryz.prog.typeName? 3 u = some "*errors.errorString") : u = 164 :=
  typeName_ptr_named (nm := "errors.errorString") (by rw [star_es]; kernel_rfl) (by kernel_rfl) (by decide) u (by rw [star_es]; exact h)

def tabName : String := "internal/strconv.uint64pow10"
theorem laidW_of {l : List (String × DataW Unit)} {W : World} (hp : (l.all fun x => x.2.handleName?.isNone) = true)
    (h1 : (l.filter fun x => x.1 == "internal/strconv.uint64pow10") = [("internal/strconv.uint64pow10", Lib.tabData .u64 Lib.pow10Tab)])
    (h2 : (l.filter fun x => x.1 == "strconv.ErrSyntax") = [("strconv.ErrSyntax", Rows.laid_strconv_ErrSyntax)])
    (h3 : (l.filter fun x => x.1 == "strconv.ErrRange") = [("strconv.ErrRange", Rows.laid_strconv_ErrRange)])
    (h : laidMetH Tryz.prog l W) : LaidW W := by
  have g1 := laidMetH.filter (fun x => x.1 == "internal/strconv.uint64pow10") h
  have g2 := laidMetH.filter (fun x => x.1 == "strconv.ErrSyntax") h
  have g3 := laidMetH.filter (fun x => x.1 == "strconv.ErrRange") h
  rw [h1] at g1
  rw [h2] at g2
  rw [h3] at g3
  rw [MakeChecks.laidMetH_plain _ _ _ (by kernel_rfl)] at g1
  rw [MakeChecks.laidMetH_plain _ _ _ (by kernel_rfl)] at g2
  rw [MakeChecks.laidMetH_plain _ _ _ (by kernel_rfl)] at g3
  obtain ⟨a2, _, e2, _⟩ := laid_sentinel g2 (g := 3) (by kernel_rfl) (by kernel_rfl) Tryz.underlying94 row_es Tryz.underlying164 Tryz.underlying166 rfl rfl Tryz.underlying9 (by kernel_rfl) (by kernel_rfl)
  obtain ⟨a3, _, e3, _⟩ := laid_sentinel g3 (g := 4) (by kernel_rfl) (by kernel_rfl) Tryz.underlying94 row_es Tryz.underlying164 Tryz.underlying166 rfl rfl Tryz.underlying9 (by kernel_rfl) (by kernel_rfl)
  refine ⟨?_, ⟨_, _, e2⟩, ⟨_, _, e3⟩⟩
  exact Lib.tabIs_of_head (g := 5) (by kernel_rfl) (by kernel_rfl) Tryz.underlying174 Tryz.underlying155 (by kernel_rfl) (by kernel_rfl) g1

theorem ascii_of {l : List (String × DataW Unit)} {W : World}
    (h1 : (l.filter fun x => x.1 == "strings.asciiSpace") = [("strings.asciiSpace", Lib.tabData .u8 Lib.asciiSpaceTab)])
    (h : laidMetH Tryz.prog l W) : Lib.TabIs Tryz.prog W "strings.asciiSpace" .u8 Lib.asciiSpaceTab := by
  have g1 := laidMetH.filter (fun x => x.1 == "strings.asciiSpace") h
  rw [h1] at g1
  rw [MakeChecks.laidMetH_plain _ _ _ (by kernel_rfl)] at g1
  exact Lib.tabIs_of_head (g := 0) (by kernel_rfl) (by kernel_rfl) Tryz.underlying76 Tryz.underlying5 (by kernel_rfl) (by kernel_rfl) g1
theorem pre_laid {W : World} (h : laidMetH Tryz.prog Rows.lexQuotesRow.laid W) : LaidX W :=
  ⟨laidW_of (by kernel_rfl) (by kernel_rfl) (by kernel_rfl) (by kernel_rfl) h, ascii_of (by kernel_rfl) h⟩

/-- The door's own heap meets the condition. -/
theorem door_met (os : Os) (args : Array Value) : laidMetH Tryz.prog Rows.lexQuotesRow.laid ((World.doorLaid Tryz.prog 400 os).forCall (fun _ _ => 0) ⟨#[], args, []⟩).memory :=
  laidMetH_of_parts3 (fuel := 8) (laidMet_of_run' 8 (by kernel_rfl) (by kernel_rfl)) (by kernel_rfl) (by kernel_rfl)
end Go.Proofs.YtpgngegdflbahaaGreatDoor
