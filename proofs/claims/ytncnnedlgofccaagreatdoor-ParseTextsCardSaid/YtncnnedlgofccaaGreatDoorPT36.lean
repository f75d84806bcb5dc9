/- XW -/
import Derived.Test.YtncnnedlgofccaaGreatDoorPT06
import Derived.Test.YtncnnedlgofccaaGreatDoorCards
import Derived.Test.YtncnnedlgofccaaGreatDoorTie
import Derived.LaidMore
import Derived.Stop.LaidErr
import Derived.Deep.DeepWitnessRowRef
set_option linter.unusedSimpArgs false
set_option linter.unusedVariables false
namespace Go.Proofs.YtncnnedlgofccaaGreatDoor
open Go.ChangeShapes Go.WideShapes Go.ChangeAt Go.RowKit
theorem own:ownKnob Tryz.prog.godebug=none:=by kernel_rfl
theorem Vx: "*" ++ "errors.errorString" = "*errors.errorString" :=by decide
theorem adQ (u:TypeId) (h:Tryz.prog.typeName? 3 u=some "*errors.errorString"):u=343:=
 typeName_ptr_named (nm:= "errors.errorString") (by rw [Vx];kernel_rfl) (by kernel_rfl) (by decide) u (by rw [Vx];exact h)
theorem Yg {l:List (String ×DataW Unit)}{W:World}(hp:(l.all fun x=>x.2.handleName?.isNone)=true)
  (h1:(l.filter fun x=>x.1== "internal/strconv.uint64pow10")=[("internal/strconv.uint64pow10",Lib.tabData .u64 Lib.pow10Tab)])
  (h2:(l.filter fun x=>x.1== "strconv.ErrSyntax")=[("strconv.ErrSyntax",Rows.laid_strconv_ErrSyntax)])
  (h3:(l.filter fun x=>x.1== "strconv.ErrRange")=[("strconv.ErrRange",Rows.laid_strconv_ErrRange)])
  (h:laidMetH Tryz.prog l W):uq W:=by
 have g1:=laidMetH.filter (fun x=>x.1== "internal/strconv.uint64pow10") h;have g2:=laidMetH.filter (fun x=>x.1== "strconv.ErrSyntax") h;have g3:=laidMetH.filter (fun x=>x.1== "strconv.ErrRange") h;rw [h1]at g1;rw [h2]at g2;rw [h3]at g3;rw [MakeChecks.laidMetH_plain _ _ _ (by kernel_rfl)]at g1;rw [MakeChecks.laidMetH_plain _ _ _ (by kernel_rfl)]at g2;rw [MakeChecks.laidMetH_plain _ _ _ (by kernel_rfl)]at g3;obtain⟨a2, _,e2, _⟩:=laid_sentinel g2 (g:=4) (by kernel_rfl) (by kernel_rfl) Tryz.underlying104 adQ Tryz.underlying343 Tryz.underlying345 rfl rfl Tryz.underlying9 (by kernel_rfl) (by kernel_rfl);obtain⟨a3, _,e3, _⟩:=laid_sentinel g3 (g:=5) (by kernel_rfl) (by kernel_rfl) Tryz.underlying104 adQ Tryz.underlying343 Tryz.underlying345 rfl rfl Tryz.underlying9 (by kernel_rfl) (by kernel_rfl);refine⟨?_,⟨_, _,e2⟩,⟨_, _,e3⟩⟩;exact Lib.tabIs_of_head (g:=3) (by kernel_rfl) (by kernel_rfl) Tryz.underlying307 Tryz.underlying236 (by kernel_rfl) (by kernel_rfl) g1
theorem Yh {l:List (String ×DataW Unit)}{W:World}
  (h1:(l.filter fun x=>x.1== "strings.asciiSpace")=[("strings.asciiSpace",Lib.tabData .u8 Lib.asciiSpaceTab)])
  (h:laidMetH Tryz.prog l W):Lib.TabIs Tryz.prog W "strings.asciiSpace" .u8 Lib.asciiSpaceTab:=by
 have g1:=laidMetH.filter (fun x=>x.1== "strings.asciiSpace") h;rw [h1]at g1;rw [MakeChecks.laidMetH_plain _ _ _ (by kernel_rfl)]at g1;exact Lib.tabIs_of_head (g:=0) (by kernel_rfl) (by kernel_rfl) Tryz.underlying230 Tryz.underlying5 (by kernel_rfl) (by kernel_rfl) g1
end Go.Proofs.YtncnnedlgofccaaGreatDoor
