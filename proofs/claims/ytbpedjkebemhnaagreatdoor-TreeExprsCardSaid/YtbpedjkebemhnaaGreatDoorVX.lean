/- An expression as text, the reference: the contract. -/
import Derived.Test.YtbpedjkebemhnaaGreatDoorVB
import Derived.Test.YtbpedjkebemhnaaGreatDoorVD
import Derived.Test.YtbpedjkebemhnaaGreatDoorUM
import Derived.Test.YtbpedjkebemhnaaGreatDoorWH
import Derived.Test.YtbpedjkebemhnaaGreatDoorQG
set_option linter.unusedVariables false
namespace Go.Proofs.YtbpedjkebemhnaaGreatDoor
open Go.RowKit

/-- The contract of the reference's expr, of an expression of not too many. -/
def RExC (x : NoD) : Prop := ∀ (w : World) (z : List Value) (m : Nat), NoR w w.heap.size z x → okN x → nodeB m x = true → cntN x ≤ 100000 →
  Calls Tryz.prog 35 #[.agg z.toArray] w fun e w' => e = .returned (sv (exprS x)) ∧ Below w.heap.size w w'
end Go.Proofs.YtbpedjkebemhnaaGreatDoor
