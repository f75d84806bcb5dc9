/- An expression as text: the contract. -/
import Derived.Test.YtbpedjkebemhnaaGreatDoorUM
import Derived.Test.YtbpedjkebemhnaaGreatDoorUI
set_option linter.unusedVariables false
namespace Go.Proofs.YtbpedjkebemhnaaGreatDoor
open Go.RowKit

/-- The contract of expr, of an expression of not too many. -/
def ExC (x : NoD) : Prop := ∀ (w : World) (z : List Value) (m : Nat), NoR w w.heap.size z x → okN x → nodeB m x = true → cntN x ≤ 100000 → LaidT w →
  Calls Tryz.prog 33 #[.agg z.toArray] w fun e w' => e = .returned (sv (exprS x)) ∧ Below w.heap.size w w'
end Go.Proofs.YtbpedjkebemhnaaGreatDoor
