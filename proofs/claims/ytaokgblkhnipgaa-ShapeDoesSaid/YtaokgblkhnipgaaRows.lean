/-
  No cell of these rows narrows 'for every input' (looked for: loops, veiled, ifaces, maps, wideKeys, modest, calm, conditions, laid).
  DERIVED. THE GIVEN ROWS OF THIS SEAT. 4 by the template 'for every input the law returns true; each argument reads behind the call as it read before'; 0 by the template 'total and deterministic' (their statements: YtaokgblkhnipgaaTotals.lean).
  GIVEN WITH THE SEED: the statements are not yours to turn. If you find one false, say at which input.
  Laid BY PROGRAM, IN A SANDBOX (cutbox-rows.mjs): the forced cells as the released guide's own fill.sh prints them over the translation 733f61ff02713b3c… (all of the seat's roots in one cut). By AI agents, Wed Nov 11 2026. No macro, syntax, notation, axiom, sorry.
-/
import Derived.Test.YtaokgblkhnipgaaChecked
import GoSem.Claim
import GoSem.ClaimJoined
import GoSem.ClaimMapViews
import Derived.JoinedTies
import Derived.KernelRfl
namespace Go.Proofs.Ytaokgblkhnipgaa
/- THE CELL 'sum', in the pinned program and in every row, IS THE sha256 OF THE DUMP (.gsa) THAT YtaokgblkhnipgaaProg.lean LOADS. Nothing in Lean hashes anything: it is a label: what it is worth is what the hold of that sum in a sandbox is worth. -/
noncomputable def Try.pinned : Pinned := { name := "ytaokgblkhnipgaa", sum := "733f61ff02713b3cb716e095898d6374b477206180a99ab82977141c117f8d63", checked := Try.checked }
namespace Rows
def none {H : Type} : Left H := { results := [], args := [] }

/-- 'graduslaw15.ShapeStays': WHATEVER THE INPUT: true; the input reads as it did. -/
def shapeStaysSpec : ChangeSpec := { name := "shapeStays", fn := fun _ => fun
  | [d1, d2] => { results := [.lit (.bool true)], args := [d1, d2] }
  | _ => none }
def shapeStaysRow : OpenClaim := { program := "ytaokgblkhnipgaa", sum := "733f61ff02713b3cb716e095898d6374b477206180a99ab82977141c117f8d63", func := "gradus/graduslaw15.ShapeStays", spec := "shapeStays", plainKeys := false, apart := false }
def ShapeStaysSaid : Prop := shapeStaysRow.holds Try.pinned (OpenSpec.ofChange shapeStaysSpec)

/-- ITS FALSE NEIGHBOUR: 'it returns false'. Refute it at one input. -/
def shapeStaysWrong : ChangeSpec := { name := "shapeStays", fn := fun _ => fun
  | [d1, d2] => { results := [.lit (.bool false)], args := [d1, d2] }
  | _ => none }
def ShapeStaysWrongFalsely : Prop := shapeStaysRow.holds Try.pinned (OpenSpec.ofChange shapeStaysWrong)

/-- 'graduslaw15.ShapeOwn': WHATEVER THE INPUT: true; the input reads as it did. -/
def shapeOwnSpec : ChangeSpec := { name := "shapeOwn", fn := fun _ => fun
  | [d1, d2] => { results := [.lit (.bool true)], args := [d1, d2] }
  | _ => none }
def shapeOwnRow : OpenClaim := { program := "ytaokgblkhnipgaa", sum := "733f61ff02713b3cb716e095898d6374b477206180a99ab82977141c117f8d63", func := "gradus/graduslaw15.ShapeOwn", spec := "shapeOwn", plainKeys := false, apart := false }
def ShapeOwnSaid : Prop := shapeOwnRow.holds Try.pinned (OpenSpec.ofChange shapeOwnSpec)

/-- ITS FALSE NEIGHBOUR: 'it returns false'. Refute it at one input. -/
def shapeOwnWrong : ChangeSpec := { name := "shapeOwn", fn := fun _ => fun
  | [d1, d2] => { results := [.lit (.bool false)], args := [d1, d2] }
  | _ => none }
def ShapeOwnWrongFalsely : Prop := shapeOwnRow.holds Try.pinned (OpenSpec.ofChange shapeOwnWrong)

/-- 'graduslaw15.ShapeDoes': WHATEVER THE INPUT: true; the input reads as it did. -/
def shapeDoesSpec : ChangeSpec := { name := "shapeDoes", fn := fun _ => fun
  | [d1, d2] => { results := [.lit (.bool true)], args := [d1, d2] }
  | _ => none }
def shapeDoesRow : OpenClaim := { program := "ytaokgblkhnipgaa", sum := "733f61ff02713b3cb716e095898d6374b477206180a99ab82977141c117f8d63", func := "gradus/graduslaw15.ShapeDoes", spec := "shapeDoes", plainKeys := false, apart := false }
def ShapeDoesSaid : Prop := shapeDoesRow.holds Try.pinned (OpenSpec.ofChange shapeDoesSpec)

/-- ITS FALSE NEIGHBOUR: 'it returns false'. Refute it at one input. -/
def shapeDoesWrong : ChangeSpec := { name := "shapeDoes", fn := fun _ => fun
  | [d1, d2] => { results := [.lit (.bool false)], args := [d1, d2] }
  | _ => none }
def ShapeDoesWrongFalsely : Prop := shapeDoesRow.holds Try.pinned (OpenSpec.ofChange shapeDoesWrong)

/-- 'graduslaw15.ShapeSlots': WHATEVER THE INPUT: true; the input reads as it did. -/
def shapeSlotsSpec : ChangeSpec := { name := "shapeSlots", fn := fun _ => fun
  | [d] => { results := [.lit (.bool true)], args := [d] }
  | _ => none }
def shapeSlotsRow : OpenClaim := { program := "ytaokgblkhnipgaa", sum := "733f61ff02713b3cb716e095898d6374b477206180a99ab82977141c117f8d63", func := "gradus/graduslaw15.ShapeSlots", spec := "shapeSlots", plainKeys := false, apart := false }
def ShapeSlotsSaid : Prop := shapeSlotsRow.holds Try.pinned (OpenSpec.ofChange shapeSlotsSpec)

/-- ITS FALSE NEIGHBOUR: 'it returns false'. Refute it at one input. -/
def shapeSlotsWrong : ChangeSpec := { name := "shapeSlots", fn := fun _ => fun
  | [d] => { results := [.lit (.bool false)], args := [d] }
  | _ => none }
def ShapeSlotsWrongFalsely : Prop := shapeSlotsRow.holds Try.pinned (OpenSpec.ofChange shapeSlotsWrong)

/- THE SECOND FORM. 'bulk': how many values and letters a reading holds, each counted each time it is reached (what is shared counts as often as it is met; a slice's spare places count too). A statement '..UptoSaid' is the law's where the arguments, and the package variables that the reading takes, are together of bulk at most 1048576: NARROWER than '..Said'. Prove '..Said' where nothing that the law and all that it calls make is longer than what came in: it says more and counts as full. Else prove '..UptoSaid'. A law counts once. -/
mutual
def uptoBulk {H : Type} : DataW H → Nat
  | .lit (.string bytes) => bytes.length + 1
  | .lit _ => 1
  | .nil => 1
  | .ptr d => uptoBulk d + 1
  | .slice elems spare => uptoBulkAll elems + uptoBulkAll spare + 1
  | .agg parts => uptoBulkAll parts + 1
  | .iface _ d => uptoBulk d + 1
  | .map entries => uptoBulkEntries entries + 1
  | .held _ => 1
def uptoBulkAll {H : Type} : List (DataW H) → Nat
  | [] => 0
  | d :: r => uptoBulk d + uptoBulkAll r
def uptoBulkEntries {H : Type} : List (Lit × DataW H) → Nat
  | [] => 0
  | x :: r => uptoBulkEntry x + uptoBulkEntries r
def uptoBulkEntry {H : Type} : Lit × DataW H → Nat
  | (.string bytes, d) => bytes.length + uptoBulk d + 1
  | (_, d) => uptoBulk d + 1
 end
def uptoSmall : (H : Type) → List (DataW H) → Bool := fun _ ds => decide (uptoBulkAll ds ≤ 1048576)
def OpenSpec.upto (s : _root_.Go.ChangeSpec) : _root_.Go.OpenSpec := { _root_.Go.OpenSpec.ofChange s with cond := some uptoSmall }

/-- 'graduslaw15.ShapeStays', WHERE WHAT IT READS IS OF BULK AT MOST 1048576: true; the input reads as it did. -/
def shapeStaysUptoRow : OpenClaim := { program := "ytaokgblkhnipgaa", sum := "733f61ff02713b3cb716e095898d6374b477206180a99ab82977141c117f8d63", func := "gradus/graduslaw15.ShapeStays", spec := "shapeStays", plainKeys := false, apart := false, narrowed := true }
def ShapeStaysUptoSaid : Prop := shapeStaysUptoRow.holds Try.pinned (OpenSpec.upto shapeStaysSpec)

/-- 'graduslaw15.ShapeOwn', WHERE WHAT IT READS IS OF BULK AT MOST 1048576: true; the input reads as it did. -/
def shapeOwnUptoRow : OpenClaim := { program := "ytaokgblkhnipgaa", sum := "733f61ff02713b3cb716e095898d6374b477206180a99ab82977141c117f8d63", func := "gradus/graduslaw15.ShapeOwn", spec := "shapeOwn", plainKeys := false, apart := false, narrowed := true }
def ShapeOwnUptoSaid : Prop := shapeOwnUptoRow.holds Try.pinned (OpenSpec.upto shapeOwnSpec)

/-- 'graduslaw15.ShapeDoes', WHERE WHAT IT READS IS OF BULK AT MOST 1048576: true; the input reads as it did. -/
def shapeDoesUptoRow : OpenClaim := { program := "ytaokgblkhnipgaa", sum := "733f61ff02713b3cb716e095898d6374b477206180a99ab82977141c117f8d63", func := "gradus/graduslaw15.ShapeDoes", spec := "shapeDoes", plainKeys := false, apart := false, narrowed := true }
def ShapeDoesUptoSaid : Prop := shapeDoesUptoRow.holds Try.pinned (OpenSpec.upto shapeDoesSpec)

/-- 'graduslaw15.ShapeSlots', WHERE WHAT IT READS IS OF BULK AT MOST 1048576: true; the input reads as it did. -/
def shapeSlotsUptoRow : OpenClaim := { program := "ytaokgblkhnipgaa", sum := "733f61ff02713b3cb716e095898d6374b477206180a99ab82977141c117f8d63", func := "gradus/graduslaw15.ShapeSlots", spec := "shapeSlots", plainKeys := false, apart := false, narrowed := true }
def ShapeSlotsUptoSaid : Prop := shapeSlotsUptoRow.holds Try.pinned (OpenSpec.upto shapeSlotsSpec)

end Rows
end Go.Proofs.Ytaokgblkhnipgaa
