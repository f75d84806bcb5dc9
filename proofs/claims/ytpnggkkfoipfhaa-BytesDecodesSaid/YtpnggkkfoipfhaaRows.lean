/-
  NARROWER THAN 'FOR EVERY INPUT', by the rows' own cells (each row's printed sentence says how): BytesEncodes: loops · BytesBack: loops · BytesCuts: loops.
  DERIVED. THE GIVEN ROWS OF THIS SEAT. 5 by the template 'for every input the law returns true; each argument reads behind the call as it read before'; 0 by the template 'total and deterministic' (their statements: YtpnggkkfoipfhaaTotals.lean).
  GIVEN WITH THE SEED: the statements are not yours to turn. If you find one false, say at which input.
  Laid BY PROGRAM, IN A SANDBOX (cutbox-rows.mjs): the forced cells as the released guide's own fill.sh prints them over the translation 88a498e7791c7d33… (all of the seat's roots in one cut). By AI agents, Wed Nov 11 2026. No macro, syntax, notation, axiom, sorry.
-/
import Derived.Test.YtpnggkkfoipfhaaChecked
import GoSem.Claim
import GoSem.ClaimJoined
import GoSem.ClaimMapViews
import Derived.JoinedTies
import Derived.KernelRfl
namespace Go.Proofs.Ytpnggkkfoipfhaa
/- THE CELL 'sum', in the pinned program and in every row, IS THE sha256 OF THE DUMP (.gsa) THAT YtpnggkkfoipfhaaProg.lean LOADS. Nothing in Lean hashes anything: it is a label: what it is worth is what the hold of that sum in a sandbox is worth. -/
noncomputable def Try.pinned : Pinned := { name := "ytpnggkkfoipfhaa", sum := "88a498e7791c7d334b54b243c76e170a644140bb3a2e9757cce417223e368f33", checked := Try.checked }
namespace Rows
def none {H : Type} : Left H := { results := [], args := [] }

/-- 'graduslaw17.BytesEncodes': WHATEVER THE INPUT: true; the input reads as it did. -/
def bytesEncodesSpec : ChangeSpec := { name := "bytesEncodes", fn := fun _ => fun
  | [d] => { results := [.lit (.bool true)], args := [d] }
  | _ => none }
def bytesEncodesRow : OpenClaim := { program := "ytpnggkkfoipfhaa", sum := "88a498e7791c7d334b54b243c76e170a644140bb3a2e9757cce417223e368f33", func := "gradus/graduslaw17.BytesEncodes", spec := "bytesEncodes", unfollowed := true, recurses := true, loops := true, apart := false }
def BytesEncodesSaid : Prop := bytesEncodesRow.holds Try.pinned (OpenSpec.ofChange bytesEncodesSpec)

/-- ITS FALSE NEIGHBOUR: 'it returns false'. Refute it at one input. -/
def bytesEncodesWrong : ChangeSpec := { name := "bytesEncodes", fn := fun _ => fun
  | [d] => { results := [.lit (.bool false)], args := [d] }
  | _ => none }
def BytesEncodesWrongFalsely : Prop := bytesEncodesRow.holds Try.pinned (OpenSpec.ofChange bytesEncodesWrong)

/-- 'graduslaw17.BytesDecodes': WHATEVER THE INPUT: true; the input reads as it did. -/
def bytesDecodesSpec : ChangeSpec := { name := "bytesDecodes", fn := fun _ => fun
  | [d] => { results := [.lit (.bool true)], args := [d] }
  | _ => none }
def bytesDecodesRow : OpenClaim := { program := "ytpnggkkfoipfhaa", sum := "88a498e7791c7d334b54b243c76e170a644140bb3a2e9757cce417223e368f33", func := "gradus/graduslaw17.BytesDecodes", spec := "bytesDecodes", unfollowed := true, recurses := true, apart := false }
def BytesDecodesSaid : Prop := bytesDecodesRow.holds Try.pinned (OpenSpec.ofChange bytesDecodesSpec)

/-- ITS FALSE NEIGHBOUR: 'it returns false'. Refute it at one input. -/
def bytesDecodesWrong : ChangeSpec := { name := "bytesDecodes", fn := fun _ => fun
  | [d] => { results := [.lit (.bool false)], args := [d] }
  | _ => none }
def BytesDecodesWrongFalsely : Prop := bytesDecodesRow.holds Try.pinned (OpenSpec.ofChange bytesDecodesWrong)

/-- 'graduslaw17.BytesBack': WHATEVER THE INPUT: true; the input reads as it did. -/
def bytesBackSpec : ChangeSpec := { name := "bytesBack", fn := fun _ => fun
  | [d] => { results := [.lit (.bool true)], args := [d] }
  | _ => none }
def bytesBackRow : OpenClaim := { program := "ytpnggkkfoipfhaa", sum := "88a498e7791c7d334b54b243c76e170a644140bb3a2e9757cce417223e368f33", func := "gradus/graduslaw17.BytesBack", spec := "bytesBack", unfollowed := true, recurses := true, loops := true, apart := false }
def BytesBackSaid : Prop := bytesBackRow.holds Try.pinned (OpenSpec.ofChange bytesBackSpec)

/-- ITS FALSE NEIGHBOUR: 'it returns false'. Refute it at one input. -/
def bytesBackWrong : ChangeSpec := { name := "bytesBack", fn := fun _ => fun
  | [d] => { results := [.lit (.bool false)], args := [d] }
  | _ => none }
def BytesBackWrongFalsely : Prop := bytesBackRow.holds Try.pinned (OpenSpec.ofChange bytesBackWrong)

/-- 'graduslaw17.BytesAgain': WHATEVER THE INPUT: true; the input reads as it did. -/
def bytesAgainSpec : ChangeSpec := { name := "bytesAgain", fn := fun _ => fun
  | [d] => { results := [.lit (.bool true)], args := [d] }
  | _ => none }
def bytesAgainRow : OpenClaim := { program := "ytpnggkkfoipfhaa", sum := "88a498e7791c7d334b54b243c76e170a644140bb3a2e9757cce417223e368f33", func := "gradus/graduslaw17.BytesAgain", spec := "bytesAgain", unfollowed := true, recurses := true, apart := false }
def BytesAgainSaid : Prop := bytesAgainRow.holds Try.pinned (OpenSpec.ofChange bytesAgainSpec)

/-- ITS FALSE NEIGHBOUR: 'it returns false'. Refute it at one input. -/
def bytesAgainWrong : ChangeSpec := { name := "bytesAgain", fn := fun _ => fun
  | [d] => { results := [.lit (.bool false)], args := [d] }
  | _ => none }
def BytesAgainWrongFalsely : Prop := bytesAgainRow.holds Try.pinned (OpenSpec.ofChange bytesAgainWrong)

/-- 'graduslaw17.BytesCuts': WHATEVER THE INPUT: true; the input reads as it did. -/
def bytesCutsSpec : ChangeSpec := { name := "bytesCuts", fn := fun _ => fun
  | [d1, d2, d3] => { results := [.lit (.bool true)], args := [d1, d2, d3] }
  | _ => none }
def bytesCutsRow : OpenClaim := { program := "ytpnggkkfoipfhaa", sum := "88a498e7791c7d334b54b243c76e170a644140bb3a2e9757cce417223e368f33", func := "gradus/graduslaw17.BytesCuts", spec := "bytesCuts", unfollowed := true, recurses := true, loops := true, apart := false }
def BytesCutsSaid : Prop := bytesCutsRow.holds Try.pinned (OpenSpec.ofChange bytesCutsSpec)

/-- ITS FALSE NEIGHBOUR: 'it returns false'. Refute it at one input. -/
def bytesCutsWrong : ChangeSpec := { name := "bytesCuts", fn := fun _ => fun
  | [d1, d2, d3] => { results := [.lit (.bool false)], args := [d1, d2, d3] }
  | _ => none }
def BytesCutsWrongFalsely : Prop := bytesCutsRow.holds Try.pinned (OpenSpec.ofChange bytesCutsWrong)

/- THE SECOND FORM. 'bulk': how many values and letters a reading holds, each counted each time it is reached (what is shared counts as often as it is met; a slice's spare places count too). A statement '..UptoSaid' is the law's where the arguments, and the package variables that the reading takes, are together of bulk at most 1048576: NARROWER than '..Said'. Prove '..Said' where nothing that the law and all that it calls make is longer than what came in: it says more and counts as full. Else prove '..UptoSaid'. A law counts once. -/
mutual
def uptoBulk {H : Type} : DataW H → Nat
  | .lit (.string bytes) => bytes.length + 1
  | .lit _ => 1
  | .nil => 1
  | .ptr d => uptoBulk d + 1
  | .slice elems spare => uptoBulkAll elems + uptoBulkAll spare + 1
  | .agg parts => uptoBulkAll parts + 1
  | .iface _ d => uptoBulk d + 1
  | .map entries => uptoBulkEntries entries + 1
  | .held _ => 1
def uptoBulkAll {H : Type} : List (DataW H) → Nat
  | [] => 0
  | d :: r => uptoBulk d + uptoBulkAll r
def uptoBulkEntries {H : Type} : List (Lit × DataW H) → Nat
  | [] => 0
  | x :: r => uptoBulkEntry x + uptoBulkEntries r
def uptoBulkEntry {H : Type} : Lit × DataW H → Nat
  | (.string bytes, d) => bytes.length + uptoBulk d + 1
  | (_, d) => uptoBulk d + 1
 end
def uptoSmall : (H : Type) → List (DataW H) → Bool := fun _ ds => decide (uptoBulkAll ds ≤ 1048576)
def OpenSpec.upto (s : _root_.Go.ChangeSpec) : _root_.Go.OpenSpec := { _root_.Go.OpenSpec.ofChange s with cond := some uptoSmall }

/-- 'graduslaw17.BytesEncodes', WHERE WHAT IT READS IS OF BULK AT MOST 1048576: true; the input reads as it did. -/
def bytesEncodesUptoRow : OpenClaim := { program := "ytpnggkkfoipfhaa", sum := "88a498e7791c7d334b54b243c76e170a644140bb3a2e9757cce417223e368f33", func := "gradus/graduslaw17.BytesEncodes", spec := "bytesEncodes", unfollowed := true, recurses := true, loops := true, apart := false, narrowed := true }
def BytesEncodesUptoSaid : Prop := bytesEncodesUptoRow.holds Try.pinned (OpenSpec.upto bytesEncodesSpec)

/-- 'graduslaw17.BytesDecodes', WHERE WHAT IT READS IS OF BULK AT MOST 1048576: true; the input reads as it did. -/
def bytesDecodesUptoRow : OpenClaim := { program := "ytpnggkkfoipfhaa", sum := "88a498e7791c7d334b54b243c76e170a644140bb3a2e9757cce417223e368f33", func := "gradus/graduslaw17.BytesDecodes", spec := "bytesDecodes", unfollowed := true, recurses := true, apart := false, narrowed := true }
def BytesDecodesUptoSaid : Prop := bytesDecodesUptoRow.holds Try.pinned (OpenSpec.upto bytesDecodesSpec)

/-- 'graduslaw17.BytesBack', WHERE WHAT IT READS IS OF BULK AT MOST 1048576: true; the input reads as it did. -/
def bytesBackUptoRow : OpenClaim := { program := "ytpnggkkfoipfhaa", sum := "88a498e7791c7d334b54b243c76e170a644140bb3a2e9757cce417223e368f33", func := "gradus/graduslaw17.BytesBack", spec := "bytesBack", unfollowed := true, recurses := true, loops := true, apart := false, narrowed := true }
def BytesBackUptoSaid : Prop := bytesBackUptoRow.holds Try.pinned (OpenSpec.upto bytesBackSpec)

/-- 'graduslaw17.BytesAgain', WHERE WHAT IT READS IS OF BULK AT MOST 1048576: true; the input reads as it did. -/
def bytesAgainUptoRow : OpenClaim := { program := "ytpnggkkfoipfhaa", sum := "88a498e7791c7d334b54b243c76e170a644140bb3a2e9757cce417223e368f33", func := "gradus/graduslaw17.BytesAgain", spec := "bytesAgain", unfollowed := true, recurses := true, apart := false, narrowed := true }
def BytesAgainUptoSaid : Prop := bytesAgainUptoRow.holds Try.pinned (OpenSpec.upto bytesAgainSpec)

/-- 'graduslaw17.BytesCuts', WHERE WHAT IT READS IS OF BULK AT MOST 1048576: true; the input reads as it did. -/
def bytesCutsUptoRow : OpenClaim := { program := "ytpnggkkfoipfhaa", sum := "88a498e7791c7d334b54b243c76e170a644140bb3a2e9757cce417223e368f33", func := "gradus/graduslaw17.BytesCuts", spec := "bytesCuts", unfollowed := true, recurses := true, loops := true, apart := false, narrowed := true }
def BytesCutsUptoSaid : Prop := bytesCutsUptoRow.holds Try.pinned (OpenSpec.upto bytesCutsSpec)

end Rows
end Go.Proofs.Ytpnggkkfoipfhaa
