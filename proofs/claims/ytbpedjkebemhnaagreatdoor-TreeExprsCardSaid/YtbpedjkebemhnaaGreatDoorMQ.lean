/- Steps of regions that draw their order, said in short. -/
import Derived.Deep.RegionHeld
import Derived.WalkKit
import Derived.Test.YtbpedjkebemhnaaGreatDoorGA
set_option linter.unusedVariables false
namespace Go.Proofs.YtbpedjkebemhnaaGreatDoor
open Go.RowKit

section
variable {P : Program} {md : Region.Mode} {ops : Array Oper} {Q : Exit → Act → World → Prop} {S : World → Prop}
/-- Number i is taken first: it yields v. -/
theorem tk (i : Nat) (v : Value) {oi : Oper} {fuel : Nat} {listed listed' : Array Bool} {a a' : Act} {w : World} (hS : S w) (h : wpAnyH P md ops Q S fuel listed' a' w)
    (hi : ops[i]? = some oi := by rfl) (hs : Region.noSelect ops = true := by kernel_rfl) (hf : Region.free md ops listed i = true := by kernel_rfl) (hr : (Region.ready md ops listed).contains i = true := by kernel_rfl)
    (hQ : ∀ c a w, Q (.panic c) (a.put oi.dst v) w → Q (.panic c) a w := by exact fun _ _ _ h => h) (hw : Region.wanted oi (yielded ops a.tmps) = true := by kernel_rfl)
    (hy : ∀ w, S w → (execOp a.eval oi).run P w = .ok (.value v) w := by intro w' hSw; go_simp)
    (hl : listed.setIfInBounds i true = listed' := by (try simp only [List.setIfInBounds_toArray, List.set_cons_zero, List.set_cons_succ]); rfl)
    (ha : a.put oi.dst v = a' := by (try simp only [Act.put, List.getElem_toArray, List.getElem_cons_zero, List.getElem_cons_succ, List.setIfInBounds_toArray, List.set_cons_zero, List.set_cons_succ]); rfl) : wpAnyH P md ops Q S (fuel + 1) listed a w := by
  subst hl ha
  exact wpAnyH_take hi hs hf hr hQ (.inl ⟨hw, hy⟩) hS h
/-- The same, of what cells hold. -/
theorem tkf (i : Nat) (v : Value) {F : World → Prop} (f : ∀ w', S w' → F w') {oi : Oper} {fuel : Nat} {listed listed' : Array Bool} {a a' : Act} {w : World} (hS : S w) (h : wpAnyH P md ops Q S fuel listed' a' w)
    (hi : ops[i]? = some oi := by rfl) (hs : Region.noSelect ops = true := by kernel_rfl) (hf : Region.free md ops listed i = true := by kernel_rfl) (hr : (Region.ready md ops listed).contains i = true := by kernel_rfl)
    (hQ : ∀ c a w, Q (.panic c) (a.put oi.dst v) w → Q (.panic c) a w := by exact fun _ _ _ h => h) (hw : Region.wanted oi (yielded ops a.tmps) = true := by kernel_rfl)
    (hy : ∀ w, F w → (execOp a.eval oi).run P w = .ok (.value v) w := by intro w' hSw; go_simp)
    (hl : listed.setIfInBounds i true = listed' := by (try simp only [List.setIfInBounds_toArray, List.set_cons_zero, List.set_cons_succ]); rfl)
    (ha : a.put oi.dst v = a' := by (try simp only [Act.put, List.getElem_toArray, List.getElem_cons_zero, List.getElem_cons_succ, List.setIfInBounds_toArray, List.set_cons_zero, List.set_cons_succ]); rfl) : wpAnyH P md ops Q S (fuel + 1) listed a w := by
  subst hl ha
  exact wpAnyH_take hi hs hf hr hQ (.inl ⟨hw, fun w h => hy w (f w h)⟩) hS h
end
section
variable {w : World} {a0 a1 a2 a3 a4 a5 a6 a7 : Addr} {v0 v1 v2 v3 v4 v5 v6 v7 : Value}
theorem kb {w w' : World} {a : Addr} {v : Value} (h : Below w.heap.size w w') (d : w.cell? a = some v) : w'.cell? a = some v := (h.cell (World.block_lt_of_cell? w a d)).trans d
theorem kp1 (d0 : w.cell? a0 = some v0) : ∀ w', Below w.heap.size w w' → w'.cell? a0 = some v0 := fun _ h => kb h d0
theorem kp4 (d0 : w.cell? a0 = some v0) (d1 : w.cell? a1 = some v1) (d2 : w.cell? a2 = some v2) (d3 : w.cell? a3 = some v3) :
    ∀ w', Below w.heap.size w w' → w'.cell? a0 = some v0 ∧ w'.cell? a1 = some v1 ∧ w'.cell? a2 = some v2 ∧ w'.cell? a3 = some v3 := fun _ h => ⟨kb h d0, kb h d1, kb h d2, kb h d3⟩
theorem kp8 (d0 : w.cell? a0 = some v0) (d1 : w.cell? a1 = some v1) (d2 : w.cell? a2 = some v2) (d3 : w.cell? a3 = some v3) (d4 : w.cell? a4 = some v4) (d5 : w.cell? a5 = some v5) (d6 : w.cell? a6 = some v6) (d7 : w.cell? a7 = some v7) :
    ∀ w', Below w.heap.size w w' → w'.cell? a0 = some v0 ∧ w'.cell? a1 = some v1 ∧ w'.cell? a2 = some v2 ∧ w'.cell? a3 = some v3 ∧ w'.cell? a4 = some v4 ∧ w'.cell? a5 = some v5 ∧ w'.cell? a6 = some v6 ∧ w'.cell? a7 = some v7 := fun _ h => ⟨kb h d0, kb h d1, kb h d2, kb h d3, kb h d4, kb h d5, kb h d6, kb h d7⟩
end
end Go.Proofs.YtbpedjkebemhnaaGreatDoor
