/- The laws of layer 15 walked: the chapter's example, and ShapeSlots. -/
import Derived.Test.YtaokgblkhnipgaaSU
import Derived.Test.YtaokgblkhnipgaaPL
set_option linter.unusedVariables false
namespace Go.Proofs.Ytaokgblkhnipgaa
open Go.RowKit

theorem step_base {B : Nat} {F F' : Nat → Prop} {w a b : World} (hB : Below B w a) (hs : B ≤ w.heap.size) (hF : ∀ k, F k → B ≤ k) (t : Turn F a b) (hn : ∀ k, F' k → F k ∨ a.heap.size ≤ k) : Below B w b ∧ ∀ k, F' k → B ≤ k :=
  ⟨hB.trans (t.below (Nat.le_trans hs hB.size) (fun k hk h => absurd (hF k h) (by omega))), fun k hk => (hn k hk).elim (hF k) (fun h => Nat.le_trans (Nat.le_trans hs hB.size) h)⟩

set_option maxHeartbeats 1000000 in
theorem awake_any (w : World) : Calls Try.prog 7 #[] w fun e w' => e = .returned (.bool true) ∧ Below w.heap.size w w' := by
  have a1 : addL [[]] 0 [97] = ([[], [[97]]], 1, 0) := by decide
  have a2 : addL [[], [[97]]] 1 [98] = ([[], [[97]], [[97], [98]]], 2, 0) := by decide
  have a3 : addL [[], [[97]], [[97], [98]]] 0 [98] = ([[], [[97]], [[97], [98]], [[98]]], 3, 0) := by decide
  have a4 : addL [[], [[97]], [[97], [98]], [[98]]] 0 [97] = ([[], [[97]], [[97], [98]], [[98]]], 1, 0) := by decide
  have a5 : addL [[], [[97]], [[97], [98]], [[98]]] 2 [97] = ([[], [[97]], [[97], [98]], [[98]]], 2, 0) := by decide
  have a6 : slotL [[], [[97]], [[97], [98]], [[98]]] 2 [98] = (1, true) := by decide
  have a7 : addL [[], [[97]], [[97], [98]], [[98]]] 9 [97] = ([[], [[97]], [[97], [98]], [[98]]], 0, 1) := by decide
  go_enter Try.func7, Try.ntmps7
  go_wp2_with fail
  refine (new_any _).mono ?_
  rintro e w1 ⟨F1, bt, rfl, hT1, hF1, hB1⟩
  go_wp2_with fail
  refine (add_any F1 bt _ 0 [97] _ hT1 (by decide) (by decide)).mono ?_
  rintro e w2 ⟨F2, rfl, hT2, ht2, hn2⟩
  obtain ⟨hB2, hF2⟩ := step_base hB1 (Nat.le_refl _) hF1 ht2 hn2
  clear hT1 hF1 hB1 ht2 hn2
  rw [a1] at hT2 ⊢
  go_wp2_with fail
  refine (add_any F2 bt _ 1 [98] _ hT2 (by decide) (by decide)).mono ?_
  rintro e w3 ⟨F3, rfl, hT3, ht3, hn3⟩
  obtain ⟨hB3, hF3⟩ := step_base hB2 (Nat.le_refl _) hF2 ht3 hn3
  clear hT2 hF2 hB2 ht3 hn3
  rw [a2] at hT3 ⊢
  go_wp2_with fail
  refine (add_any F3 bt _ 0 [98] _ hT3 (by decide) (by decide)).mono ?_
  rintro e w4 ⟨F4, rfl, hT4, ht4, hn4⟩
  obtain ⟨hB4, hF4⟩ := step_base hB3 (Nat.le_refl _) hF3 ht4 hn4
  clear hT3 hF3 hB3 ht4 hn4
  rw [a3] at hT4 ⊢
  go_wp2_with fail
  refine (add_any F4 bt _ 0 [97] _ hT4 (by decide) (by decide)).mono ?_
  rintro e w5 ⟨F5, rfl, hT5, ht5, hn5⟩
  obtain ⟨hB5, hF5⟩ := step_base hB4 (Nat.le_refl _) hF4 ht5 hn5
  clear hT4 hF4 hB4 ht5 hn5
  rw [a4] at hT5 ⊢
  go_wp2_with fail
  refine (add_any F5 bt _ 2 [97] _ hT5 (by decide) (by decide)).mono ?_
  rintro e w6 ⟨F6, rfl, hT6, ht6, hn6⟩
  obtain ⟨hB6, hF6⟩ := step_base hB5 (Nat.le_refl _) hF5 ht6 hn6
  clear hT5 hF5 hB5 ht6 hn6
  rw [a5] at hT6 ⊢
  go_wp2_with fail
  refine (slot_any F6 bt _ 2 [98] _ hT6 (by decide)).mono ?_
  rintro e w7 ⟨rfl, rfl⟩
  rw [a6]
  go_wp2_with fail
  refine (add_any F6 bt _ 9 [97] _ hT6 (by decide) (by decide)).mono ?_
  rintro e w8 ⟨F8, rfl, hT8, ht8, hn8⟩
  obtain ⟨hB8, hF8⟩ := step_base hB6 (Nat.le_refl _) hF6 ht8 hn8
  clear hT6 hF6 hB6 ht8 hn8
  rw [a7]
  go_wp2_with fail
  go_ret
  exact ⟨rfl, hB8⟩
end Go.Proofs.Ytaokgblkhnipgaa
