/- The chapter's examples: graduslaw02's awake. -/
import Derived.Test.YtpgngegdflbahaaGreatDoorXL
set_option linter.unusedVariables false
namespace Go.Proofs.YtpgngegdflbahaaGreatDoor
open Go.RowKit

set_option maxRecDepth 100000 in
theorem lex_ex1 : lexL [108, 101, 116, 32, 120, 49, 32, 61, 32, 49, 50, 59] = ([⟨2, [108, 101, 116], 1, 1⟩, ⟨1, [120, 49], 1, 5⟩, ⟨5, [61], 1, 8⟩, ⟨3, [49, 50], 1, 10⟩, ⟨5, [59], 1, 12⟩, ⟨0, [], 1, 13⟩], (0, 0, 0)) := by kernel_rfl
theorem lex_ex2 : (lexL [48, 48, 55]) = ([], (1, 1, 3)) := by kernel_rfl
theorem lex_ex3 : (lexL [34, 97]) = ([], (1, 1, 4)) := by kernel_rfl
theorem lex_ex4 : (lexL [63]) = ([], (1, 1, 5)) := by kernel_rfl
theorem name_ex1 : nameL [120, 49] = true := by kernel_rfl
theorem name_ex2 : nameL [108, 101, 116] = false := by kernel_rfl

set_option maxRecDepth 100000 in
set_option maxHeartbeats 4000000 in
theorem awake_any (w : World) (hX : LaidX w) : Calls Tryz.prog 5 #[] w fun e w' => e = .returned (.bool true) ∧ Below w.heap.size w w' := by
  have h1 := lex_any w [108, 101, 116, 32, 120, 49, 32, 61, 32, 49, 50, 59] hX
  rw [lex_ex1] at h1
  have H1 := hid h1
  clear h1
  go_enter Tryz.func5, Tryz.ntmps5
  go_wp2_with fail
  refine H1.out.mono ?_
  rintro e w1 ⟨v1, n1, rfl, hr1, hb1⟩
  unfold diagV
  have hn1 : n1 = 6 := by have := hr1.1; simp [tokCells, tokV] at this; omega
  subst hn1
  obtain ⟨g1, c1, rfl, hg1b, hg1l, hg1n, hg1m⟩ := own_form hr1 (by omega)
  simp only []
  go_wp2_with fail
  have hd1 := heap_alloc_new w1 (.cells #[.int .i64 0, .int .i64 0, .int .i64 0, .int .i64 0] 27)
  have hB1 : Below w.heap.size w (w1.alloc (.cells #[.int .i64 0, .int .i64 0, .int .i64 0, .int .i64 0] 27)) := hb1.alloc hb1.size _
  have hr1' := hr1.alloc (.cells #[.int .i64 0, .int .i64 0, .int .i64 0, .int .i64 0] 27)
  have hdl1 : w1.heap.size < (w1.alloc (.cells #[.int .i64 0, .int .i64 0, .int .i64 0, .int .i64 0] 27)).heap.size := block_lt hd1
  have hx1 := hid hd1
  have hrr1 := hid hr1'
  clear hr1 hr1' hb1 hd1
  generalize hd1n : w1.heap.size = b1 at *
  generalize w1.alloc (.cells #[.int .i64 0, .int .i64 0, .int .i64 0, .int .i64 0] 27) = W1 at *
  have h2 := lex_any W1 [48, 48, 55] (hX.below hB1)
  rw [lex_ex2] at h2
  refine h2.mono ?_
  clear h2
  rintro e w2 ⟨v2, n2, rfl, hr2, hb2⟩
  unfold diagV
  simp only []
  have hB2' := hB1.trans (hb2.mono hB1.size)
  have hd2 := heap_alloc_new w2 (.cells #[.int .i64 0, .int .i64 1, .int .i64 1, .int .i64 3] 27)
  have hB2 : Below w.heap.size w (w2.alloc (.cells #[.int .i64 0, .int .i64 1, .int .i64 1, .int .i64 3] 27)) := hB2'.alloc hB2'.size _
  have hs2 : Below W1.heap.size W1 (w2.alloc (.cells #[.int .i64 0, .int .i64 1, .int .i64 1, .int .i64 3] 27)) := hb2.alloc hb2.size _
  go_wp2_with fail
  have hx2 := hid hd2
  have hdl2 : w2.heap.size < (w2.alloc (.cells #[.int .i64 0, .int .i64 1, .int .i64 1, .int .i64 3] 27)).heap.size := block_lt hd2
  clear hr2 hb2 hd2 hB2'
  generalize hd2n : w2.heap.size = b2 at *
  generalize w2.alloc (.cells #[.int .i64 0, .int .i64 1, .int .i64 1, .int .i64 3] 27) = W2 at *
  have h3 := lex_any W2 [34, 97] (hX.below hB2)
  rw [lex_ex3] at h3
  refine h3.mono ?_
  clear h3
  rintro e w3 ⟨v3, n3, rfl, hr3, hb3⟩
  unfold diagV
  simp only []
  have hB3' := hB2.trans (hb3.mono hB2.size)
  have hd3 := heap_alloc_new w3 (.cells #[.int .i64 0, .int .i64 1, .int .i64 1, .int .i64 4] 27)
  have hB3 : Below w.heap.size w (w3.alloc (.cells #[.int .i64 0, .int .i64 1, .int .i64 1, .int .i64 4] 27)) := hB3'.alloc hB3'.size _
  have hs3 : Below W2.heap.size W2 (w3.alloc (.cells #[.int .i64 0, .int .i64 1, .int .i64 1, .int .i64 4] 27)) := hb3.alloc hb3.size _
  go_wp2_with fail
  have hx3 := hid hd3
  have hdl3 : w3.heap.size < (w3.alloc (.cells #[.int .i64 0, .int .i64 1, .int .i64 1, .int .i64 4] 27)).heap.size := block_lt hd3
  clear hr3 hb3 hd3 hB3'
  generalize hd3n : w3.heap.size = b3 at *
  generalize w3.alloc (.cells #[.int .i64 0, .int .i64 1, .int .i64 1, .int .i64 4] 27) = W3 at *
  have h4 := lex_any W3 [63] (hX.below hB3)
  rw [lex_ex4] at h4
  refine h4.mono ?_
  clear h4
  rintro e w4 ⟨v4, n4, rfl, hr4, hb4⟩
  unfold diagV
  simp only []
  have hB4' := hB3.trans (hb4.mono hB3.size)
  have hd4 := heap_alloc_new w4 (.cells #[.int .i64 0, .int .i64 1, .int .i64 1, .int .i64 5] 27)
  have hB4 : Below w.heap.size w (w4.alloc (.cells #[.int .i64 0, .int .i64 1, .int .i64 1, .int .i64 5] 27)) := hB4'.alloc hB4'.size _
  have hs4 : Below W3.heap.size W3 (w4.alloc (.cells #[.int .i64 0, .int .i64 1, .int .i64 1, .int .i64 5] 27)) := hb4.alloc hb4.size _
  have q3 := block_turn hx3.out (Turn.of_below (F := fun _ => False) hs4) id
  have q2 := block_turn (block_turn hx2.out (Turn.of_below (F := fun _ => False) hs3) id) (Turn.of_below (F := fun _ => False) hs4) id
  have q1 := block_turn (block_turn (block_turn hx1.out (Turn.of_below (F := fun _ => False) hs2) id) (Turn.of_below (F := fun _ => False) hs3) id) (Turn.of_below (F := fun _ => False) hs4) id
  have qr := own_below (own_below (own_below hrr1.out hs2) hs3) hs4
  have e1 : (w4.alloc (.cells #[.int .i64 0, .int .i64 1, .int .i64 1, .int .i64 5] 27)).cell? ⟨b1, 3, none⟩ = some (.int .i64 0) := (cell_of_row _ _ _ _ _ (0, 0) q1).trans rfl
  have e2 : (w4.alloc (.cells #[.int .i64 0, .int .i64 1, .int .i64 1, .int .i64 5] 27)).cell? ⟨b2, 3, none⟩ = some (.int .i64 3) := (cell_of_row _ _ _ _ _ (0, 0) q2).trans rfl
  have e3 : (w4.alloc (.cells #[.int .i64 0, .int .i64 1, .int .i64 1, .int .i64 5] 27)).cell? ⟨b3, 3, none⟩ = some (.int .i64 4) := (cell_of_row _ _ _ _ _ (0, 0) q3).trans rfl
  have e4 : (w4.alloc (.cells #[.int .i64 0, .int .i64 1, .int .i64 1, .int .i64 5] 27)).cell? ⟨w4.heap.size, 3, none⟩ = some (.int .i64 5) := (cell_of_row _ _ _ _ _ (0, 0) hd4).trans rfl
  have r4 : (w4.alloc (.cells #[.int .i64 0, .int .i64 1, .int .i64 1, .int .i64 5] 27)).cell? ⟨g1, 4, none⟩ = some (.int .i64 1) := by
    have := qr.cells (g := g1) rfl 4 (.int .i64 1) rfl
    rwa [plain_add, Nat.zero_add] at this
  have r5 : (w4.alloc (.cells #[.int .i64 0, .int .i64 1, .int .i64 1, .int .i64 5] 27)).cell? ⟨g1, 5, none⟩ = some (sv [120, 49]) := by
    have := qr.cells (g := g1) rfl 5 (sv [120, 49]) rfl
    rwa [plain_add, Nat.zero_add] at this
  have r6 : (w4.alloc (.cells #[.int .i64 0, .int .i64 1, .int .i64 1, .int .i64 5] 27)).cell? ⟨g1, 6, none⟩ = some (.int .i64 1) := by
    have := qr.cells (g := g1) rfl 6 (.int .i64 1) rfl
    rwa [plain_add, Nat.zero_add] at this
  have r7 : (w4.alloc (.cells #[.int .i64 0, .int .i64 1, .int .i64 1, .int .i64 5] 27)).cell? ⟨g1, 7, none⟩ = some (.int .i64 5) := by
    have := qr.cells (g := g1) rfl 7 (.int .i64 5) rfl
    rwa [plain_add, Nat.zero_add] at this
  have r12 : (w4.alloc (.cells #[.int .i64 0, .int .i64 1, .int .i64 1, .int .i64 5] 27)).cell? ⟨g1, 12, none⟩ = some (.int .i64 3) := by
    have := qr.cells (g := g1) rfl 12 (.int .i64 3) rfl
    rwa [plain_add, Nat.zero_add] at this
  have r20 : (w4.alloc (.cells #[.int .i64 0, .int .i64 1, .int .i64 1, .int .i64 5] 27)).cell? ⟨g1, 20, none⟩ = some (.int .i64 0) := by
    have := qr.cells (g := g1) rfl 20 (.int .i64 0) rfl
    rwa [plain_add, Nat.zero_add] at this
  have r21 : (w4.alloc (.cells #[.int .i64 0, .int .i64 1, .int .i64 1, .int .i64 5] 27)).cell? ⟨g1, 21, none⟩ = some (sv []) := by
    have := qr.cells (g := g1) rfl 21 (sv []) rfl
    rwa [plain_add, Nat.zero_add] at this
  have r22 : (w4.alloc (.cells #[.int .i64 0, .int .i64 1, .int .i64 1, .int .i64 5] 27)).cell? ⟨g1, 22, none⟩ = some (.int .i64 1) := by
    have := qr.cells (g := g1) rfl 22 (.int .i64 1) rfl
    rwa [plain_add, Nat.zero_add] at this
  have r23 : (w4.alloc (.cells #[.int .i64 0, .int .i64 1, .int .i64 1, .int .i64 5] 27)).cell? ⟨g1, 23, none⟩ = some (.int .i64 13) := by
    have := qr.cells (g := g1) rfl 23 (.int .i64 13) rfl
    rwa [plain_add, Nat.zero_add] at this
  have hXf := hX.below hB4
  clear q1 q2 q3 qr hd4 hs2 hs3 hs4 hr4 hb4 hx1 hx2 hx3 hrr1 H1
  generalize hb4n : w4.heap.size = b4 at *
  generalize hW4 : w4.alloc (.cells #[.int .i64 0, .int .i64 1, .int .i64 1, .int .i64 5] 27) = W4 at *
  go_wp2_with fail
  refine (name_any _ [120, 49] hXf (by decide)).mono ?_
  rintro e w5 ⟨rfl, hb5⟩
  rw [name_ex1]
  go_wp2_with fail
  refine (name_any _ [108, 101, 116] (hXf.below hb5) (by decide)).mono ?_
  rintro e w6 ⟨rfl, hb6⟩
  rw [name_ex2]
  go_wp2_with fail
  go_ret
  exact ⟨rfl, (hB4.trans (hb5.mono hB4.size)).trans (hb6.mono (Nat.le_trans hB4.size hb5.size))⟩
end Go.Proofs.YtpgngegdflbahaaGreatDoor
