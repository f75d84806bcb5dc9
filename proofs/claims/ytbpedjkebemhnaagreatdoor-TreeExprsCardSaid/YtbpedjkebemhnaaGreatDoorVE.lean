/- The law's awake: four examples. -/
import Derived.Test.YtbpedjkebemhnaaGreatDoorUN9
import Derived.Test.YtbpedjkebemhnaaGreatDoorTM
set_option linter.unusedVariables false
namespace Go.Proofs.YtbpedjkebemhnaaGreatDoor
open Go.RowKit

def aN : NoD := .mk 4 [97] 0 0 0 [] [] []
def fiveN : NoD := .mk 0 [] 5 0 0 [] [] []
def isN : NoD := .mk 12 [] 2 0 0 [] [] [aN]
def bN : NoD := .mk 14 [45] 0 0 0 [] [] [aN, fiveN]
def cN : NoD := .mk 7 [] 0 0 0 [] [] [aN, isN]
def noN : NoD := .mk 4 [] 0 0 0 [] [] []
theorem itoa_five : Lib.itoa 5 = [53] := by
  have h1 := Lib.itoa_nonneg 5
  rw [Lib.decDigits_one (by decide)] at h1
  exact h1
set_option maxRecDepth 100000 in
theorem b_text : exprT bN = [40, 97, 32, 45, 32, 53, 41] := by
  have h : nodeB 25 bN = true := by kernel_rfl
  unfold exprT
  rw [h, if_pos rfl]
  show [40] ++ ([97] ++ ([32] ++ ([45] ++ ([32] ++ (Lib.itoa 5 ++ ([41] ++ [])))))) = _
  rw [itoa_five]
  rfl
set_option maxRecDepth 100000 in
theorem c_text : exprT cN = [97, 40, 40, 97, 32, 105, 115, 32, 105, 110, 116, 41, 41] := by kernel_rfl
set_option maxRecDepth 100000 in
theorem no_text : exprT noN = [] := by kernel_rfl
set_option maxRecDepth 100000 in
theorem any_text : typeS (.mk 0 [] [] []) = [97, 110, 121] := by kernel_rfl
theorem leaf_r (w : World) (B : Nat) (k n : Int) (s : Bt) : NoR w B [.int .i64 k, sv s, .int .i64 n, .int .i64 0, .int .i64 0, .slice none 0 0, .slice none 0 0, .slice none 0 0] (.mk k s n 0 0 [] [] []) :=
  .mk (Sl.nil _ _ _) .nil (Sl.nil _ _ _) (Sl.nil _ _ _) .nil
theorem row_sl {w : World} {B g k n : Nat} {cs : Array Value} {T : TypeId} (h : w.heap[g]? = some (.cells cs T (0, 0))) (hg : g < B) (hk : cs.size = n * k) (hn : n ≤ maxLen) : Sl w B k (.slice (some ⟨g, 0, none⟩) n n) cs.toList := by
  refine ⟨_, n, n, rfl, by simpa using hk, Nat.le_refl _, hn, fun _ => ⟨g, 0, rfl, hg, fun j u hu => ?_⟩⟩
  rw [Nat.zero_add, cell_of_row _ _ _ _ _ (0, 0) h]
  simpa using hu
theorem alloc_at {w : World} {g : Nat} {x : Obj} (o : Obj) (h : w.heap[g]? = some x) : (w.alloc o).heap[g]? = some x := block_turn h (Turn.alloc (fun _ => False) _ o) (fun h => h)
set_option maxRecDepth 100000 in
set_option maxHeartbeats 4000000 in
theorem awake_any (w : World) (hX : LaidT w) : Calls Tryz.prog 10 #[] w fun e w' => e = .returned (.bool true) ∧ Below w.heap.size w w' := by
  obtain ⟨w1, h1⟩ : ∃ x, w.alloc (.cells #[.int .i64 4, .string ⟨#[97]⟩, .int .i64 0, .int .i64 0, .int .i64 0, .slice none 0 0, .slice none 0 0, .slice none 0 0] 26) = x := ⟨_, rfl⟩
  have s1 : w1.heap.size = w.heap.size + 1 := by rw [← h1, World.size_alloc]
  have bb1 : w1.heap[w.heap.size]? = some (.cells #[.int .i64 4, .string ⟨#[97]⟩, .int .i64 0, .int .i64 0, .int .i64 0, .slice none 0 0, .slice none 0 0, .slice none 0 0] 26 (0, 0)) := by rw [← h1]; exact heap_alloc_new _ _
  obtain ⟨w2, h2⟩ : ∃ x, w1.alloc (.cells #[.int .i64 4, .string ⟨#[97]⟩, .int .i64 0, .int .i64 0, .int .i64 0, .slice none 0 0, .slice none 0 0, .slice none 0 0, .int .i64 0, .string ⟨#[]⟩, .int .i64 5, .int .i64 0, .int .i64 0, .slice none 0 0, .slice none 0 0, .slice none 0 0] 26) = x := ⟨_, rfl⟩
  have s2 : w2.heap.size = w.heap.size + 1 + 1 := by rw [← h2, World.size_alloc, s1]
  have bb2 : w2.heap[w.heap.size + 1]? = some (.cells #[.int .i64 4, .string ⟨#[97]⟩, .int .i64 0, .int .i64 0, .int .i64 0, .slice none 0 0, .slice none 0 0, .slice none 0 0, .int .i64 0, .string ⟨#[]⟩, .int .i64 5, .int .i64 0, .int .i64 0, .slice none 0 0, .slice none 0 0, .slice none 0 0] 26 (0, 0)) := by rw [← h2, ← s1]; exact heap_alloc_new _ _
  obtain ⟨w3, h3⟩ : ∃ x, w2.alloc (.cells #[.int .i64 14, .string ⟨#[45]⟩, .int .i64 0, .int .i64 0, .int .i64 0, .slice none 0 0, .slice none 0 0, .slice (some ⟨w.heap.size + 1, 0, none⟩) 2 2] 26) = x := ⟨_, rfl⟩
  have s3 : w3.heap.size = w.heap.size + 1 + 1 + 1 := by rw [← h3, World.size_alloc, s2]
  have bb3 : w3.heap[w.heap.size + 1 + 1]? = some (.cells #[.int .i64 14, .string ⟨#[45]⟩, .int .i64 0, .int .i64 0, .int .i64 0, .slice none 0 0, .slice none 0 0, .slice (some ⟨w.heap.size + 1, 0, none⟩) 2 2] 26 (0, 0)) := by rw [← h3, ← s2]; exact heap_alloc_new _ _
  obtain ⟨w4, h4⟩ : ∃ x, w3.alloc (.cells #[.int .i64 4, .string ⟨#[97]⟩, .int .i64 0, .int .i64 0, .int .i64 0, .slice none 0 0, .slice none 0 0, .slice none 0 0] 26) = x := ⟨_, rfl⟩
  have s4 : w4.heap.size = w.heap.size + 1 + 1 + 1 + 1 := by rw [← h4, World.size_alloc, s3]
  have bb4 : w4.heap[w.heap.size + 1 + 1 + 1]? = some (.cells #[.int .i64 4, .string ⟨#[97]⟩, .int .i64 0, .int .i64 0, .int .i64 0, .slice none 0 0, .slice none 0 0, .slice none 0 0] 26 (0, 0)) := by rw [← h4, ← s3]; exact heap_alloc_new _ _
  obtain ⟨w5, h5⟩ : ∃ x, w4.alloc (.cells #[.int .i64 4, .string ⟨#[97]⟩, .int .i64 0, .int .i64 0, .int .i64 0, .slice none 0 0, .slice none 0 0, .slice none 0 0, .int .i64 12, .string ⟨#[]⟩, .int .i64 2, .int .i64 0, .int .i64 0, .slice none 0 0, .slice none 0 0, .slice (some ⟨w.heap.size + 1 + 1 + 1, 0, none⟩) 1 1] 26) = x := ⟨_, rfl⟩
  have s5 : w5.heap.size = w.heap.size + 1 + 1 + 1 + 1 + 1 := by rw [← h5, World.size_alloc, s4]
  have bb5 : w5.heap[w.heap.size + 1 + 1 + 1 + 1]? = some (.cells #[.int .i64 4, .string ⟨#[97]⟩, .int .i64 0, .int .i64 0, .int .i64 0, .slice none 0 0, .slice none 0 0, .slice none 0 0, .int .i64 12, .string ⟨#[]⟩, .int .i64 2, .int .i64 0, .int .i64 0, .slice none 0 0, .slice none 0 0, .slice (some ⟨w.heap.size + 1 + 1 + 1, 0, none⟩) 1 1] 26 (0, 0)) := by rw [← h5, ← s4]; exact heap_alloc_new _ _
  obtain ⟨w6, h6⟩ : ∃ x, w5.alloc (.cells #[.int .i64 7, .string ⟨#[]⟩, .int .i64 0, .int .i64 0, .int .i64 0, .slice none 0 0, .slice none 0 0, .slice (some ⟨w.heap.size + 1 + 1 + 1 + 1, 0, none⟩) 2 2] 26) = x := ⟨_, rfl⟩
  have s6 : w6.heap.size = w.heap.size + 1 + 1 + 1 + 1 + 1 + 1 := by rw [← h6, World.size_alloc, s5]
  have bb6 : w6.heap[w.heap.size + 1 + 1 + 1 + 1 + 1]? = some (.cells #[.int .i64 7, .string ⟨#[]⟩, .int .i64 0, .int .i64 0, .int .i64 0, .slice none 0 0, .slice none 0 0, .slice (some ⟨w.heap.size + 1 + 1 + 1 + 1, 0, none⟩) 2 2] 26 (0, 0)) := by rw [← h6, ← s5]; exact heap_alloc_new _ _
  have hbl : Below w.heap.size w w6 := by
    rw [← h6, ← h5, ← h4, ← h3, ← h2, ← h1]
    exact ((((((Below.refl _ _).alloc (Nat.le_refl _) _).alloc (by simp) _).alloc (by simp; omega) _).alloc (by simp; omega) _).alloc (by simp; omega) _).alloc (by simp; omega) _
  have r2 : w6.heap[w.heap.size + 1]? = some (.cells #[.int .i64 4, .string ⟨#[97]⟩, .int .i64 0, .int .i64 0, .int .i64 0, .slice none 0 0, .slice none 0 0, .slice none 0 0, .int .i64 0, .string ⟨#[]⟩, .int .i64 5, .int .i64 0, .int .i64 0, .slice none 0 0, .slice none 0 0, .slice none 0 0] 26 (0, 0)) := by rw [← h6, ← h5, ← h4, ← h3]; exact alloc_at _ (alloc_at _ (alloc_at _ (alloc_at _ bb2)))
  have r4 : w6.heap[w.heap.size + 1 + 1 + 1]? = some (.cells #[.int .i64 4, .string ⟨#[97]⟩, .int .i64 0, .int .i64 0, .int .i64 0, .slice none 0 0, .slice none 0 0, .slice none 0 0] 26 (0, 0)) := by rw [← h6, ← h5]; exact alloc_at _ (alloc_at _ bb4)
  have r5 : w6.heap[w.heap.size + 1 + 1 + 1 + 1]? = some (.cells #[.int .i64 4, .string ⟨#[97]⟩, .int .i64 0, .int .i64 0, .int .i64 0, .slice none 0 0, .slice none 0 0, .slice none 0 0, .int .i64 12, .string ⟨#[]⟩, .int .i64 2, .int .i64 0, .int .i64 0, .slice none 0 0, .slice none 0 0, .slice (some ⟨w.heap.size + 1 + 1 + 1, 0, none⟩) 1 1] 26 (0, 0)) := by rw [← h6]; exact alloc_at _ bb5
  have hW : (((((w.alloc (.cells #[.int .i64 4, .string ⟨#[97]⟩, .int .i64 0, .int .i64 0, .int .i64 0, .slice none 0 0, .slice none 0 0, .slice none 0 0] 26)).alloc (.cells #[.int .i64 4, .string ⟨#[97]⟩, .int .i64 0, .int .i64 0, .int .i64 0, .slice none 0 0, .slice none 0 0, .slice none 0 0, .int .i64 0, .string ⟨#[]⟩, .int .i64 5, .int .i64 0, .int .i64 0, .slice none 0 0, .slice none 0 0, .slice none 0 0] 26)).alloc (.cells #[.int .i64 14, .string ⟨#[45]⟩, .int .i64 0, .int .i64 0, .int .i64 0, .slice none 0 0, .slice none 0 0, .slice (some ⟨w.heap.size + 1, 0, none⟩) 2 2] 26)).alloc (.cells #[.int .i64 4, .string ⟨#[97]⟩, .int .i64 0, .int .i64 0, .int .i64 0, .slice none 0 0, .slice none 0 0, .slice none 0 0] 26)).alloc (.cells #[.int .i64 4, .string ⟨#[97]⟩, .int .i64 0, .int .i64 0, .int .i64 0, .slice none 0 0, .slice none 0 0, .slice none 0 0, .int .i64 12, .string ⟨#[]⟩, .int .i64 2, .int .i64 0, .int .i64 0, .slice none 0 0, .slice none 0 0, .slice (some ⟨w.heap.size + 1 + 1 + 1, 0, none⟩) 1 1] 26)).alloc (.cells #[.int .i64 7, .string ⟨#[]⟩, .int .i64 0, .int .i64 0, .int .i64 0, .slice none 0 0, .slice none 0 0, .slice (some ⟨w.heap.size + 1 + 1 + 1 + 1, 0, none⟩) 2 2] 26) = w6 := by rw [h1, h2, h3, h4, h5, h6]
  have hB : NoR w6 w6.heap.size [.int .i64 14, .string ⟨#[45]⟩, .int .i64 0, .int .i64 0, .int .i64 0, .slice none 0 0, .slice none 0 0, .slice (some ⟨w.heap.size + 1, 0, none⟩) 2 2] bN := .mk (text := [45]) (Sl.nil _ _ _) .nil (Sl.nil _ _ _) (row_sl r2 (by rw [s6]; omega) rfl (by decide)) (.cons (leaf_r _ _ 4 0 [97]) (.cons (leaf_r _ _ 0 5 []) .nil))
  have hI : NoR w6 w6.heap.size [.int .i64 12, .string ⟨#[]⟩, .int .i64 2, .int .i64 0, .int .i64 0, .slice none 0 0, .slice none 0 0, .slice (some ⟨w.heap.size + 1 + 1 + 1, 0, none⟩) 1 1] isN := .mk (text := []) (Sl.nil _ _ _) .nil (Sl.nil _ _ _) (row_sl r4 (by rw [s6]; omega) rfl (by decide)) (.cons (leaf_r _ _ 4 0 [97]) .nil)
  have hC : NoR w6 w6.heap.size [.int .i64 7, .string ⟨#[]⟩, .int .i64 0, .int .i64 0, .int .i64 0, .slice none 0 0, .slice none 0 0, .slice (some ⟨w.heap.size + 1 + 1 + 1 + 1, 0, none⟩) 2 2] cN := .mk (text := []) (Sl.nil _ _ _) .nil (Sl.nil _ _ _) (row_sl r5 (by rw [s6]; omega) rfl (by decide)) (.cons (leaf_r _ _ 4 0 [97]) (.cons hI .nil))
  have hX6 := hX.below hbl
  have E1 := texpr_any w6 _ bN hB (by simp [bN, aN, fiveN, okN, okNs, In64, maxLen]) (by simp [bN, aN, fiveN, cntN, cntNs, cntTs]) hX6
  rw [b_text] at E1
  have E1 := hid E1
  have E2 := hid (fun w7 (h : Below w6.heap.size w6 w7) => texpr_any w7 _ cN (hC.far (Nat.le_refl _) h) (by simp [cN, aN, isN, okN, okNs, In64, maxLen]) (by simp [cN, aN, isN, cntN, cntNs, cntTs]) (hX6.below h))
  rw [c_text] at E2
  have E3 := hid (fun w7 (h : Below w6.heap.size w6 w7) => texpr_any w7 _ noN (leaf_r w7 w7.heap.size 4 0 []) (by simp [noN, okN, okNs, In64, maxLen]) (by simp [noN, cntN, cntNs, cntTs]) (hX6.below h))
  rw [no_text] at E3
  have E4 := hid (fun w7 (h : Below w6.heap.size w6 w7) => ttype_any w7 [.int .i64 0, sv [], .slice none 0 0, .slice none 0 0] (.mk 0 [] [] []) (.mk (Sl.nil _ _ _) (Sl.nil _ _ _) .nil) (by simp [okT, okTs, In64, maxLen]) (by simp [cntT, cntTs]) (hX6.below h))
  rw [any_text] at E4
  have HC6 := hid bb6
  have HW := hid hW
  have HB := hid hbl
  clear hX hX6 hB hI hC r2 r4 r5 bb1 bb2 bb3 bb4 bb5 bb6 s1 s2 s3 s4 s5 s6 h1 h2 h3 h4 h5 h6 hW hbl
  go_enter Tryz.func10, Tryz.ntmps10
  go_wp2_with fail
  have hW := HW.out
  rw [hW]
  clear hW
  refine E1.out.mono ?_
  rintro e w7 ⟨rfl, hb⟩
  have HB7 := hid hb
  obtain ⟨g0, g1, g2, g3, g4, g5, g6, g7⟩ := t_row8 ((hb.block _ (block_lt HC6.out)).trans HC6.out)
  clear hb
  go_wp2_with fail
  refine (E2.out _ HB7.out).mono ?_
  rintro e w8 ⟨rfl, hb⟩
  have HB8 := hid (HB7.out.trans (hb.mono HB7.out.size))
  clear hb g0 g1 g2 g3 g4 g5 g6 g7
  go_wp2_with fail
  refine (E3.out _ HB8.out).mono ?_
  rintro e w9 ⟨rfl, hb⟩
  have HB9 := hid (HB8.out.trans (hb.mono HB8.out.size))
  clear hb
  go_wp2_with fail
  refine (E4.out _ HB9.out).mono ?_
  rintro e w10 ⟨rfl, hb⟩
  have HB10 := hid (HB9.out.trans (hb.mono HB9.out.size))
  clear hb
  go_wp2_with fail
  go_ret
  exact ⟨rfl, HB.out.trans (HB10.out.mono HB.out.size)⟩
end Go.Proofs.YtbpedjkebemhnaaGreatDoor
