/- An expression as text: every kind; tree.Expr. -/
import Derived.Test.YtbpedjkebemhnaaGreatDoorUN1
import Derived.Test.YtbpedjkebemhnaaGreatDoorUN2
import Derived.Test.YtbpedjkebemhnaaGreatDoorUN3
import Derived.Test.YtbpedjkebemhnaaGreatDoorUN4
import Derived.Test.YtbpedjkebemhnaaGreatDoorUN5
import Derived.Test.YtbpedjkebemhnaaGreatDoorUN6
import Derived.Test.YtbpedjkebemhnaaGreatDoorUN7
set_option linter.unusedVariables false
namespace Go.Proofs.YtbpedjkebemhnaaGreatDoor
open Go.RowKit

theorem expr_all (x : NoD) : ExC x := by
  induction h : cntN x using Nat.strongRecOn generalizing x with
  | _ N ih =>
    obtain ⟨k, text, n, li, co, ts, ns, ks⟩ := x
    have ihk : ∀ y ∈ ks, ExC y := fun y hy => ih (cntN y) (by rw [← h, cntN]; have := cntN_mem hy; omega) y rfl
    intro w z m hr hok hnd hc hX
    have hk : 0 ≤ k ∧ k < 20 := by obtain ⟨q, rfl, h1, _⟩ := node_open hnd; exact h1
    by_cases hs : k = 0 ∨ k = 1 ∨ k = 2 ∨ k = 3 ∨ k = 4 ∨ k = 18 ∨ k = 19
    · exact expr_simple k hs text n li co ts ns ks ihk w z m hr hok hnd hc hX
    have hk2 : k = 5 ∨ k = 6 ∨ k = 7 ∨ k = 8 ∨ k = 9 ∨ k = 10 ∨ k = 11 ∨ k = 12 ∨ k = 13 ∨ k = 14 ∨ k = 15 ∨ k = 16 ∨ k = 17 := by omega
    rcases hk2 with rfl | rfl | rfl | rfl | rfl | rfl | rfl | rfl | rfl | rfl | rfl | rfl | rfl
    · exact expr_k5 text n li co ts ns ks ihk w z m hr hok hnd hc hX
    · exact expr_k6 text n li co ts ns ks ihk w z m hr hok hnd hc hX
    · exact expr_k7 text n li co ts ns ks ihk w z m hr hok hnd hc hX
    · exact expr_k8 text n li co ts ns ks ihk w z m hr hok hnd hc hX
    · exact expr_k9 text n li co ts ns ks ihk w z m hr hok hnd hc hX
    · exact expr_k10 text n li co ts ns ks ihk w z m hr hok hnd hc hX
    · exact expr_k11 text n li co ts ns ks ihk w z m hr hok hnd hc hX
    · exact expr_k12 text n li co ts ns ks ihk w z m hr hok hnd hc hX
    · exact expr_k13 text n li co ts ns ks ihk w z m hr hok hnd hc hX
    · exact expr_k14 text n li co ts ns ks ihk w z m hr hok hnd hc hX
    · exact expr_k15 text n li co ts ns ks ihk w z m hr hok hnd hc hX
    · exact expr_k16 text n li co ts ns ks ihk w z m hr hok hnd hc hX
    · exact expr_k17 text n li co ts ns ks ihk w z m hr hok hnd hc hX
set_option maxRecDepth 100000 in
theorem texpr_any (w : World) (z : List Value) (x : NoD) (hr : NoR w w.heap.size z x) (hok : okN x) (hc : cntN x ≤ 100000) (hX : LaidT w) :
    Calls Tryz.prog 12 #[.agg z.toArray] w fun e w' => e = .returned (sv (exprT x)) ∧ Below w.heap.size w w' := by
  obtain ⟨k, s, v2, v3, v4, A1, n1, c1, A2, n2, c2, A3, n3, c3, rfl⟩ := hr.shape
  obtain ⟨W1, hW1⟩ : ∃ W1, W1 = w.alloc (.cells #[.int .i64 k, .string s, .int .i64 v2, .int .i64 v3, .int .i64 v4, .slice A1 n1 c1, .slice A2 n2 c2, .slice A3 n3 c3] 26) := ⟨_, rfl⟩
  have hb1 : Below w.heap.size w W1 := by rw [hW1]; exact (Below.refl _ _).alloc (Nat.le_refl _) _
  have hbx : W1.heap[w.heap.size]? = some (.cells #[.int .i64 k, .string s, .int .i64 v2, .int .i64 v3, .int .i64 v4, .slice A1 n1 c1, .slice A2 n2 c2, .slice A3 n3 c3] 26 (0, 0)) := by rw [hW1]; exact heap_alloc_new w _
  have HW := node_all 25 (by omega) W1 _ x (hr.far (Nat.le_refl _) hb1) hok (hX.below hb1)
  rw [hW1] at HW
  have HW := hid HW
  have HB := hid hb1
  have HWE := hid hW1
  have HBX := hid hbx
  have HR := hid hr
  have HX := hid hX
  have HOK := hid hok
  clear hb1 hbx hr hX hW1 hok
  cases hq : nodeB 25 x with
  | false =>
    have HT : Hid (exprT x = []) := hid (by unfold exprT; rw [hq]; rfl)
    rw [hq] at HW
    rw [HT.out]
    clear hq HT
    go_enter Tryz.func12, Tryz.ntmps12
    go_wp2_with fail
    refine HW.out.mono ?_
    rintro e w2 ⟨rfl, hb⟩
    rw [← HWE.out] at hb
    go_wp2_with fail
    go_ret
    exact ⟨rfl, HB.out.trans (hb.mono HB.out.size)⟩
  | true =>
    have HT : Hid (exprT x = exprS x) := hid (by unfold exprT; rw [hq]; rfl)
    rw [hq] at HW
    rw [HT.out]
    have HS : Hid (∀ w2, Below w.heap.size w w2 → Calls Tryz.prog 33 #[.agg [.int .i64 k, .string s, .int .i64 v2, .int .i64 v3, .int .i64 v4, .slice A1 n1 c1, .slice A2 n2 c2, .slice A3 n3 c3].toArray] w2 fun e w' => e = .returned (sv (exprS x)) ∧ Below w2.heap.size w2 w') := hid (fun w2 hb2 => expr_all x w2 _ 25 (HR.out.far (Nat.le_refl _) hb2) HOK.out hq hc (HX.out.below hb2))
    clear hq HT HR
    generalize exprS x = u at *
    go_enter Tryz.func12, Tryz.ntmps12
    go_wp2_with fail
    refine HW.out.mono ?_
    rintro e w2 ⟨rfl, hb⟩
    rw [← HWE.out] at hb
    have HB2 := hid (HB.out.trans (hb.mono HB.out.size))
    obtain ⟨g0, g1, g2, g3, g4, g5, g6, g7⟩ := t_row8 ((hb.block _ (block_lt HBX.out)).trans HBX.out)
    clear hb
    go_wp2_with fail
    refine (HS.out _ HB2.out).mono ?_
    rintro e w3 ⟨rfl, hb3⟩
    go_wp2_with fail
    go_ret
    exact ⟨rfl, HB2.out.trans (hb3.mono HB2.out.size)⟩
end Go.Proofs.YtbpedjkebemhnaaGreatDoor
