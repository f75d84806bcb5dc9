/- The law TreeExprs walked. -/
import Derived.Test.YtbpedjkebemhnaaGreatDoorMQ
import Derived.Test.YtbpedjkebemhnaaGreatDoorVE
import Derived.Test.YtbpedjkebemhnaaGreatDoorVD9
import Derived.Test.YtbpedjkebemhnaaGreatDoorGO
set_option linter.unusedVariables false
namespace Go.Proofs.YtbpedjkebemhnaaGreatDoor
open Go.RowKit

set_option maxRecDepth 100000 in
set_option maxHeartbeats 4000000 in
theorem treeexprs_any (z : List Value) (t : NoD) (w : World) (hr : NoR w w.heap.size z t) (hok : okN t) (hX : LaidT w) :
    Calls Tryz.prog 3 #[.agg z.toArray] w fun e w' => e = .returned (.bool true) ∧ Below w.heap.size w w' := by
  obtain ⟨k, s, v2, v3, v4, A1, n1, c1, A2, n2, c2, A3, n3, c3, rfl⟩ := hr.shape
  obtain ⟨W, hW⟩ : ∃ W, w.alloc (.cells #[.int .i64 k, .string s, .int .i64 v2, .int .i64 v3, .int .i64 v4, .slice A1 n1 c1, .slice A2 n2 c2, .slice A3 n3 c3] 26) = W := ⟨_, rfl⟩
  have hb1 : Below w.heap.size w W := by rw [← hW]; exact (Below.refl _ _).alloc (Nat.le_refl _) _
  have hbx : W.heap[w.heap.size]? = some (.cells #[.int .i64 k, .string s, .int .i64 v2, .int .i64 v3, .int .i64 v4, .slice A1 n1 c1, .slice A2 n2 c2, .slice A3 n3 c3] 26 (0, 0)) := by rw [← hW]; exact heap_alloc_new w _
  have HA := awake_any W (hX.below hb1)
  rw [← hW] at HA
  have HA := hid HA
  have HFR := hid (fun (w1 : World) (h : Below W.heap.size W w1) => hr.far (Nat.le_refl _) (hb1.trans (h.mono hb1.size)))
  have HX := hid (hX.below hb1)
  have HB := hid hb1
  have HBX := hid hbx
  have HWE := hid hW
  have HOK := hid hok
  clear hr hX hb1 hbx hW hok
  go_enter Tryz.func3, Tryz.ntmps3
  go_wp2_with fail
  refine HA.out.mono ?_
  rintro e w2 ⟨rfl, hb⟩
  rw [HWE.out] at hb
  have HB2 := hid hb
  obtain ⟨g0, g1, g2, g3, g4, g5, g6, g7⟩ := t_row8 ((hb.block _ (block_lt HBX.out)).trans HBX.out)
  clear hb
  go_wp2_with fail
  refine (weight_any t w2 _ 2000 (HFR.out w2 HB2.out) HOK.out (by omega) (by omega)).mono ?_
  rintro e w3 ⟨rfl, hb⟩
  have HB3 := hid (HB2.out.trans (hb.mono HB2.out.size))
  have hcn := weight_cnt t 2000
  clear hb g0 g1 g2 g3 g4 g5 g6 g7
  obtain ⟨g0, g1, g2, g3, g4, g5, g6, g7⟩ := t_row8 ((HB3.out.block _ (block_lt HBX.out)).trans HBX.out)
  generalize weightB t 2000 = q at *
  by_cases h0 : q = 0
  · have g : ((q : Int) == 0) = true := by rw [beq_iff_eq]; omega
    clear h0 hcn
    go_wp2_with fail
    go_ret
    exact ⟨rfl, HB.out.trans (HB3.out.mono HB.out.size)⟩
  · have g : ((q : Int) == 0) = false := by rw [beq_eq_false_iff_ne]; omega
    have hc : cntN t ≤ 100000 := by have := hcn (by omega); omega
    have HC := hid hc
    have HT := hid (fun (w1 : World) (h : Below W.heap.size W w1) => texpr_any w1 _ t (HFR.out w1 h) HOK.out HC.out (HX.out.below h))
    have HR := hid (fun (w1 : World) (h : Below W.heap.size W w1) => rexpr_any w1 _ t (HFR.out w1 h) HOK.out HC.out)
    generalize exprT t = X at *
    obtain ⟨k0, k1, k2, k3, k4, k5, k6, k7⟩ := t_row8 HBX.out
    have G0 := hid k0
    have G1 := hid k1
    have G2 := hid k2
    have G3 := hid k3
    have G4 := hid k4
    have G5 := hid k5
    have G6 := hid k6
    have G7 := hid k7
    clear k0 k1 k2 k3 k4 k5 k6 k7
    have HB0 : Hid (Below W.heap.size W w3.drew) := hid (HB3.out.trans ((below_drawn w3 1).mono HB3.out.size))
    clear h0 hcn hc g0 g1 g2 g3 g4 g5 g6 g7
    go_wp2_with fail
    refine wp_region_held_drew (S := fun w' => Below W.heap.size W w') (by kernel_rfl) HB0.out (fun _ => ?_)
    try simp only [Act.put, List.getElem_toArray, List.getElem_cons_zero, List.getElem_cons_succ, List.setIfInBounds_toArray, List.set_cons_zero, List.set_cons_succ]
    refine tk 0 (.bool true) HB0.out ?_
    refine tk 1 (.bool true) HB0.out ?_
    refine tkf 2 (.agg #[.int .i64 k, .string s, .int .i64 v2, .int .i64 v3, .int .i64 v4, .slice A1 n1 c1, .slice A2 n2 c2, .slice A3 n3 c3]) (kp8 G0.out G1.out G2.out G3.out G4.out G5.out G6.out G7.out) HB0.out ?_
    refine tkf 4 (.agg #[.int .i64 k, .string s, .int .i64 v2, .int .i64 v3, .int .i64 v4, .slice A1 n1 c1, .slice A2 n2 c2, .slice A3 n3 c3]) (kp8 G0.out G1.out G2.out G3.out G4.out G5.out G6.out G7.out) HB0.out ?_
    refine wpAnyH_ready (rs := [3]) (by kernel_rfl) (by simp) ?_
    refine AllReadyH.cons rfl (fun K hK => ?_) (AllReadyH.nil)
    go_simp
    refine (HT.out _ HB0.out).mono ?_
    rintro e w4 ⟨rfl, hb⟩
    have HB4 := hid (HB0.out.trans (hb.mono HB0.out.size))
    clear hb
    refine hK.out _ _ HB4.out (fun _ => ?_)
    clear hK K
    try simp only [Act.put, List.getElem_toArray, List.getElem_cons_zero, List.getElem_cons_succ, List.setIfInBounds_toArray, List.set_cons_zero, List.set_cons_succ]
    refine wpAnyH_ready (rs := [5]) (by kernel_rfl) (by simp) ?_
    refine AllReadyH.cons rfl (fun K hK => ?_) (AllReadyH.nil)
    go_simp
    refine (HR.out _ HB4.out).mono ?_
    rintro e w5 ⟨rfl, hb⟩
    have HB5 := hid (HB4.out.trans (hb.mono HB4.out.size))
    clear hb
    refine hK.out _ _ HB5.out (fun _ => ?_)
    clear hK K
    try simp only [Act.put, List.getElem_toArray, List.getElem_cons_zero, List.getElem_cons_succ, List.setIfInBounds_toArray, List.set_cons_zero, List.set_cons_succ]
    refine tk 6 (.bool true) HB5.out ?_
    refine tk 7 (.bool true) HB5.out ?_
    refine tk 8 (.bool true) HB5.out ?_
    refine wpAnyH_done (by kernel_rfl) ?_ _
    go_wp2_with fail
    go_ret
    exact ⟨rfl, HB.out.trans (HB5.out.mono HB.out.size)⟩
end Go.Proofs.YtbpedjkebemhnaaGreatDoor
