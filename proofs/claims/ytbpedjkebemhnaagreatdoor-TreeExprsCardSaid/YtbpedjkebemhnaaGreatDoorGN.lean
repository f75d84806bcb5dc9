/- Texts that belong together: UG, UH. -/
import Derived.Test.YtbpedjkebemhnaaGreatDoorMQ
import Derived.Test.YtbpedjkebemhnaaGreatDoorGM
import Derived.Test.YtbpedjkebemhnaaGreatDoorGL
import Derived.Test.YtbpedjkebemhnaaGreatDoorGC
import Derived.Test.YtbpedjkebemhnaaGreatDoorGA
import Derived.Test.YtbpedjkebemhnaaGreatDoorGD
import Derived.Test.YtbpedjkebemhnaaGreatDoorProg
import Derived.Deep.WholeRow
/- Is a node's text right: tree.text. -/
set_option linter.unusedVariables false
namespace Go.Proofs.YtbpedjkebemhnaaGreatDoor
open Go.RowKit

set_option maxRecDepth 100000 in
set_option maxHeartbeats 2000000 in
theorem text_any (w : World) (k : Int) (text : Bt) (v2 v3 v4 : Int) (A5 : Option Addr) (n5 c5 : Nat) (A6 : Option Addr) (n6 c6 : Nat) (A7 : Option Addr) (n7 c7 : Nat) (ht : text.length ≤ maxLen) (hX : LaidT w) (b : Bool) (a1 a2 a3 a4 : Int) :
    Calls Tryz.prog 71 #[.agg #[.int .i64 k, sv text, .int .i64 v2, .int .i64 v3, .int .i64 v4, .slice A5 n5 c5, .slice A6 n6 c6, .slice A7 n7 c7], .agg #[.bool b, .int .i64 a1, .int .i64 a2, .int .i64 a3, .int .i64 a4]] w fun e w' => e = .returned (.bool (textB k text b)) ∧ Below w.heap.size w w' := by
  obtain ⟨W, hW⟩ : ∃ W, (w.alloc (.cells #[.int .i64 k, sv text, .int .i64 v2, .int .i64 v3, .int .i64 v4, .slice A5 n5 c5, .slice A6 n6 c6, .slice A7 n7 c7] 26)).alloc (.cells #[.bool b, .int .i64 a1, .int .i64 a2, .int .i64 a3, .int .i64 a4] 105) = W := ⟨_, rfl⟩
  have hb2 : Below w.heap.size w W := by rw [← hW]; exact ((Below.refl _ _).alloc (Nat.le_refl _) _).alloc (by simp) _
  have HB := hid hb2
  have HW := hid hW
  have HX := hid (hX.below hb2)
  have HNM := hid (name_all W text (hX.below hb2) ht)
  have HST := hid (tstr_any text W ht)
  have hbx : W.heap[w.heap.size]? = some (.cells #[.int .i64 k, sv text, .int .i64 v2, .int .i64 v3, .int .i64 v4, .slice A5 n5 c5, .slice A6 n6 c6, .slice A7 n7 c7] 26 (0, 0)) := by rw [← hW]; exact (two_new w _ _).1
  obtain ⟨_, g1, _⟩ := t_row8 hbx
  have G1 := hid g1
  clear hX hbx g1 hb2 ht
  cases b with
  | true =>
    have HT : Hid (textB k text true = nameL text) := hid rfl
    rw [HT.out]
    rw [← hW] at HNM
    clear hW
    generalize nameL text = q at *
    go_enter Tryz.func71, Tryz.ntmps71
    go_wp2_with fail
    refine HNM.out.mono ?_
    rintro e w2 ⟨rfl, hb⟩
    have hW := HW.out
    rw [hW] at hb
    go_wp2_with fail
    go_ret
    exact ⟨rfl, HB.out.trans (hb.mono HB.out.size)⟩
  | false =>
    by_cases k1 : k = 1
    · subst k1
      have HT : Hid (textB 1 text false = strB text) := hid rfl
      rw [HT.out]
      rw [← hW] at HST
      clear hW
      generalize strB text = q at *
      go_enter Tryz.func71, Tryz.ntmps71
      go_wp2_with fail
      refine HST.out.mono ?_
      rintro e w2 ⟨rfl, hb⟩
      have hW := HW.out
      rw [hW] at hb
      go_wp2_with fail
      go_ret
      exact ⟨rfl, HB.out.trans (hb.mono HB.out.size)⟩
    have q1 : (k == 1) = false := beq_eq_false_iff_ne.mpr k1
    by_cases k14 : k = 14
    · subst k14
      have HT : Hid (textB 14 text false = decide (text ∈ opsL)) := hid (by show opsL.contains text = _; rw [List.contains_eq_mem])
      rw [HT.out]
      clear hW k1 q1
      have HB0 : Hid (Below W.heap.size W W.drew) := hid (below_drawn W 1)
      have HO := hid (ops_any W.drew (HX.out.below HB0.out))
      have HCC := hid (fun v (w1 : World) (h : Ss w1 w1.heap.size v opsL) => contains_any v opsL text w1 h)
      clear HT HNM HST
      generalize decide (text ∈ opsL) = q at *
      go_enter Tryz.func71, Tryz.ntmps71
      go_wp2_with fail
      have hW := HW.out
      rw [hW]
      clear hW
      refine wp_region_held_drew (S := fun w' => Below W.heap.size W w') (by kernel_rfl) HB0.out (fun _ => ?_)
      try simp only [Act.put, List.getElem_toArray, List.getElem_cons_zero, List.getElem_cons_succ, List.setIfInBounds_toArray, List.set_cons_zero, List.set_cons_succ]
      refine tk 1 (.pointer (some ⟨w.heap.size, 1, none⟩)) HB0.out ?_
      refine tkf 2 (sv text) (kp1 G1.out) HB0.out ?_
      refine wpAnyH_ready (rs := [0]) (by kernel_rfl) (by simp) ?_
      refine AllReadyH.cons rfl (fun K hK => ?_) (AllReadyH.nil)
      go_simp
      refine HO.out.mono ?_
      rintro e w2 ⟨v2, rfl, hss, hb⟩
      have HSS := hid hss
      have HB2 := hid (HB0.out.trans (hb.mono HB0.out.size))
      clear hb hss
      refine hK.out _ _ HB2.out (fun _ => ?_)
      clear hK K
      try simp only [Act.put, List.getElem_toArray, List.getElem_cons_zero, List.getElem_cons_succ, List.setIfInBounds_toArray, List.set_cons_zero, List.set_cons_succ]
      refine wpAnyH_ready (rs := [3]) (by kernel_rfl) (by simp) ?_
      refine AllReadyH.cons rfl (fun K hK => ?_) (AllReadyH.nil)
      go_simp
      refine (HCC.out _ _ HSS.out).mono ?_
      rintro e w3 ⟨rfl, rfl⟩
      refine hK.out _ _ HB2.out (fun _ => ?_)
      clear hK K
      try simp only [Act.put, List.getElem_toArray, List.getElem_cons_zero, List.getElem_cons_succ, List.setIfInBounds_toArray, List.set_cons_zero, List.set_cons_succ]
      refine tk 4 (.bool q) HB2.out ?_
      refine wpAnyH_done (by kernel_rfl) ?_ _
      go_wp2_with fail
      go_ret
      exact ⟨rfl, HB.out.trans (HB2.out.mono HB.out.size)⟩
    have q14 : (k == 14) = false := beq_eq_false_iff_ne.mpr k14
    have HT : Hid (textB k text false = (text == [])) := hid (by unfold textB; rw [if_neg (by simp), if_neg k1, if_neg k14])
    rw [HT.out]
    clear hW k1 k14 HNM HST HT
    rw [← HW.out] at HB
    cases hq : (text == []) with
    | true =>
      obtain rfl : text = [] := by simpa using hq
      go_enter Tryz.func71, Tryz.ntmps71
      go_wp2_with fail
      go_ret
      exact ⟨rfl, HB.out⟩
    | false =>
      go_enter Tryz.func71, Tryz.ntmps71
      go_wp2_with fail
      go_ret
      exact ⟨rfl, HB.out⟩
end Go.Proofs.YtbpedjkebemhnaaGreatDoor

/- What each kind of node has: tree.kinds. -/
set_option linter.unusedVariables false
namespace Go.Proofs.YtbpedjkebemhnaaGreatDoor
open Go.RowKit

theorem results_cell {P : Program} {fn : Func} {p : Tmp} {ty : TypeId} (h : fn.results = #[.cell p ty]) (tmps : Array Value) (w : World) (g : Nat) (t : TypeId) (cs : Array Value) (fr : Nat × Nat) (d : TypeDesc)
    (hp : tmps.getD p undef = .pointer (some ⟨g, 0, none⟩)) (hg : w.heap[g]? = some (.cells cs t fr))
    (hu : P.underlying ty = some d) (hd : (match d with | .struct _ | .array _ _ => true | _ => false) = true) (hi : (P.info? ty).map (·.size) = some cs.size) :
    (results fn tmps).run P w = .ok (.agg cs) w := by
  have hp' : tmps[p]?.getD undef = .pointer (some ⟨g, 0, none⟩) := by simpa using hp
  simp [results, h, hp', asAddr, run_loadVar_row w g t ty cs fr d hg hu hd hi, Result.andThen]
def kindsL : List Value := [.bool false, .int .i64 0, .int .i64 0, .int .i64 0, .int .i64 9223372036854775807, .bool false, .int .i64 0, .int .i64 0, .int .i64 0, .int .i64 0, .bool false, .int .i64 0, .int .i64 0, .int .i64 0, .int .i64 1, .bool false, .int .i64 0, .int .i64 0, .int .i64 0, .int .i64 0, .bool true, .int .i64 0, .int .i64 0, .int .i64 0, .int .i64 0, .bool true, .int .i64 0, .int .i64 1, .int .i64 2, .int .i64 0, .bool true, .int .i64 1, .int .i64 2, .int .i64 1, .int .i64 0, .bool false, .int .i64 0, .int .i64 0, .int .i64 2, .int .i64 0, .bool false, .int .i64 0, .int .i64 0, .int .i64 (-1), .int .i64 0, .bool true, .int .i64 0, .int .i64 0, .int .i64 1, .int .i64 0, .bool true, .int .i64 0, .int .i64 0, .int .i64 2, .int .i64 0, .bool false, .int .i64 0, .int .i64 0, .int .i64 3, .int .i64 0, .bool false, .int .i64 0, .int .i64 0, .int .i64 1, .int .i64 5, .bool false, .int .i64 1, .int .i64 1, .int .i64 1, .int .i64 0, .bool false, .int .i64 0, .int .i64 0, .int .i64 2, .int .i64 0, .bool false, .int .i64 0, .int .i64 0, .int .i64 1, .int .i64 0, .bool false, .int .i64 0, .int .i64 0, .int .i64 1, .int .i64 0, .bool false, .int .i64 0, .int .i64 0, .int .i64 1, .int .i64 0, .bool false, .int .i64 0, .int .i64 0, .int .i64 0, .int .i64 0, .bool true, .int .i64 1, .int .i64 1048576, .int .i64 0, .int .i64 0]
set_option maxRecDepth 100000 in
set_option maxHeartbeats 2000000 in
theorem kinds_all (w : World) : Calls Tryz.prog 70 #[] w fun e w' => e = .returned (.agg kindsL.toArray) ∧ Below w.heap.size w w' := by
  have hst : ∀ L : List Value, L = kindsL → (storeCells ⟨w.heap.size, 0, none⟩ L 0).run Tryz.prog (w.alloc (.cells Tryz.zeroCells106 106)) = .ok () (w.alloc (.cells kindsL.toArray 106)) := by
    intro L h
    subst h
    have := run_storeCells_new (P := Tryz.prog) w 106 Tryz.zeroCells106 kindsL.toArray (by kernel_rfl) (by kernel_rfl) (by kernel_rfl)
    simpa using this
  go_enter Tryz.func70, Tryz.ntmps70
  go_wp2_with fail
  rw [hst _ (by kernel_rfl)]
  clear hst
  have hK : kindsL.toArray.size = 100 := by kernel_rfl
  generalize hKL : kindsL.toArray = L at *
  go_wp2_with fail
  refine bodyPost_ret (results_cell rfl _ _ w.heap.size _ _ _ _ rfl (heap_alloc_new w _) Tryz.underlying106 rfl (by rw [hK]; kernel_rfl)) rfl ?_
  exact ⟨by rw [hKL], (Below.refl _ _).alloc (Nat.le_refl _) _⟩
def hasV (h : HasD) : Value := .agg #[.bool h.name, .int .i64 (h.low : Int), .int .i64 (h.types : Int), .int .i64 h.kids, .int .i64 h.most]
theorem kinds_index (k : Int) (h0 : 0 ≤ k) (h1 : k < 20) (u : World) : (Instr.index 106 (.agg kindsL.toArray) (.int .i64 k)).run Tryz.prog u = .ok (hasV (hasD k)) u := by
  have h : k = 0 ∨ k = 1 ∨ k = 2 ∨ k = 3 ∨ k = 4 ∨ k = 5 ∨ k = 6 ∨ k = 7 ∨ k = 8 ∨ k = 9 ∨ k = 10 ∨ k = 11 ∨ k = 12 ∨ k = 13 ∨ k = 14 ∨ k = 15 ∨ k = 16 ∨ k = 17 ∨ k = 18 ∨ k = 19 := by omega
  clear h0 h1
  rcases h with rfl | rfl | rfl | rfl | rfl | rfl | rfl | rfl | rfl | rfl | rfl | rfl | rfl | rfl | rfl | rfl | rfl | rfl | rfl | rfl
  all_goals (show _ = _; kernel_rfl)
theorem kinds_any (w : World) : Calls Tryz.prog 70 #[] w fun e w' => (∃ v, e = .returned v ∧ ∀ k : Int, 0 ≤ k → k < 20 → ∀ u, (Instr.index 106 v (.int .i64 k)).run Tryz.prog u = .ok (hasV (hasD k)) u) ∧ Below w.heap.size w w' :=
  (kinds_all w).mono fun e w' h => ⟨⟨_, h.1, fun k h0 h1 u => kinds_index k h0 h1 u⟩, h.2⟩
end Go.Proofs.YtbpedjkebemhnaaGreatDoor
