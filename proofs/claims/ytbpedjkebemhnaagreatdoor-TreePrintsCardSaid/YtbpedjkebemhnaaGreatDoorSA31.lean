/- YM, YC, VW -/
import Derived.Test.YtbpedjkebemhnaaGreatDoorSA29
import Derived.Test.YtbpedjkebemhnaaGreatDoorSA30
import Derived.Test.YtbpedjkebemhnaaGreatDoorSA21
import Derived.Test.YtbpedjkebemhnaaGreatDoorSA07
import Derived.Test.YtbpedjkebemhnaaGreatDoorSA02
import Derived.Test.YtbpedjkebemhnaaGreatDoorSA03
import Derived.Test.YtbpedjkebemhnaaGreatDoorCards
import Derived.Test.YtbpedjkebemhnaaGreatDoorTie
import Derived.ProofKit
import Derived.OpenShut
import Derived.LaidMore
import Derived.LaidSub
import Derived.Stop.Joined
import Derived.Stop.LaidErr
import Derived.Lib.LaidTab
import Derived.Deep.DeepHandedRow
import Derived.Deep.DeepWitnessRowRef
set_option linter.unusedSimpArgs false
set_option linter.unusedVariables false
section
/- The law TreePrints walked. -/
set_option linter.unusedVariables false
namespace Go.Proofs.YtbpedjkebemhnaaGreatDoor
open Go.RowKit

theorem kp2 {w : World} {a0 a1 : Addr} {v0 v1 : Value} (d0 : w.cell? a0 = some v0) (d1 : w.cell? a1 = some v1) : ∀ w', Below w.heap.size w w' → w'.cell? a0 = some v0 ∧ w'.cell? a1 = some v1 := fun _ h => ⟨kb h d0, kb h d1⟩
set_option maxRecDepth 100000 in
set_option maxHeartbeats 4000000 in
theorem treeprints_any (z : List Value) (m : MoD) (w : World) (hr : MoR w w.heap.size z m) (hok : okM m) (hX : LaidT w) :
    Calls Tryz.prog 5 #[.agg z.toArray] w fun e w' => e = .returned (.bool true) ∧ Below w.heap.size w w' := by
  have hr0 := hr
  obtain ⟨A1, c1, A2, c2, xi, xd, rfl, _⟩ := hr.parts
  obtain ⟨W, hW⟩ : ∃ W, w.alloc (.cells #[.slice A1 m.imps.length c1, .slice A2 m.decls.length c2] 39) = W := ⟨_, rfl⟩
  have hb1 : Below w.heap.size w W := by rw [← hW]; exact (Below.refl _ _).alloc (Nat.le_refl _) _
  have hbx : W.heap[w.heap.size]? = some (.cells #[.slice A1 m.imps.length c1, .slice A2 m.decls.length c2] 39 (0, 0)) := by rw [← hW]; exact heap_alloc_new w _
  have HA := hid (awake_any W (hX.below hb1))
  have HFR := hid (fun (w1 : World) (h : Below W.heap.size W w1) => hr0.far (Nat.le_refl _) (hb1.trans (h.mono hb1.size)))
  have HX := hid (hX.below hb1)
  have HB := hid hb1
  have HBX := hid hbx
  have HOK := hid hok
  have HSMALL := hid (fun (w1 : World) (h : Below W.heap.size W w1) => small_any m w1 _ (HFR.out w1 h) hok 2000 (by omega))
  have HMA : Hid (SmM m → ∀ w1, Below W.heap.size W w1 → Calls Tryz.prog 21 #[.agg #[.slice A1 m.imps.length c1, .slice A2 m.decls.length c2]] w1 fun e w' => e = .returned (.bool (mayB m)) ∧ Below w1.heap.size w1 w') := hid (fun hS w1 h => tmay_any m w1 _ (HFR.out w1 h) hok (HX.out.below h) hS)
  have HMR : Hid (SmM m → ∀ w1, Below W.heap.size W w1 → Calls Tryz.prog 22 #[.agg #[.slice A1 m.imps.length c1, .slice A2 m.decls.length c2]] w1 fun e w' => e = .returned (.bool (mayB m)) ∧ Below w1.heap.size w1 w') := hid (fun hS w1 h => rmay_any m w1 _ (HFR.out w1 h) hok hS)
  have HPA : Hid (SmM m → ∀ w1, Below W.heap.size W w1 → Calls Tryz.prog 23 #[.agg #[.slice A1 m.imps.length c1, .slice A2 m.decls.length c2]] w1 fun e w' => e = .returned (sv (printT m)) ∧ Below w1.heap.size w1 w') := hid (fun hS w1 h => tprint_any m w1 _ (HFR.out w1 h) hok (HX.out.below h) hS)
  have HPR : Hid (SmM m → ∀ w1, Below W.heap.size W w1 → Calls Tryz.prog 24 #[.agg #[.slice A1 m.imps.length c1, .slice A2 m.decls.length c2]] w1 fun e w' => e = .returned (sv (printT m)) ∧ Below w1.heap.size w1 w') := hid (fun hS w1 h => rprint_any m w1 _ (HFR.out w1 h) hok hS)
  clear hr hr0 hX hb1 hbx hok
  generalize m.imps.length = a at *
  generalize m.decls.length = d at *
  generalize mayB m = q at *
  generalize printT m = T at *
  go_enter Tryz.func5, Tryz.ntmps5
  go_wp2_with fail
  refine HA.out.mono ?_
  rintro e w2 ⟨rfl, hb⟩
  have HB2 := hid hb
  obtain ⟨g0, g1⟩ := t_row2 ((hb.block _ (block_lt HBX.out)).trans HBX.out)
  clear hb hW
  go_wp2_with fail
  clear g0 g1
  refine (HSMALL.out _ HB2.out).mono ?_
  rintro e w3 ⟨b, rfl, hbs, hb⟩
  have HB3 := hid (HB2.out.trans (hb.mono HB2.out.size))
  have HBS := hid hbs
  clear hb hbs
  cases b with
  | false =>
    go_wp2_with fail
    go_ret
    exact ⟨rfl, HB.out.trans (HB3.out.mono HB.out.size)⟩
  | true =>
  have HS := hid (HBS.out rfl)
  clear HBS
  go_wp2_with fail
  refine (ops_any _ (HX.out.below HB3.out)).mono ?_
  rintro e w4 ⟨v1, rfl, hs1, hb⟩
  have HB4 := hid (HB3.out.trans (hb.mono HB3.out.size))
  have HS1 := hid hs1
  clear hb hs1
  go_wp2_with fail
  refine (rops_any _).mono ?_
  rintro e w5 ⟨v2, rfl, hs2, hb⟩
  have HB5 := hid (HB4.out.trans (hb.mono HB4.out.size))
  have HT := hid (texts_any v1 v2 opsL opsL w5 (Ss.more (Ss.below HS1.out hb) hb.size) hs2)
  clear hb hs2
  obtain ⟨ol, hol⟩ : ∃ ol, ol = opsL := ⟨_, rfl⟩
  rw [← hol] at HT
  clear hol HS1
  go_wp2_with fail
  refine HT.out.mono ?_
  rintro e w6 ⟨rfl, hb⟩
  have HB6 := hid (HB5.out.trans (hb.mono HB5.out.size))
  clear hb HT
  obtain ⟨k0, k1⟩ := t_row2 HBX.out
  have G0 := hid k0
  have G1 := hid k1
  have HB0 : Hid (Below W.heap.size W w6.drew) := hid (HB6.out.trans ((below_drawn w6 1).mono HB6.out.size))
  clear k0 k1
  go_wp2_with fail
  refine wp_region_held_drew (S := fun w' => Below W.heap.size W w') (by kernel_rfl) HB0.out (fun _ => ?_)
  try simp only [Act.put, List.getElem_toArray, List.getElem_cons_zero, List.getElem_cons_succ, List.setIfInBounds_toArray, List.set_cons_zero, List.set_cons_succ]
  refine tk 0 (.bool true) HB0.out ?_
  refine tk 1 (.bool true) HB0.out ?_
  refine tkf 2 (.agg #[.slice A1 a c1, .slice A2 d c2]) (kp2 G0.out G1.out) HB0.out ?_
  refine tkf 4 (.agg #[.slice A1 a c1, .slice A2 d c2]) (kp2 G0.out G1.out) HB0.out ?_
  refine wpAnyH_ready (rs := [3]) (by kernel_rfl) (by simp) ?_
  refine AllReadyH.cons rfl (fun K hK => ?_) (AllReadyH.nil)
  go_simp
  refine (HMA.out HS.out _ HB0.out).mono ?_
  rintro e w7 ⟨rfl, hb⟩
  have HB7 := hid (HB0.out.trans (hb.mono HB0.out.size))
  clear hb
  refine hK.out _ _ HB7.out (fun _ => ?_)
  clear hK K
  try simp only [Act.put, List.getElem_toArray, List.getElem_cons_zero, List.getElem_cons_succ, List.setIfInBounds_toArray, List.set_cons_zero, List.set_cons_succ]
  refine wpAnyH_ready (rs := [5]) (by kernel_rfl) (by simp) ?_
  refine AllReadyH.cons rfl (fun K hK => ?_) (AllReadyH.nil)
  go_simp
  refine (HMR.out HS.out _ HB7.out).mono ?_
  rintro e w8 ⟨rfl, hb⟩
  have HB8 := hid (HB7.out.trans (hb.mono HB7.out.size))
  clear hb
  refine hK.out _ _ HB8.out (fun _ => ?_)
  clear hK K
  try simp only [Act.put, List.getElem_toArray, List.getElem_cons_zero, List.getElem_cons_succ, List.setIfInBounds_toArray, List.set_cons_zero, List.set_cons_succ]
  refine tk 6 (.bool true) HB8.out ?_
  refine tk 7 (.bool true) HB8.out ?_
  refine tk 8 (.bool true) HB8.out ?_
  refine tkf 9 (.agg #[.slice A1 a c1, .slice A2 d c2]) (kp2 G0.out G1.out) HB8.out ?_
  refine tkf 11 (.agg #[.slice A1 a c1, .slice A2 d c2]) (kp2 G0.out G1.out) HB8.out ?_
  refine wpAnyH_ready (rs := [10]) (by kernel_rfl) (by simp) ?_
  refine AllReadyH.cons rfl (fun K hK => ?_) (AllReadyH.nil)
  go_simp
  refine (HPA.out HS.out _ HB8.out).mono ?_
  rintro e w9 ⟨rfl, hb⟩
  have HB9 := hid (HB8.out.trans (hb.mono HB8.out.size))
  clear hb
  refine hK.out _ _ HB9.out (fun _ => ?_)
  clear hK K
  try simp only [Act.put, List.getElem_toArray, List.getElem_cons_zero, List.getElem_cons_succ, List.setIfInBounds_toArray, List.set_cons_zero, List.set_cons_succ]
  refine wpAnyH_ready (rs := [12]) (by kernel_rfl) (by simp) ?_
  refine AllReadyH.cons rfl (fun K hK => ?_) (AllReadyH.nil)
  go_simp
  refine (HPR.out HS.out _ HB9.out).mono ?_
  rintro e w10 ⟨rfl, hb⟩
  have HB10 := hid (HB9.out.trans (hb.mono HB9.out.size))
  clear hb
  refine hK.out _ _ HB10.out (fun _ => ?_)
  clear hK K
  try simp only [Act.put, List.getElem_toArray, List.getElem_cons_zero, List.getElem_cons_succ, List.setIfInBounds_toArray, List.set_cons_zero, List.set_cons_succ]
  refine tk 13 (.bool true) HB10.out ?_
  refine tk 14 (.bool true) HB10.out ?_
  refine tk 15 (.bool true) HB10.out ?_
  refine wpAnyH_done (by kernel_rfl) ?_ _
  go_wp2_with fail
  go_ret
  exact ⟨rfl, HB.out.trans (HB10.out.mono HB.out.size)⟩
end Go.Proofs.YtbpedjkebemhnaaGreatDoor
end
section
/- Opening arguments: modules that came in. -/
set_option linter.unusedVariables false
namespace Go.Proofs.YtbpedjkebemhnaaGreatDoor
open Go.ChangeShapes Go.WideShapes Go.ChangeAt Go.RowKit
section
variable {H : Type} {enc : TypeId × Value → H} {W : World}
theorem t_bo {fuel : Nat} {u : Value} {x : DataW H × List MemPlace} (h : DataW.trod enc Tryz.prog W 0 (fun _ => true) true fuel 4 [u] = some x) : ∃ y, u = .bool y := by
  obtain ⟨n, hn, rfl⟩ := DataW.trod_bool Tryz.underlying4 h
  exact ⟨n, by simpa using hn⟩
theorem row_pair {α : Type} {R : List Value → α → Prop} {S : α → Prop} {k : Nat} {xs : List Value} {ys : List α} (h : TRow (fun z c => R z c ∧ S c) k xs ys) : TRow R k xs ys ∧ ∀ y ∈ ys, S y :=
  ⟨h.imp fun _ _ h => h.1, h.all (S := S) fun _ _ h => h.2⟩
set_option maxRecDepth 100000 in
theorem open_im {fuel : Nat} {cs : List Value} {x : DataW H × List MemPlace} (h : DataW.trod enc Tryz.prog W 0 (fun _ => true) true fuel 62 cs = some x) : ∃ y, ImR W W.heap.size cs y ∧ okI y := by
  obtain ⟨xs, n, hn, rfl, hl, hlen, hf⟩ := DataW.trod_struct Tryz.underlying62 h
  rw [show Tryz.prog.cellsOf 62 = 4 by kernel_rfl] at hl
  match cs, hl, xs, hlen with
  | [u0, u1, u2, u3], _, [y0, y1, y2, y3], _ =>
    have t0 : DataW.trod enc Tryz.prog W 0 (fun _ => true) true n 9 [u0] = some y0 := hf 0 _ rfl
    have t1 : DataW.trod enc Tryz.prog W 0 (fun _ => true) true n 23 [u1] = some y1 := hf 1 _ rfl
    have t2 : DataW.trod enc Tryz.prog W 0 (fun _ => true) true n 3 [u2] = some y2 := hf 2 _ rfl
    have t3 : DataW.trod enc Tryz.prog W 0 (fun _ => true) true n 3 [u3] = some y3 := hf 3 _ rfl
    obtain ⟨f, rfl, hfm⟩ := t_tx t0
    obtain ⟨ns, r1, o1⟩ := t_texts t1
    obtain ⟨l, rfl, hl⟩ := t_in t2
    obtain ⟨c, rfl, hc⟩ := t_in t3
    exact ⟨⟨f, ns, l, c⟩, ⟨_, rfl, r1⟩, hfm, o1, hl, hc⟩
set_option maxRecDepth 100000 in
theorem open_va {fuel : Nat} {cs : List Value} {x : DataW H × List MemPlace} (h : DataW.trod enc Tryz.prog W 0 (fun _ => true) true fuel 67 cs = some x) : ∃ y, VaR W W.heap.size cs y ∧ okV y := by
  obtain ⟨xs, n, hn, rfl, hl, hlen, hf⟩ := DataW.trod_struct Tryz.underlying67 h
  rw [show Tryz.prog.cellsOf 67 = 5 by kernel_rfl] at hl
  match cs, hl, xs, hlen with
  | [u0, u1, u2, u3, u4], _, [y0, y1], _ =>
    have t0 : DataW.trod enc Tryz.prog W 0 (fun _ => true) true n 9 [u0] = some y0 := hf 0 _ rfl
    have t1 : DataW.trod enc Tryz.prog W 0 (fun _ => true) true n 32 [u1, u2, u3, u4] = some y1 := hf 1 _ rfl
    obtain ⟨f, rfl, hfm⟩ := t_tx t0
    obtain ⟨ty, r1, o1⟩ := open_ty _ _ _ t1
    exact ⟨⟨f, ty⟩, ⟨_, rfl, r1⟩, hfm, o1⟩
set_option maxRecDepth 100000 in
theorem open_de {fuel : Nat} {cs : List Value} {x : DataW H × List MemPlace} (h : DataW.trod enc Tryz.prog W 0 (fun _ => true) true fuel 65 cs = some x) : ∃ y, DeR W W.heap.size cs y ∧ okD y := by
  obtain ⟨xs, n, hn, rfl, hl, hlen, hf⟩ := DataW.trod_struct Tryz.underlying65 h
  rw [show Tryz.prog.cellsOf 65 = 15 by kernel_rfl] at hl
  match cs, hl, xs, hlen with
  | [u0, u1, u2, u3, u4, v0, v1, v2, v3, v4, v5, v6, v7, u6, u7], _, [y0, y1, y2, y3, y4, y5, y6, y7], _ =>
    have t0 : DataW.trod enc Tryz.prog W 0 (fun _ => true) true n 9 [u0] = some y0 := hf 0 _ rfl
    have t1 : DataW.trod enc Tryz.prog W 0 (fun _ => true) true n 4 [u1] = some y1 := hf 1 _ rfl
    have t2 : DataW.trod enc Tryz.prog W 0 (fun _ => true) true n 63 [u2] = some y2 := hf 2 _ rfl
    have t3 : DataW.trod enc Tryz.prog W 0 (fun _ => true) true n 9 [u3] = some y3 := hf 3 _ rfl
    have t4 : DataW.trod enc Tryz.prog W 0 (fun _ => true) true n 22 [u4] = some y4 := hf 4 _ rfl
    have t5 : DataW.trod enc Tryz.prog W 0 (fun _ => true) true n 26 [v0, v1, v2, v3, v4, v5, v6, v7] = some y5 := hf 5 _ rfl
    have t6 : DataW.trod enc Tryz.prog W 0 (fun _ => true) true n 3 [u6] = some y6 := hf 6 _ rfl
    have t7 : DataW.trod enc Tryz.prog W 0 (fun _ => true) true n 3 [u7] = some y7 := hf 7 _ rfl
    obtain ⟨nm, rfl, hnm⟩ := t_tx t0
    obtain ⟨ex, rfl⟩ := t_bo t1
    obtain ⟨zv, vs, e1, e2⟩ := open_row Tryz.underlying63 (k := 5) (by kernel_rfl) (by omega) t2 (fun cs y => VaR W W.heap.size cs y ∧ okV y) (fun m cs' x' hm ht _ => open_va ht)
    obtain ⟨pr, rfl, hpr⟩ := t_tx t3
    obtain ⟨zt, ts, f1, f2⟩ := open_row Tryz.underlying22 (k := 4) (by kernel_rfl) (by omega) t4 (fun cs y => TyR W W.heap.size cs y ∧ okT y) (fun m cs' x' hm ht _ => open_ty m cs' x' ht)
    obtain ⟨bd, r5, o5⟩ := open_no _ _ _ t5
    obtain ⟨l, rfl, hl⟩ := t_in t6
    obtain ⟨c, rfl, hc⟩ := t_in t7
    obtain ⟨g1, g2⟩ := row_pair e2
    obtain ⟨g3, g4⟩ := row_tys f2
    exact ⟨⟨nm, ex, vs, pr, ts, bd, l, c⟩, ⟨_, _, _, _, _, rfl, e1, g1, f1, g3, r5⟩, hnm, g2, hpr, g4, o5, hl, hc⟩
set_option maxRecDepth 100000 in
theorem open_mo {fuel : Nat} {cs : List Value} {x : DataW H × List MemPlace} (h : DataW.trod enc Tryz.prog W 0 (fun _ => true) true fuel 39 cs = some x) : ∃ y, MoR W W.heap.size cs y ∧ okM y := by
  obtain ⟨xs, n, hn, rfl, hl, hlen, hf⟩ := DataW.trod_struct Tryz.underlying39 h
  rw [show Tryz.prog.cellsOf 39 = 2 by kernel_rfl] at hl
  match cs, hl, xs, hlen with
  | [u0, u1], _, [y0, y1], _ =>
    have t0 : DataW.trod enc Tryz.prog W 0 (fun _ => true) true n 36 [u0] = some y0 := hf 0 _ rfl
    have t1 : DataW.trod enc Tryz.prog W 0 (fun _ => true) true n 37 [u1] = some y1 := hf 1 _ rfl
    obtain ⟨zi, is, e1, e2⟩ := open_row Tryz.underlying36 (k := 4) (by kernel_rfl) (by omega) t0 (fun cs y => ImR W W.heap.size cs y ∧ okI y) (fun m cs' x' hm ht _ => open_im ht)
    obtain ⟨zd, ds, f1, f2⟩ := open_row Tryz.underlying37 (k := 15) (by kernel_rfl) (by omega) t1 (fun cs y => DeR W W.heap.size cs y ∧ okD y) (fun m cs' x' hm ht _ => open_de ht)
    obtain ⟨g1, g2⟩ := row_pair e2
    obtain ⟨g3, g4⟩ := row_pair f2
    exact ⟨⟨is, ds⟩, ⟨_, _, _, _, rfl, e1, g1, f1, g3⟩, g2, g4⟩
theorem open_module {v : Value} {d : DataW H} {p : List MemPlace} (hd : DataW.Trod enc Tryz.prog W 0 (fun _ => true) true 39 v d p) : ∃ z m, v = Value.agg z.toArray ∧ MoR W W.heap.size z m ∧ okM m := by
  obtain ⟨z, rfl, hz⟩ := agg_cells (k := 2) (by omega) ⟨_, Tryz.underlying39⟩ (by kernel_rfl) hd
  obtain ⟨fuel, h⟩ := hd
  rw [hz] at h
  obtain ⟨m, h1, h2⟩ := open_mo h
  exact ⟨z, m, rfl, h1, h2⟩
end
end Go.Proofs.YtbpedjkebemhnaaGreatDoor
end
section
/- What the tree rows' listed variables give the walks, and a world in which they read so. -/
set_option linter.unusedVariables false
namespace Go.Proofs.YtbpedjkebemhnaaGreatDoor
open Go.ChangeShapes Go.WideShapes Go.ChangeAt Go.RowKit

theorem own : ownKnob Tryz.prog.godebug = none := by kernel_rfl
theorem laidOut : laidOutB Tryz.prog = true := by kernel_rfl
theorem pow10_of {l : List (String × DataW Unit)} {W : World}
    (h1 : (l.filter fun x => x.1 == "internal/strconv.uint64pow10") = [("internal/strconv.uint64pow10", Lib.tabData .u64 Lib.pow10Tab)])
    (h : laidMetH Tryz.prog l W) : Lib.TabIs Tryz.prog W "internal/strconv.uint64pow10" .u64 Lib.pow10Tab := by
  have g1 := laidMetH.filter (fun x => x.1 == "internal/strconv.uint64pow10") h
  rw [h1] at g1
  rw [MakeChecks.laidMetH_plain _ _ _ (by kernel_rfl)] at g1
  exact Lib.tabIs_of_head (g := 5) (by kernel_rfl) (by kernel_rfl) Tryz.underlying258 Tryz.underlying213 (by kernel_rfl) (by kernel_rfl) g1
theorem ascii_of {l : List (String × DataW Unit)} {W : World}
    (h1 : (l.filter fun x => x.1 == "strings.asciiSpace") = [("strings.asciiSpace", Lib.tabData .u8 Lib.asciiSpaceTab)])
    (h : laidMetH Tryz.prog l W) : Lib.TabIs Tryz.prog W "strings.asciiSpace" .u8 Lib.asciiSpaceTab := by
  have g1 := laidMetH.filter (fun x => x.1 == "strings.asciiSpace") h
  rw [h1] at g1
  rw [MakeChecks.laidMetH_plain _ _ _ (by kernel_rfl)] at g1
  exact Lib.tabIs_of_head (g := 0) (by kernel_rfl) (by kernel_rfl) Tryz.underlying120 Tryz.underlying5 (by kernel_rfl) (by kernel_rfl) g1
end Go.Proofs.YtbpedjkebemhnaaGreatDoor
end
