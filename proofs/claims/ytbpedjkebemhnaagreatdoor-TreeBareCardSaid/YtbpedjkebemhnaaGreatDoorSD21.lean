/- YT, YU, YR, YC, VW -/
import Derived.Test.YtbpedjkebemhnaaGreatDoorSD20
import Derived.Test.YtbpedjkebemhnaaGreatDoorSD08
import Derived.Test.YtbpedjkebemhnaaGreatDoorSD02
import Derived.Test.YtbpedjkebemhnaaGreatDoorSD17
import Derived.Test.YtbpedjkebemhnaaGreatDoorSD06
import Derived.Test.YtbpedjkebemhnaaGreatDoorSD18
import Derived.Test.YtbpedjkebemhnaaGreatDoorSD03
import Derived.Test.YtbpedjkebemhnaaGreatDoorCards
import Derived.Test.YtbpedjkebemhnaaGreatDoorTie
import Derived.ProofKit
import Derived.OpenShut
import Derived.LaidMore
import Derived.LaidSub
import Derived.Stop.Joined
import Derived.Stop.LaidErr
import Derived.Lib.LaidTab
import Derived.Deep.DeepHandedRow
import Derived.Deep.DeepWitnessRowRef
set_option linter.unusedSimpArgs false
set_option linter.unusedVariables false
section
/- Functions and modules that say the same: the law finds them the same. -/
set_option linter.unusedVariables false
namespace Go.Proofs.YtbpedjkebemhnaaGreatDoor
open Go.RowKit

theorem kp15 {w : World} {a0 a1 a2 a3 a4 a5 a6 a7 a8 a9 a10 a11 a12 a13 a14 : Addr} {v0 v1 v2 v3 v4 v5 v6 v7 v8 v9 v10 v11 v12 v13 v14 : Value} (d0 : w.cell? a0 = some v0) (d1 : w.cell? a1 = some v1) (d2 : w.cell? a2 = some v2) (d3 : w.cell? a3 = some v3) (d4 : w.cell? a4 = some v4) (d5 : w.cell? a5 = some v5) (d6 : w.cell? a6 = some v6) (d7 : w.cell? a7 = some v7) (d8 : w.cell? a8 = some v8) (d9 : w.cell? a9 = some v9) (d10 : w.cell? a10 = some v10) (d11 : w.cell? a11 = some v11) (d12 : w.cell? a12 = some v12) (d13 : w.cell? a13 = some v13) (d14 : w.cell? a14 = some v14) :
    ∀ w', Below w.heap.size w w' → w'.cell? a0 = some v0 ∧ w'.cell? a1 = some v1 ∧ w'.cell? a2 = some v2 ∧ w'.cell? a3 = some v3 ∧ w'.cell? a4 = some v4 ∧ w'.cell? a5 = some v5 ∧ w'.cell? a6 = some v6 ∧ w'.cell? a7 = some v7 ∧ w'.cell? a8 = some v8 ∧ w'.cell? a9 = some v9 ∧ w'.cell? a10 = some v10 ∧ w'.cell? a11 = some v11 ∧ w'.cell? a12 = some v12 ∧ w'.cell? a13 = some v13 ∧ w'.cell? a14 = some v14 := fun _ h => ⟨kb h d0, kb h d1, kb h d2, kb h d3, kb h d4, kb h d5, kb h d6, kb h d7, kb h d8, kb h d9, kb h d10, kb h d11, kb h d12, kb h d13, kb h d14⟩
set_option maxRecDepth 100000 in
set_option maxHeartbeats 8000000 in
theorem same_decl (d : DeD) (w : World) (z1 z2 : List Value) (h1 : DeR w w.heap.size z1 d) (h2 : DeR w w.heap.size z2 d) :
    Calls Tryz.prog 59 #[.agg z1.toArray, .agg z2.toArray] w fun e w' => e = .returned (.bool true) ∧ Below w.heap.size w w' := by
  obtain ⟨A1, c1, A2, c2, k, s, n, l, c, A3, n3, c3, A4, n4, c4, A5, n5, c5, xv, xt, rfl, s1, r1, s2, r2, r3⟩ := h1.parts
  obtain ⟨B1, e1, B2, e2, k_, s_, n_, l_, c_, B3, m3, e3, B4, m4, e4, B5, m5, e5, yv, yt, rfl, s4, r4, s5, r5, r6⟩ := h2.parts
  obtain ⟨W, hW⟩ : ∃ W, (w.alloc (.cells #[sv d.name, .bool d.exp, .slice A1 d.vars.length c1, sv d.param, .slice A2 d.types.length c2, .int .i64 k, .string s, .int .i64 n, .int .i64 l, .int .i64 c, .slice A3 n3 c3, .slice A4 n4 c4, .slice A5 n5 c5, .int .i64 d.line, .int .i64 d.col] 65)).alloc (.cells #[sv d.name, .bool d.exp, .slice B1 d.vars.length e1, sv d.param, .slice B2 d.types.length e2, .int .i64 k_, .string s_, .int .i64 n_, .int .i64 l_, .int .i64 c_, .slice B3 m3 e3, .slice B4 m4 e4, .slice B5 m5 e5, .int .i64 d.line, .int .i64 d.col] 65) = W := ⟨_, rfl⟩
  have hb2 : Below w.heap.size w W := by rw [← hW]; exact ((Below.refl _ _).alloc (Nat.le_refl _) _).alloc (by simp) _
  have hbx := two_new w (.cells #[sv d.name, .bool d.exp, .slice A1 d.vars.length c1, sv d.param, .slice A2 d.types.length c2, .int .i64 k, .string s, .int .i64 n, .int .i64 l, .int .i64 c, .slice A3 n3 c3, .slice A4 n4 c4, .slice A5 n5 c5, .int .i64 d.line, .int .i64 d.col] 65) (.cells #[sv d.name, .bool d.exp, .slice B1 d.vars.length e1, sv d.param, .slice B2 d.types.length e2, .int .i64 k_, .string s_, .int .i64 n_, .int .i64 l_, .int .i64 c_, .slice B3 m3 e3, .slice B4 m4 e4, .slice B5 m5 e5, .int .i64 d.line, .int .i64 d.col] 65)
  rw [hW] at hbx
  have HX := hid hbx.1
  have HY := hid hbx.2
  have HB2 := hid hb2
  have HK := hid (fun (w1 : World) (h : Below W.heap.size W w1) => kinds_eq d.types w1 _ _ _ _ (Sl.more (Sl.below (Sl.more (Sl.below s2 hb2) hb2.size) h) h.size) ((r2.far (Nat.le_refl _) hb2).far (Nat.le_refl _) h) (Sl.more (Sl.below (Sl.more (Sl.below s5 hb2) hb2.size) h) h.size) ((r5.far (Nat.le_refl _) hb2).far (Nat.le_refl _) h))
  have HN := hid (fun (w1 : World) (h : Below W.heap.size W w1) => same_node d.body w1 _ _ ((r3.far (Nat.le_refl _) hb2).far (Nat.le_refl _) h) ((r6.far (Nat.le_refl _) hb2).far (Nat.le_refl _) h))
  have HS1 := hid (Sl.more (Sl.below s1 hb2) hb2.size)
  have HS4 := hid (Sl.more (Sl.below s4 hb2) hb2.size)
  have HR1 := hid (r1.imp fun _ _ h => (h.keep hb2).more hb2.size)
  have HR4 := hid (r4.imp fun _ _ h => (h.keep hb2).more hb2.size)
  have l1 := (t_sl_len s1).2
  have l2 := (t_sl_len s4).2
  obtain ⟨vs, hvs⟩ : ∃ x, d.vars = x := ⟨_, rfl⟩
  rw [hvs] at HX HY HS1 HS4 HR1 HR4 hW l1 l2
  rw [hvs]
  obtain ⟨nv, hnv⟩ : ∃ x, vs.length = x := ⟨_, rfl⟩
  rw [hnv] at HX HY HS1 HS4 hW l1 l2
  rw [hnv]
  have HNV := hid hnv
  generalize d.types.length = nt at *
  generalize d.name = nm at *
  generalize d.exp = ex at *
  generalize d.param = pm at *
  generalize d.line = dl at *
  generalize d.col = dc at *
  clear h1 h2 s1 s2 s4 s5 r1 r2 r3 r4 r5 r6 hbx hb2 hnv hvs
  have hsz : w.heap.size + 1 < W.heap.size := block_lt HY.out
  obtain ⟨x0, x1, x2, x3, x4, x5, x6, x7, x8, x9, x10, x11, x12, x13, x14⟩ := t_row15 HX.out
  obtain ⟨y0, y1, y2, y3, y4, y5, y6, y7, y8, y9, y10, y11, y12, y13, y14⟩ := t_row15 HY.out
  go_enter Tryz.func59, Tryz.ntmps59
  go_wp2_with fail
  clear x0 x1 x2 x3 x4 x5 x6 x7 x8 x9 x10 x11 x12 x13 x14 y0 y1 y2 y3 y4 y5 y6 y7 y8 y9 y10 y11 y12 y13 y14
  go_loopw [5] (fun v5 wr => ∃ i : Nat, v5 = .int .i64 i ∧ i ≤ nv ∧ Below W.heap.size W wr) (fun v5 _ => nv - (intOf v5).toNat)
  case atStart => exact ⟨0, rfl, by omega, Below.refl _ _⟩
  case round =>
    obtain ⟨i, rfl, hi, hbr⟩ := hrel
    have HBR := hid hbr
    obtain ⟨x0, x1, x2, x3, x4, x5, x6, x7, x8, x9, x10, x11, x12, x13, x14⟩ := t_row15 ((hbr.block _ (block_lt HX.out)).trans HX.out)
    obtain ⟨y0, y1, y2, y3, y4, y5, y6, y7, y8, y9, y10, y11, y12, y13, y14⟩ := t_row15 ((hbr.block _ (block_lt HY.out)).trans HY.out)
    by_cases hlt : i < nv
    · clear x0 x1 x3 x4 x5 x6 x7 x8 x9 x10 x11 x12 x13 x14 y0 y1 y3 y4 y5 y6 y7 y8 y9 y10 y11 y12 y13 y14
      have hil : i < vs.length := by rw [HNV.out]; exact hlt
      obtain ⟨b1, o1, k1, s1, P1, m1, f1, P2, m2, f2, rfl, q1, hk1, d0, d1, d2, d3, d4⟩ := var_at (Sl.more (Sl.below HS1.out hbr) hbr.size) (HR1.out.imp fun _ _ h => (h.keep hbr).more hbr.size) hil HNV.out.symm
      obtain ⟨b2, o2, k2, s2, P3, q3, f3, P4, q4, f4, rfl, q2, hk2, g0, g1, g2, g3, g4⟩ := var_at (Sl.more (Sl.below HS4.out hbr) hbr.size) (HR4.out.imp fun _ _ h => (h.keep hbr).more hbr.size) hil HNV.out.symm
      have HC := hid (fun (w1 : World) (h : Below wr.heap.size wr w1) => same_type _ w1 _ _ (q1.far (Nat.le_refl _) h) (q2.far (Nat.le_refl _) h))
      have D0 := hid d0
      have E0 := hid g0
      have D1 := hid d1
      have E1 := hid g1
      have D2 := hid d2
      have E2 := hid g2
      have D3 := hid d3
      have E3 := hid g3
      have D4 := hid d4
      have E4 := hid g4
      have X2 := hid x2
      have Y2 := hid y2
      have HB0 : Hid (Below wr.heap.size wr wr.drew) := hid (below_drawn wr 1)
      generalize vs[i].name = X at *
      clear q1 q2 hk1 hk2 d0 d1 d2 d3 d4 g0 g1 g2 g3 g4 hbr
      go_wp2_with fail
      refine wp_region_held_drew (S := fun w' => Below wr.heap.size wr w') (by kernel_rfl) HB0.out (fun _ => ?_)
      try simp only [Act.put, List.getElem_toArray, List.getElem_cons_zero, List.getElem_cons_succ, List.setIfInBounds_toArray, List.set_cons_zero, List.set_cons_succ]
      refine tk 0 (.pointer (some ⟨w.heap.size, 2, none⟩)) HB0.out ?_
      refine tkf 1 (.slice (some ⟨b1, o1, none⟩) nv c1) (kp1 X2.out) HB0.out ?_
      refine tk 2 (.int .i64 (i : Int)) HB0.out ?_
      refine tk 3 (.pointer (some ⟨b1, o1 + i * 5, none⟩)) HB0.out ?_
      refine tk 4 (.pointer (some ⟨b1, o1 + i * 5 + 1, none⟩)) HB0.out ?_
      refine tkf 5 (.agg #[.int .i64 k1, .string s1, .slice P1 m1 f1, .slice P2 m2 f2]) (kp4 D1.out D2.out D3.out D4.out) HB0.out ?_
      refine tk 6 (.pointer (some ⟨w.heap.size + 1, 2, none⟩)) HB0.out ?_
      refine tkf 7 (.slice (some ⟨b2, o2, none⟩) nv e1) (kp1 Y2.out) HB0.out ?_
      refine tk 8 (.int .i64 (i : Int)) HB0.out ?_
      refine tk 9 (.pointer (some ⟨b2, o2 + i * 5, none⟩)) HB0.out ?_
      refine tk 10 (.pointer (some ⟨b2, o2 + i * 5 + 1, none⟩)) HB0.out ?_
      refine tkf 11 (.agg #[.int .i64 k2, .string s2, .slice P3 q3 f3, .slice P4 q4 f4]) (kp4 E1.out E2.out E3.out E4.out) HB0.out ?_
      refine wpAnyH_ready (rs := [12]) (by kernel_rfl) (by simp) ?_
      refine AllReadyH.cons rfl (fun K hK => ?_) (AllReadyH.nil)
      go_simp
      refine (HC.out _ HB0.out).mono ?_
      rintro e w2 ⟨rfl, hb⟩
      have HB2 := hid (HB0.out.trans (hb.mono HB0.out.size))
      clear hb
      refine hK.out _ _ HB2.out (fun _ => ?_)
      clear hK K
      try simp only [Act.put, List.getElem_toArray, List.getElem_cons_zero, List.getElem_cons_succ, List.setIfInBounds_toArray, List.set_cons_zero, List.set_cons_succ]
      refine tk 13 (.bool true) HB2.out ?_
      refine wpAnyH_done (by kernel_rfl) ?_ _
      have x2 := kb HB2.out x2
      have y2 := kb HB2.out y2
      have d0 := kb HB2.out D0.out
      have g0 := kb HB2.out E0.out
      clear X2 Y2 D0 E0
      have D0 := hid d0
      have E0 := hid g0
      have X2 := hid x2
      have Y2 := hid y2
      have HB5 : Hid (Below w2.heap.size w2 w2.drew) := hid (below_drawn w2 1)
      clear d0 g0
      go_wp2_with fail
      refine wp_region_held_drew (S := fun w' => Below w2.heap.size w2 w') (by kernel_rfl) HB5.out (fun _ => ?_)
      try simp only [Act.put, List.getElem_toArray, List.getElem_cons_zero, List.getElem_cons_succ, List.setIfInBounds_toArray, List.set_cons_zero, List.set_cons_succ]
      refine tk 0 (.pointer (some ⟨w.heap.size, 2, none⟩)) HB5.out ?_
      refine tkf 1 (.slice (some ⟨b1, o1, none⟩) nv c1) (kp1 X2.out) HB5.out ?_
      refine tk 2 (.int .i64 (i : Int)) HB5.out ?_
      refine tk 3 (.pointer (some ⟨b1, o1 + i * 5, none⟩)) HB5.out ?_
      refine tk 4 (.pointer (some ⟨b1, o1 + i * 5, none⟩)) HB5.out ?_
      refine tkf 5 (sv X) (kp1 D0.out) HB5.out ?_
      refine tk 6 (.pointer (some ⟨w.heap.size + 1, 2, none⟩)) HB5.out ?_
      refine tkf 7 (.slice (some ⟨b2, o2, none⟩) nv e1) (kp1 Y2.out) HB5.out ?_
      refine tk 8 (.int .i64 (i : Int)) HB5.out ?_
      refine tk 9 (.pointer (some ⟨b2, o2 + i * 5, none⟩)) HB5.out ?_
      refine tk 10 (.pointer (some ⟨b2, o2 + i * 5, none⟩)) HB5.out ?_
      refine tkf 11 (sv X) (kp1 E0.out) HB5.out ?_
      refine tk 12 (.bool false) HB5.out ?_
      refine tk 13 (.bool false) HB5.out ?_
      refine tk 14 (.bool true) HB5.out ?_
      refine tk 15 (.bool false) HB5.out ?_
      refine tk 16 (.bool false) HB5.out ?_
      refine wpAnyH_done (by kernel_rfl) ?_ _
      go_wp2_with fail
      go_roundw
      case rel => exact ⟨i + 1, rfl, by omega, (HBR.out.trans (HB2.out.mono HBR.out.size)).trans (HB5.out.mono (HBR.out.trans (HB2.out.mono HBR.out.size)).size)⟩
      case measure => simp [intOf]; omega
    · obtain rfl : i = nv := by omega
      clear hlt hbr
      go_wp2_with fail
      refine (HK.out _ HBR.out).mono ?_
      rintro e w2 ⟨rfl, hb⟩
      have HB3 := hid (HBR.out.trans (hb.mono HBR.out.size))
      have x5 := kb hb x5
      have y5 := kb hb y5
      have x6 := kb hb x6
      have y6 := kb hb y6
      have x7 := kb hb x7
      have y7 := kb hb y7
      have x8 := kb hb x8
      have y8 := kb hb y8
      have x9 := kb hb x9
      have y9 := kb hb y9
      have x10 := kb hb x10
      have y10 := kb hb y10
      have x11 := kb hb x11
      have y11 := kb hb y11
      have x12 := kb hb x12
      have y12 := kb hb y12
      clear hb
      go_wp2_with fail
      refine (HN.out _ HB3.out).mono ?_
      rintro e w3 ⟨rfl, hb⟩
      have HB4 := hid (HB3.out.trans (hb.mono HB3.out.size))
      clear hb
      go_wp2_with fail
      go_ret
      exact ⟨rfl, HB2.out.trans (HB4.out.mono HB2.out.size)⟩
set_option maxRecDepth 100000 in
set_option maxHeartbeats 8000000 in
theorem same_module (m : MoD) (w : World) (z1 z2 : List Value) (h1 : MoR w w.heap.size z1 m) (h2 : MoR w w.heap.size z2 m) :
    Calls Tryz.prog 27 #[.agg z1.toArray, .agg z2.toArray] w fun e w' => e = .returned (.bool true) ∧ Below w.heap.size w w' := by
  obtain ⟨A1, c1, A2, c2, xi, xd, rfl, s1, r1, s2, r2⟩ := h1.parts
  obtain ⟨A3, c3, A4, c4, yi, yd, rfl, s3, r3, s4, r4⟩ := h2.parts
  obtain ⟨W, hW⟩ : ∃ W, (w.alloc (.cells #[.slice A1 m.imps.length c1, .slice A2 m.decls.length c2] 39)).alloc (.cells #[.slice A3 m.imps.length c3, .slice A4 m.decls.length c4] 39) = W := ⟨_, rfl⟩
  have hb2 : Below w.heap.size w W := by rw [← hW]; exact ((Below.refl _ _).alloc (Nat.le_refl _) _).alloc (by simp) _
  have hbx := two_new w (.cells #[.slice A1 m.imps.length c1, .slice A2 m.decls.length c2] 39) (.cells #[.slice A3 m.imps.length c3, .slice A4 m.decls.length c4] 39)
  rw [hW] at hbx
  have HX := hid hbx.1
  have HY := hid hbx.2
  have HB2 := hid hb2
  have HS1 := hid (Sl.more (Sl.below s1 hb2) hb2.size)
  have HS2 := hid (Sl.more (Sl.below s2 hb2) hb2.size)
  have HS3 := hid (Sl.more (Sl.below s3 hb2) hb2.size)
  have HS4 := hid (Sl.more (Sl.below s4 hb2) hb2.size)
  have HR1 := hid (r1.imp fun _ _ h => (h.keep hb2).more hb2.size)
  have HR2 := hid (r2.imp fun _ _ h => (h.keep hb2).more hb2.size)
  have HR3 := hid (r3.imp fun _ _ h => (h.keep hb2).more hb2.size)
  have HR4 := hid (r4.imp fun _ _ h => (h.keep hb2).more hb2.size)
  have l1 := (t_sl_len s1).2
  have l2 := (t_sl_len s2).2
  have l3 := (t_sl_len s3).2
  have l4 := (t_sl_len s4).2
  obtain ⟨is, his⟩ : ∃ x, m.imps = x := ⟨_, rfl⟩
  obtain ⟨ds, hds⟩ : ∃ x, m.decls = x := ⟨_, rfl⟩
  rw [his, hds] at HX HY hW
  rw [his] at HS1 HS3 HR1 HR3 l1 l3
  rw [hds] at HS2 HS4 HR2 HR4 l2 l4
  rw [his, hds]
  obtain ⟨a, ha⟩ : ∃ x, is.length = x := ⟨_, rfl⟩
  obtain ⟨d, hd⟩ : ∃ x, ds.length = x := ⟨_, rfl⟩
  rw [ha, hd] at HX HY hW
  rw [ha] at HS1 HS3 l1 l3
  rw [hd] at HS2 HS4 l2 l4
  rw [ha, hd]
  have HA := hid ha
  have HD := hid hd
  clear h1 h2 s1 s2 s3 s4 r1 r2 r3 r4 hbx hb2 his hds ha hd
  have hsz : w.heap.size + 1 < W.heap.size := block_lt HY.out
  obtain ⟨x0, x1⟩ := t_row2 HX.out
  obtain ⟨y0, y1⟩ := t_row2 HY.out
  go_enter Tryz.func27, Tryz.ntmps27
  go_wp2_with fail
  clear x0 x1 y0 y1
  go_loopw [5] (fun v5 wr => ∃ i : Nat, v5 = .int .i64 i ∧ i ≤ a ∧ Below W.heap.size W wr) (fun v5 _ => a - (intOf v5).toNat)
  case atStart => exact ⟨0, rfl, by omega, Below.refl _ _⟩
  case round =>
    obtain ⟨i, rfl, hi, hbr⟩ := hrel
    have HBR := hid hbr
    obtain ⟨x0, x1⟩ := t_row2 ((hbr.block _ (block_lt HX.out)).trans HX.out)
    obtain ⟨y0, y1⟩ := t_row2 ((hbr.block _ (block_lt HY.out)).trans HY.out)
    by_cases hlt : i < a
    · have hil : i < is.length := by rw [HA.out]; exact hlt
      obtain ⟨b1, o1, A6, c6, rfl, q1, d0, d1, d2, d3⟩ := imp_at (Sl.more (Sl.below HS1.out hbr) hbr.size) (HR1.out.imp fun _ _ h => (h.keep hbr).more hbr.size) hil HA.out.symm
      obtain ⟨b2, o2, A7, c7, rfl, q2, g0, g1, g2, g3⟩ := imp_at (Sl.more (Sl.below HS3.out hbr) hbr.size) (HR3.out.imp fun _ _ h => (h.keep hbr).more hbr.size) hil HA.out.symm
      have HT := hid (fun (w1 : World) (h : Below wr.heap.size wr w1) => texts_eq _ _ is[i].names w1 (Ss.more (Ss.below q1 h) h.size) (Ss.more (Ss.below q2 h) h.size))
      have l6 := (t_sl_len q1).2
      have l7 := (t_sl_len q2).2
      generalize is[i].names.length = nn at *
      generalize is[i].from_ = F at *
      generalize is[i].line = li at *
      generalize is[i].col = co at *
      clear q1 q2
      obtain ⟨U, hU⟩ : ∃ U, wr.alloc (.cells #[sv F, .slice A6 nn c6, .int .i64 li, .int .i64 co] 62) = U := ⟨_, rfl⟩
      have hbU : Below wr.heap.size wr U := by rw [← hU]; exact (Below.refl _ _).alloc (Nat.le_refl _) _
      obtain ⟨V, hV⟩ : ∃ V, U.alloc (.cells #[sv F, .slice A7 nn c7, .int .i64 li, .int .i64 co] 62) = V := ⟨_, rfl⟩
      have sU : U.heap.size = wr.heap.size + 1 := by rw [← hU, World.size_alloc]
      have hbV : Below wr.heap.size wr V := by rw [← hV]; exact hbU.alloc (by omega) _
      have hvx : V.heap[wr.heap.size]? = some (.cells #[sv F, .slice A6 nn c6, .int .i64 li, .int .i64 co] 62 (0, 0)) := by rw [← hV]; exact block_turn (by rw [← hU]; exact heap_alloc_new _ _) (Turn.alloc (fun _ => False) _ _) (fun h => h)
      have hvy : V.heap[wr.heap.size + 1]? = some (.cells #[sv F, .slice A7 nn c7, .int .i64 li, .int .i64 co] 62 (0, 0)) := by rw [← hV, ← sU]; exact heap_alloc_new _ _
      have y0 := kb hbU y0
      have g0 := kb hbU g0
      have g1 := kb hbU g1
      have g2 := kb hbU g2
      have g3 := kb hbU g3
      obtain ⟨p0, p1, p2, p3⟩ := t_row4 hvx
      obtain ⟨r0, r1, r2, r3⟩ := t_row4 hvy
      have HBV := hid hbV
      have HBU := hid hbU
      clear hbU hvx hvy hbr
      go_wp2_with fail
      refine (HT.out _ HBV.out).mono ?_
      rintro e w2 ⟨rfl, hb⟩
      have HB3 := hid (HBV.out.trans (hb.mono HBV.out.size))
      have p0 := kb hb p0
      have p2 := kb hb p2
      have p3 := kb hb p3
      have r0 := kb hb r0
      have r2 := kb hb r2
      have r3 := kb hb r3
      clear hb hU hV
      go_wp2_with fail
      go_roundw
      case rel => exact ⟨i + 1, rfl, by omega, HBR.out.trans (HB3.out.mono HBR.out.size)⟩
      case measure => simp [intOf]; omega
    obtain rfl : i = a := by omega
    clear hlt hbr
    go_wp2_with fail
    clear x0 x1 y0 y1 hi
    go_loopw [9] (fun v9 wr => ∃ i : Nat, v9 = .int .i64 i ∧ i ≤ d ∧ Below W.heap.size W wr) (fun v9 _ => d - (intOf v9).toNat)
    case atStart => exact ⟨0, rfl, by omega, HBR.out⟩
    case round =>
    obtain ⟨i, rfl, hi, hbr⟩ := hrel
    have HBR := hid hbr
    obtain ⟨x0, x1⟩ := t_row2 ((hbr.block _ (block_lt HX.out)).trans HX.out)
    obtain ⟨y0, y1⟩ := t_row2 ((hbr.block _ (block_lt HY.out)).trans HY.out)
    by_cases hlt : i < d
    · have hil : i < ds.length := by rw [HD.out]; exact hlt
      obtain ⟨b1, o1, P1, Pc1, P2, Pc2, Pk, Ps, Pn, Pl, Pc, P3, Pn3, Pc3, P4, Pn4, Pc4, P5, Pn5, Pc5, Pnd, Pmd, rfl, q1, d0, d1, d2, d3, d4, d5, d6, d7, d8, d9, d10, d11, d12, d13, d14⟩ := decl_at (Sl.more (Sl.below HS2.out hbr) hbr.size) (HR2.out.imp fun _ _ h => (h.keep hbr).more hbr.size) hil HD.out.symm
      obtain ⟨b2, o2, Q1, Qc1, Q2, Qc2, Qk, Qs, Qn, Ql, Qc, Q3, Qn3, Qc3, Q4, Qn4, Qc4, Q5, Qn5, Qc5, Qnd, Qmd, rfl, q2, g0, g1, g2, g3, g4, g5, g6, g7, g8, g9, g10, g11, g12, g13, g14⟩ := decl_at (Sl.more (Sl.below HS4.out hbr) hbr.size) (HR4.out.imp fun _ _ h => (h.keep hbr).more hbr.size) hil HD.out.symm
      have HC := hid (fun (w1 : World) (h : Below wr.heap.size wr w1) => same_decl _ w1 _ _ (q1.far (Nat.le_refl _) h) (q2.far (Nat.le_refl _) h))
      have D0 := hid d0
      have E0 := hid g0
      have D1 := hid d1
      have E1 := hid g1
      have D2 := hid d2
      have E2 := hid g2
      have D3 := hid d3
      have E3 := hid g3
      have D4 := hid d4
      have E4 := hid g4
      have D5 := hid d5
      have E5 := hid g5
      have D6 := hid d6
      have E6 := hid g6
      have D7 := hid d7
      have E7 := hid g7
      have D8 := hid d8
      have E8 := hid g8
      have D9 := hid d9
      have E9 := hid g9
      have D10 := hid d10
      have E10 := hid g10
      have D11 := hid d11
      have E11 := hid g11
      have D12 := hid d12
      have E12 := hid g12
      have D13 := hid d13
      have E13 := hid g13
      have D14 := hid d14
      have E14 := hid g14
      have X1 := hid x1
      have Y1 := hid y1
      have HB0 : Hid (Below wr.heap.size wr wr.drew) := hid (below_drawn wr 1)
      generalize ds[i].vars.length = nv at *
      generalize ds[i].types.length = nt at *
      generalize ds[i].exp = ex at *
      generalize ds[i].line = dl at *
      generalize ds[i].col = dc at *
      clear q1 q2 d0 d1 d2 d3 d4 d5 d6 d7 d8 d9 d10 d11 d12 d13 d14 g0 g1 g2 g3 g4 g5 g6 g7 g8 g9 g10 g11 g12 g13 g14 hbr
      go_wp2_with fail
      refine wp_region_held_drew (S := fun w' => Below wr.heap.size wr w') (by kernel_rfl) HB0.out (fun _ => ?_)
      try simp only [Act.put, List.getElem_toArray, List.getElem_cons_zero, List.getElem_cons_succ, List.setIfInBounds_toArray, List.set_cons_zero, List.set_cons_succ]
      refine tk 0 (.pointer (some ⟨w.heap.size, 1, none⟩)) HB0.out ?_
      refine tkf 1 (.slice (some ⟨b1, o1, none⟩) d c2) (kp1 X1.out) HB0.out ?_
      refine tk 2 (.int .i64 (i : Int)) HB0.out ?_
      refine tk 3 (.pointer (some ⟨b1, o1 + i * 15, none⟩)) HB0.out ?_
      refine tkf 4 (.agg #[sv Pnd, .bool ex, .slice P1 nv Pc1, sv Pmd, .slice P2 nt Pc2, .int .i64 Pk, .string Ps, .int .i64 Pn, .int .i64 Pl, .int .i64 Pc, .slice P3 Pn3 Pc3, .slice P4 Pn4 Pc4, .slice P5 Pn5 Pc5, .int .i64 dl, .int .i64 dc]) (kp15 D0.out D1.out D2.out D3.out D4.out D5.out D6.out D7.out D8.out D9.out D10.out D11.out D12.out D13.out D14.out) HB0.out ?_
      refine tk 5 (.pointer (some ⟨w.heap.size + 1, 1, none⟩)) HB0.out ?_
      refine tkf 6 (.slice (some ⟨b2, o2, none⟩) d c4) (kp1 Y1.out) HB0.out ?_
      refine tk 7 (.int .i64 (i : Int)) HB0.out ?_
      refine tk 8 (.pointer (some ⟨b2, o2 + i * 15, none⟩)) HB0.out ?_
      refine tkf 9 (.agg #[sv Qnd, .bool ex, .slice Q1 nv Qc1, sv Qmd, .slice Q2 nt Qc2, .int .i64 Qk, .string Qs, .int .i64 Qn, .int .i64 Ql, .int .i64 Qc, .slice Q3 Qn3 Qc3, .slice Q4 Qn4 Qc4, .slice Q5 Qn5 Qc5, .int .i64 dl, .int .i64 dc]) (kp15 E0.out E1.out E2.out E3.out E4.out E5.out E6.out E7.out E8.out E9.out E10.out E11.out E12.out E13.out E14.out) HB0.out ?_
      refine wpAnyH_ready (rs := [10]) (by kernel_rfl) (by simp) ?_
      refine AllReadyH.cons rfl (fun K hK => ?_) (AllReadyH.nil)
      go_simp
      refine (HC.out _ HB0.out).mono ?_
      rintro e w2 ⟨rfl, hb⟩
      have HB2_ := hid (HB0.out.trans (hb.mono HB0.out.size))
      clear hb
      refine hK.out _ _ HB2_.out (fun _ => ?_)
      clear hK K
      try simp only [Act.put, List.getElem_toArray, List.getElem_cons_zero, List.getElem_cons_succ, List.setIfInBounds_toArray, List.set_cons_zero, List.set_cons_succ]
      refine tk 11 (.bool true) HB2_.out ?_
      refine wpAnyH_done (by kernel_rfl) ?_ _
      go_wp2_with fail
      go_roundw
      case rel => exact ⟨i + 1, rfl, by omega, HBR.out.trans (HB2_.out.mono HBR.out.size)⟩
      case measure => simp [intOf]; omega
    · obtain rfl : i = d := by omega
      clear hlt hbr
      go_wp2_with fail
      go_ret
      exact ⟨rfl, HB2.out.trans (HBR.out.mono HB2.out.size)⟩
end Go.Proofs.YtbpedjkebemhnaaGreatDoor
end
section
/- A number of all places: the same wherever the same data lies. -/
set_option linter.unusedVariables false
namespace Go.Proofs.YtbpedjkebemhnaaGreatDoor
open Go.RowKit

mutual
def linV : NoD → Int
  | .mk _ _ _ line col _ _ ks => linF (bits .xor .i64 line (wrap64 (col * 1048576))) ks
def linF : Int → List NoD → Int
  | a, [] => a
  | a, x :: l => linF (bits .xor .i64 a (wrap64 (linV x * 2))) l
end
theorem linF_snoc (x : NoD) : ∀ (a : Int) (l : List NoD), linF a (l ++ [x]) = bits .xor .i64 (linF a l) (wrap64 (linV x * 2))
  | a, [] => by simp [linF]
  | a, y :: l => by rw [List.cons_append, linF, linF_snoc x _ l, linF]
def placeF : Int → List DeD → Int
  | a, [] => a
  | a, x :: l => placeF (bits .xor .i64 a (linV x.body)) l
theorem placeF_snoc (x : DeD) : ∀ (a : Int) (l : List DeD), placeF a (l ++ [x]) = bits .xor .i64 (placeF a l) (linV x.body)
  | a, [] => by simp [placeF]
  | a, y :: l => by rw [List.cons_append, placeF, placeF_snoc x _ l, placeF]
def LinC (x : NoD) : Prop := ∀ (w : World) (z : List Value), NoR w w.heap.size z x →
  Calls Tryz.prog 55 #[.agg z.toArray] w fun e w' => e = .returned (.int .i64 (linV x)) ∧ Below w.heap.size w w'
set_option maxRecDepth 100000 in
set_option maxHeartbeats 4000000 in
theorem lines_step (k : Int) (text : Bt) (n line col : Int) (ts : List TyD) (ns : List Bt) (ks : List NoD) (H : ∀ t ∈ ks, LinC t) : LinC (.mk k text n line col ts ns ks) := by
  intro w z h1
  obtain ⟨A1, c1, A2, c2, A3, c3, xt, xk, rfl, s1, r1, s2, s3, r3⟩ := h1.parts
  obtain ⟨W, hW⟩ : ∃ W, w.alloc (.cells #[.int .i64 k, sv text, .int .i64 n, .int .i64 line, .int .i64 col, .slice A1 ts.length c1, .slice A2 ns.length c2, .slice A3 ks.length c3] 26) = W := ⟨_, rfl⟩
  have hb2 : Below w.heap.size w W := by rw [← hW]; exact (Below.refl _ _).alloc (Nat.le_refl _) _
  have HX : Hid (W.heap[w.heap.size]? = some (.cells #[.int .i64 k, sv text, .int .i64 n, .int .i64 line, .int .i64 col, .slice A1 ts.length c1, .slice A2 ns.length c2, .slice A3 ks.length c3] 26 (0, 0))) := hid (by rw [← hW]; exact heap_alloc_new _ _)
  have HB2 := hid hb2
  have HS3 := hid (Sl.more (Sl.below s3 hb2) hb2.size)
  have HR3 := hid (r3.far (Nat.le_refl _) hb2)
  have HH := hid H
  have l1 := (t_sl_len s3).2
  obtain ⟨v0, hv0⟩ : ∃ x, bits .xor .i64 line (wrap64 (col * 1048576)) = x := ⟨_, rfl⟩
  have HV : Hid (linV (.mk k text n line col ts ns ks) = linF v0 ks) := hid (by rw [← hv0]; rfl)
  rw [HV.out]
  obtain ⟨n4, hn4⟩ : ∃ x, ks.length = x := ⟨_, rfl⟩
  rw [hn4] at HX HS3 l1 hW
  rw [hn4]
  have HN4 := hid hn4
  generalize ts.length = n2 at *
  generalize ns.length = n3 at *
  clear h1 s1 s2 s3 r1 r3 hb2 H hn4 HV
  have hsz : w.heap.size < W.heap.size := block_lt HX.out
  obtain ⟨x0, x1, x2, x3, x4, x5, x6, x7⟩ := t_row8 HX.out
  go_enter Tryz.func55, Tryz.ntmps55
  go_wp2_with fail
  clear x0 x1 x2 x3 x4 x5 x6 x7 hv0
  go_loopw [3, 4] (fun v3 v4 wr => ∃ i : Nat, v4 = .int .i64 i ∧ i ≤ n4 ∧ v3 = .int .i64 (linF v0 (ks.take i)) ∧ Below W.heap.size W wr) (fun _ v4 _ => n4 - (intOf v4).toNat)
  case atStart => exact ⟨0, rfl, by omega, rfl, Below.refl _ _⟩
  case round =>
    obtain ⟨i, rfl, hi, rfl, hbr⟩ := hrel
    have HBR := hid hbr
    obtain ⟨_, _, _, _, _, _, _, x7⟩ := t_row8 ((hbr.block _ (block_lt HX.out)).trans HX.out)
    by_cases hlt : i < n4
    · have hil : i < ks.length := by rw [HN4.out]; exact hlt
      obtain ⟨b1, o1, k1, s1, a1, a2, a3, P1, m1, e1, P2, m2, e2, P3, m3, e3, rfl, q1, d0, d1, d2, d3, d4, d5, d6, d7⟩ := node_at (Sl.more (Sl.below HS3.out hbr) hbr.size) ((HR3.out.keep hbr).more hbr.size) hil HN4.out.symm
      have HC := hid (HH.out _ (List.getElem_mem hil) wr _ q1)
      have HS : Hid (linF v0 (ks.take (i + 1)) = bits .xor .i64 (linF v0 (ks.take i)) (wrap64 (linV ks[i] * 2))) := hid (by rw [List.take_succ_eq_append_getElem hil, linF_snoc])
      generalize linF v0 (ks.take i) = N0 at *
      generalize linV ks[i] = L at *
      clear q1 hbr
      go_wp2_with fail
      refine HC.out.mono ?_
      rintro e w2 ⟨rfl, hb⟩
      have HB3 := hid (HBR.out.trans (hb.mono HBR.out.size))
      clear hb
      go_wp2_with fail
      go_roundw
      case rel => exact ⟨i + 1, rfl, by omega, by rw [HS.out], HB3.out⟩
      case measure => simp [intOf]; omega
    · obtain rfl : i = n4 := by omega
      have HT : Hid (ks.take i = ks) := hid (List.take_of_length_le (by rw [HN4.out]; omega))
      clear hlt hbr
      go_wp2_with fail
      go_ret
      exact ⟨by rw [HT.out]; rfl, HB2.out.trans (HBR.out.mono HB2.out.size)⟩
theorem lines_all (t : NoD) : LinC t := by
  have h : ∀ (n : Nat) (t : NoD), SizeOf.sizeOf t ≤ n → LinC t := by
    intro n
    induction n with
    | zero => intro t ht; cases t; simp at ht
    | succ n ih =>
      intro t ht
      obtain ⟨k, text, n1, line, col, ts, ns, ks⟩ := t
      refine lines_step k text n1 line col ts ns ks fun x hx => ih x ?_
      have := List.sizeOf_lt_of_mem hx
      simp at ht; omega
  exact h _ t (Nat.le_refl _)
set_option maxRecDepth 100000 in
set_option maxHeartbeats 4000000 in
theorem places_any (m : MoD) (w : World) (z : List Value) (h1 : MoR w w.heap.size z m) :
    Calls Tryz.prog 25 #[.agg z.toArray] w fun e w' => e = .returned (.int .i64 (placeF 0 m.decls)) ∧ Below w.heap.size w w' := by
  obtain ⟨A1, c1, A2, c2, xi, xd, rfl, s1, r1, s2, r2⟩ := h1.parts
  obtain ⟨W, hW⟩ : ∃ W, w.alloc (.cells #[.slice A1 m.imps.length c1, .slice A2 m.decls.length c2] 39) = W := ⟨_, rfl⟩
  have hb2 : Below w.heap.size w W := by rw [← hW]; exact (Below.refl _ _).alloc (Nat.le_refl _) _
  have HX : Hid (W.heap[w.heap.size]? = some (.cells #[.slice A1 m.imps.length c1, .slice A2 m.decls.length c2] 39 (0, 0))) := hid (by rw [← hW]; exact heap_alloc_new _ _)
  have HB2 := hid hb2
  have HS3 := hid (Sl.more (Sl.below s2 hb2) hb2.size)
  have HR3 := hid (r2.imp fun _ _ h => (h.keep hb2).more hb2.size)
  have l1 := (t_sl_len s2).2
  obtain ⟨ds, hds⟩ : ∃ x, m.decls = x := ⟨_, rfl⟩
  rw [hds] at HX hW HS3 HR3 l1
  rw [hds]
  obtain ⟨n4, hn4⟩ : ∃ x, ds.length = x := ⟨_, rfl⟩
  rw [hn4] at HX HS3 l1 hW
  rw [hn4]
  have HN4 := hid hn4
  generalize m.imps.length = n2 at *
  clear h1 s1 s2 r1 r2 hb2 hn4 hds
  have hsz : w.heap.size < W.heap.size := block_lt HX.out
  go_enter Tryz.func25, Tryz.ntmps25
  go_wp2_with fail
  go_loopw [3, 4] (fun v3 v4 wr => ∃ i : Nat, v4 = .int .i64 i ∧ i ≤ n4 ∧ v3 = .int .i64 (placeF 0 (ds.take i)) ∧ Below W.heap.size W wr) (fun _ v4 _ => n4 - (intOf v4).toNat)
  case atStart => exact ⟨0, rfl, by omega, rfl, Below.refl _ _⟩
  case round =>
    obtain ⟨i, rfl, hi, rfl, hbr⟩ := hrel
    have HBR := hid hbr
    obtain ⟨_, x1⟩ := t_row2 ((hbr.block _ (block_lt HX.out)).trans HX.out)
    by_cases hlt : i < n4
    · have hil : i < ds.length := by rw [HN4.out]; exact hlt
      obtain ⟨b1, o1, A6, c6, A7, c7, k, s, n, l, c, A3, n3, c3, A4, n8, c4, A5, n5, c5, xv, xt, rfl, t1, t2, t3, t4, t5, d0, d1, d2, d3, d4, d5, d6, d7, d8, d9, d10, d11, d12, d13, d14⟩ := decl_at2 (Sl.more (Sl.below HS3.out hbr) hbr.size) (HR3.out.imp fun _ _ h => (h.keep hbr).more hbr.size) hil HN4.out.symm
      have HC := hid (lines_all ds[i].body wr _ t5)
      have HS : Hid (placeF 0 (ds.take (i + 1)) = bits .xor .i64 (placeF 0 (ds.take i)) (linV ds[i].body)) := hid (by rw [List.take_succ_eq_append_getElem hil, placeF_snoc])
      generalize placeF 0 (ds.take i) = N0 at *
      generalize linV ds[i].body = L at *
      clear t1 t2 t3 t4 t5 hbr d0 d1 d2 d3 d4 d13 d14
      go_wp2_with fail
      refine HC.out.mono ?_
      rintro e w2 ⟨rfl, hb⟩
      have HB3 := hid (HBR.out.trans (hb.mono HBR.out.size))
      clear hb
      go_wp2_with fail
      go_roundw
      case rel => exact ⟨i + 1, rfl, by omega, by rw [HS.out], HB3.out⟩
      case measure => simp [intOf]; omega
    · obtain rfl : i = n4 := by omega
      have HT : Hid (ds.take i = ds) := hid (List.take_of_length_le (by rw [HN4.out]; omega))
      clear hlt hbr
      go_wp2_with fail
      go_ret
      exact ⟨by rw [HT.out]; rfl, HB2.out.trans (HBR.out.mono HB2.out.size)⟩
end Go.Proofs.YtbpedjkebemhnaaGreatDoor
end
section
/- The law TreeBare walked. -/
set_option linter.unusedVariables false
namespace Go.Proofs.YtbpedjkebemhnaaGreatDoor
open Go.RowKit

mutual
theorem bare_twice : ∀ x : NoD, bareN (bareN x) = bareN x
  | .mk k t n l c ts ns ks => by rw [bareN, bareN, bares_twice ks]
theorem bares_twice : ∀ l : List NoD, bareNs (bareNs l) = bareNs l
  | [] => by rw [bareNs, bareNs]
  | x :: l => by rw [bareNs, bareNs, bare_twice x, bares_twice l]
end
mutual
theorem bare_expr : ∀ x : NoD, exprS (bareN x) = exprS x
  | .mk k t n l c ts ns ks => by rw [bareN, exprS, exprS, bare_exprs ks]
theorem bare_exprs : ∀ l : List NoD, exprSs (bareNs l) = exprSs l
  | [] => by rw [bareNs]
  | x :: l => by rw [bareNs, exprSs, exprSs, bare_expr x, bare_exprs l]
end
theorem bareNs_length (l : List NoD) : (bareNs l).length = l.length := by rw [bareNs_map, List.length_map]
theorem bare_node : ∀ (h : Nat) (x : NoD), nodeB h (bareN x) = nodeB h x
  | 0, x => by cases x; rfl
  | h + 1, .mk k t n l c ts ns ks => by
    rw [bareN]
    show (decide (0 ≤ k ∧ k < 20) && ownN k t n ts.length ns.length (bareNs ks).length && ns.all nameL && ts.all (writtenB 16) && (bareNs ks).all (nodeB h)) = _
    rw [bareNs_length, bareNs_map, List.all_map]
    have : (nodeB h ∘ bareN) = nodeB h := funext fun x => bare_node h x
    rw [this]; rfl
mutual
theorem bare_cnt : ∀ x : NoD, cntN (bareN x) = cntN x
  | .mk k t n l c ts ns ks => by rw [bareN, cntN, cntN, bares_cnt ks]
theorem bares_cnt : ∀ l : List NoD, cntNs (bareNs l) = cntNs l
  | [] => by rw [bareNs]
  | x :: l => by rw [bareNs, cntNs, cntNs, bare_cnt x, bares_cnt l]
end
theorem bareM_twice (m : MoD) : bareM (bareM m) = bareM m := by
  unfold bareM
  simp only [List.map_map, MoD.mk.injEq]
  refine ⟨List.map_congr_left fun i _ => rfl, List.map_congr_left fun d _ => ?_⟩
  show bareD (bareD d) = bareD d
  unfold bareD
  rw [bare_twice]
theorem bareM_print (m : MoD) : printT (bareM m) = printT m := by
  have h1 : mayB (bareM m) = mayB m := by
    unfold mayB bareM
    simp only [List.all_map]
    have e1 : (impB ∘ bareI) = impB := rfl
    have e2 : (declB ∘ bareD) = declB := funext fun d => by
      show declB (bareD d) = declB d
      unfold declB bareD
      simp only [bare_node]
    rw [e1, e2]
  have h2 : printS (bareM m) = printS m := by
    unfold printS bareM
    simp only [List.flatMap_map]
    have e2 : (fun d => declS (bareD d)) = declS := funext fun d => by
      unfold declS funS bareD
      simp only [bare_expr]
    rw [e2]; rfl
  unfold printT
  rw [h1, h2]
theorem bareM_sm {m : MoD} (h : SmM m) : SmM (bareM m) := by
  refine ⟨by simpa [bareM] using h.imps, by simpa [bareM] using h.decls, ?_, ?_, ?_, ?_, ?_, ?_⟩
  all_goals
    intro x hx
    obtain ⟨d, hd, rfl⟩ := List.mem_map.1 hx
  · exact h.names d hd
  · exact h.vars d hd
  · exact h.types d hd
  · exact h.bounds d hd
  · exact h.sorts d hd
  · show cntN (bareN d.body) ≤ 100000
    rw [bare_cnt]; exact h.body d hd
mutual
theorem okN_bare : ∀ x : NoD, okN x → okN (bareN x)
  | .mk k t n l c ts ns ks, h => by
    rw [okN] at h
    obtain ⟨h1, h2, h3, h4, h5, h6, h7, h8⟩ := h
    rw [bareN, okN]
    exact ⟨h1, h2, h3, by unfold In64; omega, by unfold In64; omega, h6, h7, okNs_bare ks h8⟩
theorem okNs_bare : ∀ l : List NoD, okNs l → okNs (bareNs l)
  | [], h => by rw [bareNs]; exact h
  | x :: l, h => by
    rw [okNs] at h
    rw [bareNs, okNs]
    exact ⟨okN_bare x h.1, okNs_bare l h.2⟩
end
theorem bareM_ok {m : MoD} (h : okM m) : okM (bareM m) := by
  refine ⟨fun x hx => ?_, fun x hx => ?_⟩
  · obtain ⟨i, hi, rfl⟩ := List.mem_map.1 hx
    obtain ⟨h1, h2, h3, h4⟩ := h.1 i hi
    exact ⟨h1, h2, by show In64 0; unfold In64; omega, by show In64 0; unfold In64; omega⟩
  · obtain ⟨d, hd, rfl⟩ := List.mem_map.1 hx
    obtain ⟨h1, h2, h3, h4, h5, h6, h7⟩ := h.2 d hd
    exact ⟨h1, h2, h3, h4, okN_bare _ h5, by show In64 0; unfold In64; omega, by show In64 0; unfold In64; omega⟩
set_option maxRecDepth 100000 in
set_option maxHeartbeats 8000000 in
theorem treebare_any (z : List Value) (m : MoD) (w : World) (hr : MoR w w.heap.size z m) (hok : okM m) (hX : LaidT w) :
    Calls Tryz.prog 7 #[.agg z.toArray] w fun e w' => e = .returned (.bool true) ∧ Below w.heap.size w w' := by
  have hr0 := hr
  obtain ⟨A1, c1, A2, c2, xi, xd, rfl, s1, r1, s2, r2⟩ := hr.parts
  obtain ⟨W, hW⟩ : ∃ W, w.alloc (.cells #[.slice A1 m.imps.length c1, .slice A2 m.decls.length c2] 39) = W := ⟨_, rfl⟩
  have hb1 : Below w.heap.size w W := by rw [← hW]; exact (Below.refl _ _).alloc (Nat.le_refl _) _
  have hbx : W.heap[w.heap.size]? = some (.cells #[.slice A1 m.imps.length c1, .slice A2 m.decls.length c2] 39 (0, 0)) := by rw [← hW]; exact heap_alloc_new w _
  have HA := hid (awake_any W (hX.below hb1))
  have HFR := hid (fun (w1 : World) (h : Below W.heap.size W w1) => hr0.far (Nat.le_refl _) (hb1.trans (h.mono hb1.size)))
  have HX := hid (hX.below hb1)
  have HB := hid hb1
  have HBX := hid hbx
  have HSMALL := hid (fun (w1 : World) (h : Below W.heap.size W w1) => small_any m w1 _ (HFR.out w1 h) hok 2000 (by omega))
  have HPA : Hid (SmM m → ∀ w1, Below W.heap.size W w1 → Calls Tryz.prog 23 #[.agg #[.slice A1 m.imps.length c1, .slice A2 m.decls.length c2]] w1 fun e w' => e = .returned (sv (printT m)) ∧ Below w1.heap.size w1 w') := hid (fun hS w1 h => tprint_any m w1 _ (HFR.out w1 h) hok (HX.out.below h) hS)
  have HPL : Hid (∀ w1, Below W.heap.size W w1 → Calls Tryz.prog 25 #[.agg #[.slice A1 m.imps.length c1, .slice A2 m.decls.length c2]] w1 fun e w' => e = .returned (.int .i64 (placeF 0 m.decls)) ∧ Below w1.heap.size w1 w') := hid (fun w1 h => places_any m w1 _ (HFR.out w1 h))
  have HBA : Hid (SmM m → ∀ w1, Below W.heap.size W w1 → Calls Tryz.prog 26 #[.agg #[.slice A1 m.imps.length c1, .slice A2 m.decls.length c2]] w1 fun e w' => ∃ z', e = .returned (.agg z'.toArray) ∧ MoR w' w'.heap.size z' (bareM m) ∧ Below w1.heap.size w1 w') := hid (fun hS w1 h => tbare_any m w1 _ (HFR.out w1 h) (by have := hS.imps; omega) (by have := hS.decls; omega) hS.body)
  have HRB : Hid (SmM m → ∀ w1, Below W.heap.size W w1 → Calls Tryz.prog 28 #[.agg #[.slice A1 m.imps.length c1, .slice A2 m.decls.length c2]] w1 fun e w' => ∃ z', e = .returned (.agg z'.toArray) ∧ MoR w' w'.heap.size z' (bareM m) ∧ Below w1.heap.size w1 w') := hid (fun hS w1 h => rtbare_any m w1 _ (HFR.out w1 h) (by have := hS.imps; omega) (by have := hS.decls; omega) hS.body)
  have HSB : Hid (SmM m → ∀ w1 z1, MoR w1 w1.heap.size z1 (bareM m) → Below W.heap.size W w1 → Calls Tryz.prog 23 #[.agg z1.toArray] w1 fun e w' => e = .returned (sv (printT m)) ∧ Below w1.heap.size w1 w') := hid (fun hS w1 z1 h hb => by
    have := tprint_any (bareM m) w1 z1 h (bareM_ok hok) (HX.out.below hb) (bareM_sm hS)
    rwa [bareM_print] at this)
  have HBB : Hid (SmM m → ∀ w1 z1, MoR w1 w1.heap.size z1 (bareM m) → Calls Tryz.prog 26 #[.agg z1.toArray] w1 fun e w' => ∃ z', e = .returned (.agg z'.toArray) ∧ MoR w' w'.heap.size z' (bareM m) ∧ Below w1.heap.size w1 w') := hid (fun hS w1 z1 h => by
    have hS2 := bareM_sm hS
    have := tbare_any (bareM m) w1 z1 h (by have := hS2.imps; omega) (by have := hS2.decls; omega) hS2.body
    rwa [bareM_twice] at this)
  clear hr hr0 hX hb1 hbx hok s1 r1 s2 r2
  obtain ⟨a, hA⟩ : ∃ a, m.imps.length = a := ⟨_, rfl⟩
  obtain ⟨d, hD⟩ : ∃ d, m.decls.length = d := ⟨_, rfl⟩
  rw [hA, hD] at HBX hW HSMALL HPA HPL HBA HRB
  rw [hA, hD]
  clear hA hD
  generalize printT m = T at *
  generalize placeF 0 m.decls = PL at *
  have hsT := sv_size T
  go_enter Tryz.func7, Tryz.ntmps7
  go_wp2_with fail
  refine HA.out.mono ?_
  rintro e w2 ⟨rfl, hb⟩
  have HB2 := hid hb
  obtain ⟨g0, g1⟩ := t_row2 ((hb.block _ (block_lt HBX.out)).trans HBX.out)
  clear hb hW
  go_wp2_with fail
  clear g0 g1
  refine (HSMALL.out _ HB2.out).mono ?_
  rintro e w3 ⟨b, rfl, hbs, hb⟩
  have HB3 := hid (HB2.out.trans (hb.mono HB2.out.size))
  have HBS := hid hbs
  clear hb hbs
  cases b with
  | false =>
    go_wp2_with fail
    go_ret
    exact ⟨rfl, HB.out.trans (HB3.out.mono HB.out.size)⟩
  | true =>
  have HS := hid (HBS.out rfl)
  clear HBS
  obtain ⟨g0, g1⟩ := t_row2 ((HB3.out.block _ (block_lt HBX.out)).trans HBX.out)
  go_wp2_with fail
  clear g0 g1
  refine (HPA.out HS.out _ HB3.out).mono ?_
  rintro e w4 ⟨rfl, hb⟩
  have HB4 := hid (HB3.out.trans (hb.mono HB3.out.size))
  clear hb
  obtain ⟨g0, g1⟩ := t_row2 ((HB4.out.block _ (block_lt HBX.out)).trans HBX.out)
  go_wp2_with fail
  clear g0 g1
  refine (HPL.out _ HB4.out).mono ?_
  rintro e w5 ⟨rfl, hb⟩
  have HB5 := hid (HB4.out.trans (hb.mono HB4.out.size))
  clear hb
  obtain ⟨g0, g1⟩ := t_row2 ((HB5.out.block _ (block_lt HBX.out)).trans HBX.out)
  go_wp2_with fail
  clear g0 g1
  refine (HBA.out HS.out _ HB5.out).mono ?_
  rintro e w6 ⟨z6, rfl, hz6, hb⟩
  have HB6 := hid (HB5.out.trans (hb.mono HB5.out.size))
  obtain ⟨A3, c3, A4, c4, _, _, hzz, _⟩ := hz6.parts
  generalize (bareM m).imps.length = a3 at hzz
  generalize (bareM m).decls.length = a4 at hzz
  subst hzz
  obtain ⟨W7, hW7⟩ : ∃ W7, w6.alloc (.cells #[.slice A3 a3 c3, .slice A4 a4 c4] 39) = W7 := ⟨_, rfl⟩
  have hb7 : Below w6.heap.size w6 W7 := by rw [← hW7]; exact (Below.refl _ _).alloc (Nat.le_refl _) _
  have hby : W7.heap[w6.heap.size]? = some (.cells #[.slice A3 a3 c3, .slice A4 a4 c4] 39 (0, 0)) := by rw [← hW7]; exact heap_alloc_new w6 _
  have HB7 := hid (HB6.out.trans (hb7.mono HB6.out.size))
  have HF7 := hid (fun (w1 : World) (h : Below W7.heap.size W7 w1) => hz6.far (Nat.le_refl _) (hb7.trans (h.mono hb7.size)))
  have HBY := hid hby
  have HBX7 := hid ((HB7.out.block _ (block_lt HBX.out)).trans HBX.out)
  have HW7 := hid hW7
  have sW7 : W7.heap.size = w6.heap.size + 1 := by rw [← hW7]; simp
  clear hb hz6 hb7 hby hW7
  go_wp2_with fail
  rw [HW7.out]
  -- the same as the document's
  obtain ⟨x0, x1⟩ := t_row2 HBX7.out
  obtain ⟨y0, y1⟩ := t_row2 HBY.out
  have HXX := hid (fun (w' : World) (h : Below W7.heap.size W7 w') => And.intro (kb h x0) (kb h x1))
  have HYY := hid (fun (w' : World) (h : Below W7.heap.size W7 w') => And.intro (kb h y0) (kb h y1))
  have HD0 : Hid (Below W7.heap.size W7 W7.drew) := hid (below_drawn W7 1)
  clear x0 x1 y0 y1
  refine wp_region_held_drew (S := fun w' => Below W7.heap.size W7 w') (by kernel_rfl) HD0.out (fun _ => ?_)
  try simp only [Act.put, List.getElem_toArray, List.getElem_cons_zero, List.getElem_cons_succ, List.setIfInBounds_toArray, List.set_cons_zero, List.set_cons_succ]
  refine tkf 0 (.agg #[.slice A3 a3 c3, .slice A4 a4 c4]) HYY.out HD0.out ?_
  refine tkf 1 (.agg #[.slice A1 a c1, .slice A2 d c2]) HXX.out HD0.out ?_
  refine wpAnyH_ready (rs := [2]) (by kernel_rfl) (by simp) ?_
  refine AllReadyH.cons rfl (fun K hK => ?_) (AllReadyH.nil)
  go_simp
  refine (HRB.out HS.out _ (HB7.out.trans (HD0.out.mono HB7.out.size))).mono ?_
  rintro e w8 ⟨z8, rfl, hz8, hb⟩
  have HB8 := hid (HD0.out.trans (hb.mono HD0.out.size))
  have HZ8 := hid hz8
  clear hb hz8
  refine hK.out _ _ HB8.out (fun _ => ?_)
  clear hK K
  try simp only [Act.put, List.getElem_toArray, List.getElem_cons_zero, List.getElem_cons_succ, List.setIfInBounds_toArray, List.set_cons_zero, List.set_cons_succ]
  refine wpAnyH_ready (rs := [3]) (by kernel_rfl) (by simp) ?_
  refine AllReadyH.cons rfl (fun K hK => ?_) (AllReadyH.nil)
  go_simp
  refine (same_module (bareM m) w8 _ _ (HF7.out _ HB8.out) HZ8.out).mono ?_
  rintro e w9 ⟨rfl, hb⟩
  have HB9 := hid (HB8.out.trans (hb.mono HB8.out.size))
  clear hb
  refine hK.out _ _ HB9.out (fun _ => ?_)
  clear hK K
  try simp only [Act.put, List.getElem_toArray, List.getElem_cons_zero, List.getElem_cons_succ, List.setIfInBounds_toArray, List.set_cons_zero, List.set_cons_succ]
  refine tk 4 (.bool true) HB9.out ?_
  refine wpAnyH_done (by kernel_rfl) ?_ _
  go_wp2_with fail
  -- once more
  have HDA : Hid (Below W7.heap.size W7 w9.drew) := hid (HB9.out.trans ((below_drawn w9 1).mono HB9.out.size))
  refine wp_region_held_drew (S := fun w' => Below W7.heap.size W7 w') (by kernel_rfl) HDA.out (fun _ => ?_)
  try simp only [Act.put, List.getElem_toArray, List.getElem_cons_zero, List.getElem_cons_succ, List.setIfInBounds_toArray, List.set_cons_zero, List.set_cons_succ]
  refine tkf 0 (.agg #[.slice A3 a3 c3, .slice A4 a4 c4]) HYY.out HDA.out ?_
  refine tkf 2 (.agg #[.slice A3 a3 c3, .slice A4 a4 c4]) HYY.out HDA.out ?_
  refine wpAnyH_ready (rs := [1]) (by kernel_rfl) (by simp) ?_
  refine AllReadyH.cons rfl (fun K hK => ?_) (AllReadyH.nil)
  go_simp
  refine (HBB.out HS.out _ _ (HF7.out _ HDA.out)).mono ?_
  rintro e wA ⟨zA, rfl, hzA, hb⟩
  have HBA2 := hid (HDA.out.trans (hb.mono HDA.out.size))
  have HZA := hid hzA
  clear hb hzA
  refine hK.out _ _ HBA2.out (fun _ => ?_)
  clear hK K
  try simp only [Act.put, List.getElem_toArray, List.getElem_cons_zero, List.getElem_cons_succ, List.setIfInBounds_toArray, List.set_cons_zero, List.set_cons_succ]
  refine wpAnyH_ready (rs := [3]) (by kernel_rfl) (by simp) ?_
  refine AllReadyH.cons rfl (fun K hK => ?_) (AllReadyH.nil)
  go_simp
  refine (same_module (bareM m) wA _ _ HZA.out (HF7.out _ HBA2.out)).mono ?_
  rintro e wB ⟨rfl, hb⟩
  have HBB2 := hid (HBA2.out.trans (hb.mono HBA2.out.size))
  clear hb
  refine hK.out _ _ HBB2.out (fun _ => ?_)
  clear hK K
  try simp only [Act.put, List.getElem_toArray, List.getElem_cons_zero, List.getElem_cons_succ, List.setIfInBounds_toArray, List.set_cons_zero, List.set_cons_succ]
  refine tk 4 (.bool true) HBB2.out ?_
  refine wpAnyH_done (by kernel_rfl) ?_ _
  obtain ⟨y0, y1⟩ := HYY.out _ HBB2.out
  go_wp2_with fail
  clear y0 y1
  refine (HSB.out HS.out _ _ (HF7.out _ HBB2.out) (HB7.out.trans (HBB2.out.mono HB7.out.size))).mono ?_
  rintro e wC ⟨rfl, hb⟩
  have HBC := hid (HBB2.out.trans (hb.mono HBB2.out.size))
  clear hb
  obtain ⟨x0, x1⟩ := HXX.out _ HBC.out
  go_wp2_with fail
  clear x0 x1
  refine (HPA.out HS.out _ (HB7.out.trans (HBC.out.mono HB7.out.size))).mono ?_
  rintro e wD ⟨rfl, hb⟩
  have HBD := hid (HBC.out.trans (hb.mono HBC.out.size))
  clear hb
  obtain ⟨x0, x1⟩ := HXX.out _ HBD.out
  go_wp2_with fail
  clear x0 x1
  refine (HPL.out _ (HB7.out.trans (HBD.out.mono HB7.out.size))).mono ?_
  rintro e wE ⟨rfl, hb⟩
  have HBE := hid (HBD.out.trans (hb.mono HBD.out.size))
  clear hb
  go_wp2_with fail
  go_ret
  exact ⟨rfl, HB.out.trans ((HB7.out.trans (HBE.out.mono HB7.out.size)).mono HB.out.size)⟩
end Go.Proofs.YtbpedjkebemhnaaGreatDoor
end
section
/- Opening arguments: modules that came in. -/
set_option linter.unusedVariables false
namespace Go.Proofs.YtbpedjkebemhnaaGreatDoor
open Go.ChangeShapes Go.WideShapes Go.ChangeAt Go.RowKit
section
variable {H : Type} {enc : TypeId × Value → H} {W : World}
theorem t_bo {fuel : Nat} {u : Value} {x : DataW H × List MemPlace} (h : DataW.trod enc Tryz.prog W 0 (fun _ => true) true fuel 4 [u] = some x) : ∃ y, u = .bool y := by
  obtain ⟨n, hn, rfl⟩ := DataW.trod_bool Tryz.underlying4 h
  exact ⟨n, by simpa using hn⟩
theorem row_pair {α : Type} {R : List Value → α → Prop} {S : α → Prop} {k : Nat} {xs : List Value} {ys : List α} (h : TRow (fun z c => R z c ∧ S c) k xs ys) : TRow R k xs ys ∧ ∀ y ∈ ys, S y :=
  ⟨h.imp fun _ _ h => h.1, h.all (S := S) fun _ _ h => h.2⟩
set_option maxRecDepth 100000 in
theorem open_im {fuel : Nat} {cs : List Value} {x : DataW H × List MemPlace} (h : DataW.trod enc Tryz.prog W 0 (fun _ => true) true fuel 62 cs = some x) : ∃ y, ImR W W.heap.size cs y ∧ okI y := by
  obtain ⟨xs, n, hn, rfl, hl, hlen, hf⟩ := DataW.trod_struct Tryz.underlying62 h
  rw [show Tryz.prog.cellsOf 62 = 4 by kernel_rfl] at hl
  match cs, hl, xs, hlen with
  | [u0, u1, u2, u3], _, [y0, y1, y2, y3], _ =>
    have t0 : DataW.trod enc Tryz.prog W 0 (fun _ => true) true n 9 [u0] = some y0 := hf 0 _ rfl
    have t1 : DataW.trod enc Tryz.prog W 0 (fun _ => true) true n 23 [u1] = some y1 := hf 1 _ rfl
    have t2 : DataW.trod enc Tryz.prog W 0 (fun _ => true) true n 3 [u2] = some y2 := hf 2 _ rfl
    have t3 : DataW.trod enc Tryz.prog W 0 (fun _ => true) true n 3 [u3] = some y3 := hf 3 _ rfl
    obtain ⟨f, rfl, hfm⟩ := t_tx t0
    obtain ⟨ns, r1, o1⟩ := t_texts t1
    obtain ⟨l, rfl, hl⟩ := t_in t2
    obtain ⟨c, rfl, hc⟩ := t_in t3
    exact ⟨⟨f, ns, l, c⟩, ⟨_, rfl, r1⟩, hfm, o1, hl, hc⟩
set_option maxRecDepth 100000 in
theorem open_va {fuel : Nat} {cs : List Value} {x : DataW H × List MemPlace} (h : DataW.trod enc Tryz.prog W 0 (fun _ => true) true fuel 67 cs = some x) : ∃ y, VaR W W.heap.size cs y ∧ okV y := by
  obtain ⟨xs, n, hn, rfl, hl, hlen, hf⟩ := DataW.trod_struct Tryz.underlying67 h
  rw [show Tryz.prog.cellsOf 67 = 5 by kernel_rfl] at hl
  match cs, hl, xs, hlen with
  | [u0, u1, u2, u3, u4], _, [y0, y1], _ =>
    have t0 : DataW.trod enc Tryz.prog W 0 (fun _ => true) true n 9 [u0] = some y0 := hf 0 _ rfl
    have t1 : DataW.trod enc Tryz.prog W 0 (fun _ => true) true n 32 [u1, u2, u3, u4] = some y1 := hf 1 _ rfl
    obtain ⟨f, rfl, hfm⟩ := t_tx t0
    obtain ⟨ty, r1, o1⟩ := open_ty _ _ _ t1
    exact ⟨⟨f, ty⟩, ⟨_, rfl, r1⟩, hfm, o1⟩
set_option maxRecDepth 100000 in
theorem open_de {fuel : Nat} {cs : List Value} {x : DataW H × List MemPlace} (h : DataW.trod enc Tryz.prog W 0 (fun _ => true) true fuel 65 cs = some x) : ∃ y, DeR W W.heap.size cs y ∧ okD y := by
  obtain ⟨xs, n, hn, rfl, hl, hlen, hf⟩ := DataW.trod_struct Tryz.underlying65 h
  rw [show Tryz.prog.cellsOf 65 = 15 by kernel_rfl] at hl
  match cs, hl, xs, hlen with
  | [u0, u1, u2, u3, u4, v0, v1, v2, v3, v4, v5, v6, v7, u6, u7], _, [y0, y1, y2, y3, y4, y5, y6, y7], _ =>
    have t0 : DataW.trod enc Tryz.prog W 0 (fun _ => true) true n 9 [u0] = some y0 := hf 0 _ rfl
    have t1 : DataW.trod enc Tryz.prog W 0 (fun _ => true) true n 4 [u1] = some y1 := hf 1 _ rfl
    have t2 : DataW.trod enc Tryz.prog W 0 (fun _ => true) true n 63 [u2] = some y2 := hf 2 _ rfl
    have t3 : DataW.trod enc Tryz.prog W 0 (fun _ => true) true n 9 [u3] = some y3 := hf 3 _ rfl
    have t4 : DataW.trod enc Tryz.prog W 0 (fun _ => true) true n 22 [u4] = some y4 := hf 4 _ rfl
    have t5 : DataW.trod enc Tryz.prog W 0 (fun _ => true) true n 26 [v0, v1, v2, v3, v4, v5, v6, v7] = some y5 := hf 5 _ rfl
    have t6 : DataW.trod enc Tryz.prog W 0 (fun _ => true) true n 3 [u6] = some y6 := hf 6 _ rfl
    have t7 : DataW.trod enc Tryz.prog W 0 (fun _ => true) true n 3 [u7] = some y7 := hf 7 _ rfl
    obtain ⟨nm, rfl, hnm⟩ := t_tx t0
    obtain ⟨ex, rfl⟩ := t_bo t1
    obtain ⟨zv, vs, e1, e2⟩ := open_row Tryz.underlying63 (k := 5) (by kernel_rfl) (by omega) t2 (fun cs y => VaR W W.heap.size cs y ∧ okV y) (fun m cs' x' hm ht _ => open_va ht)
    obtain ⟨pr, rfl, hpr⟩ := t_tx t3
    obtain ⟨zt, ts, f1, f2⟩ := open_row Tryz.underlying22 (k := 4) (by kernel_rfl) (by omega) t4 (fun cs y => TyR W W.heap.size cs y ∧ okT y) (fun m cs' x' hm ht _ => open_ty m cs' x' ht)
    obtain ⟨bd, r5, o5⟩ := open_no _ _ _ t5
    obtain ⟨l, rfl, hl⟩ := t_in t6
    obtain ⟨c, rfl, hc⟩ := t_in t7
    obtain ⟨g1, g2⟩ := row_pair e2
    obtain ⟨g3, g4⟩ := row_tys f2
    exact ⟨⟨nm, ex, vs, pr, ts, bd, l, c⟩, ⟨_, _, _, _, _, rfl, e1, g1, f1, g3, r5⟩, hnm, g2, hpr, g4, o5, hl, hc⟩
set_option maxRecDepth 100000 in
theorem open_mo {fuel : Nat} {cs : List Value} {x : DataW H × List MemPlace} (h : DataW.trod enc Tryz.prog W 0 (fun _ => true) true fuel 39 cs = some x) : ∃ y, MoR W W.heap.size cs y ∧ okM y := by
  obtain ⟨xs, n, hn, rfl, hl, hlen, hf⟩ := DataW.trod_struct Tryz.underlying39 h
  rw [show Tryz.prog.cellsOf 39 = 2 by kernel_rfl] at hl
  match cs, hl, xs, hlen with
  | [u0, u1], _, [y0, y1], _ =>
    have t0 : DataW.trod enc Tryz.prog W 0 (fun _ => true) true n 36 [u0] = some y0 := hf 0 _ rfl
    have t1 : DataW.trod enc Tryz.prog W 0 (fun _ => true) true n 37 [u1] = some y1 := hf 1 _ rfl
    obtain ⟨zi, is, e1, e2⟩ := open_row Tryz.underlying36 (k := 4) (by kernel_rfl) (by omega) t0 (fun cs y => ImR W W.heap.size cs y ∧ okI y) (fun m cs' x' hm ht _ => open_im ht)
    obtain ⟨zd, ds, f1, f2⟩ := open_row Tryz.underlying37 (k := 15) (by kernel_rfl) (by omega) t1 (fun cs y => DeR W W.heap.size cs y ∧ okD y) (fun m cs' x' hm ht _ => open_de ht)
    obtain ⟨g1, g2⟩ := row_pair e2
    obtain ⟨g3, g4⟩ := row_pair f2
    exact ⟨⟨is, ds⟩, ⟨_, _, _, _, rfl, e1, g1, f1, g3⟩, g2, g4⟩
theorem open_module {v : Value} {d : DataW H} {p : List MemPlace} (hd : DataW.Trod enc Tryz.prog W 0 (fun _ => true) true 39 v d p) : ∃ z m, v = Value.agg z.toArray ∧ MoR W W.heap.size z m ∧ okM m := by
  obtain ⟨z, rfl, hz⟩ := agg_cells (k := 2) (by omega) ⟨_, Tryz.underlying39⟩ (by kernel_rfl) hd
  obtain ⟨fuel, h⟩ := hd
  rw [hz] at h
  obtain ⟨m, h1, h2⟩ := open_mo h
  exact ⟨z, m, rfl, h1, h2⟩
end
end Go.Proofs.YtbpedjkebemhnaaGreatDoor
end
section
/- What the tree rows' listed variables give the walks, and a world in which they read so. -/
set_option linter.unusedVariables false
namespace Go.Proofs.YtbpedjkebemhnaaGreatDoor
open Go.ChangeShapes Go.WideShapes Go.ChangeAt Go.RowKit

theorem own : ownKnob Tryz.prog.godebug = none := by kernel_rfl
theorem laidOut : laidOutB Tryz.prog = true := by kernel_rfl
theorem pow10_of {l : List (String × DataW Unit)} {W : World}
    (h1 : (l.filter fun x => x.1 == "internal/strconv.uint64pow10") = [("internal/strconv.uint64pow10", Lib.tabData .u64 Lib.pow10Tab)])
    (h : laidMetH Tryz.prog l W) : Lib.TabIs Tryz.prog W "internal/strconv.uint64pow10" .u64 Lib.pow10Tab := by
  have g1 := laidMetH.filter (fun x => x.1 == "internal/strconv.uint64pow10") h
  rw [h1] at g1
  rw [MakeChecks.laidMetH_plain _ _ _ (by kernel_rfl)] at g1
  exact Lib.tabIs_of_head (g := 5) (by kernel_rfl) (by kernel_rfl) Tryz.underlying258 Tryz.underlying213 (by kernel_rfl) (by kernel_rfl) g1
theorem ascii_of {l : List (String × DataW Unit)} {W : World}
    (h1 : (l.filter fun x => x.1 == "strings.asciiSpace") = [("strings.asciiSpace", Lib.tabData .u8 Lib.asciiSpaceTab)])
    (h : laidMetH Tryz.prog l W) : Lib.TabIs Tryz.prog W "strings.asciiSpace" .u8 Lib.asciiSpaceTab := by
  have g1 := laidMetH.filter (fun x => x.1 == "strings.asciiSpace") h
  rw [h1] at g1
  rw [MakeChecks.laidMetH_plain _ _ _ (by kernel_rfl)] at g1
  exact Lib.tabIs_of_head (g := 0) (by kernel_rfl) (by kernel_rfl) Tryz.underlying120 Tryz.underlying5 (by kernel_rfl) (by kernel_rfl) g1
end Go.Proofs.YtbpedjkebemhnaaGreatDoor
end
