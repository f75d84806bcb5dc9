/- YL, YK -/
import Derived.Test.YtbpedjkebemhnaaGreatDoorSA18
import Derived.Test.YtbpedjkebemhnaaGreatDoorSA20
import Derived.Test.YtbpedjkebemhnaaGreatDoorSA06
set_option linter.unusedSimpArgs false
set_option linter.unusedVariables false
section
/- May a module be printed: the reference. -/
set_option linter.unusedVariables false
namespace Go.Proofs.YtbpedjkebemhnaaGreatDoor
open Go.RowKit

theorem two_types {m : Nat} {ts : List TyD} (h : ts.length = 2) : ts.all (writtenB m) = (writtenB m (ts[0]'(by omega)) && writtenB m (ts[1]'(by omega))) := by
  match ts, h with
  | [a, b], _ => simp
set_option maxRecDepth 100000 in
set_option maxHeartbeats 8000000 in
theorem rmay_any (m : MoD) (w : World) (z : List Value) (hr : MoR w w.heap.size z m) (hok : okM m) (hS : SmM m) :
    Calls Tryz.prog 22 #[.agg z.toArray] w fun e w' => e = .returned (.bool (mayB m)) ∧ Below w.heap.size w w' := by
  obtain ⟨A1, c1, A2, c2, xi, xd, rfl, s1, r1, s2, r2⟩ := hr.parts
  have hres : mayB m = (m.imps.all impB && m.decls.all declB) := rfl
  obtain ⟨res, hre⟩ : ∃ res, mayB m = res := ⟨_, rfl⟩
  rw [hre] at hres ⊢
  have HRES := hid hres
  have l1 := (t_sl_len s1).2
  have l2 := (t_sl_len s2).2
  obtain ⟨W, hW⟩ : ∃ W, w.alloc (.cells #[.slice A1 m.imps.length c1, .slice A2 m.decls.length c2] 39) = W := ⟨_, rfl⟩
  have hb1 : Below w.heap.size w W := by rw [← hW]; exact (Below.refl _ _).alloc (Nat.le_refl _) _
  have HBX : Hid (W.heap[w.heap.size]? = some (.cells #[.slice A1 m.imps.length c1, .slice A2 m.decls.length c2] 39 (0, 0))) := hid (by rw [← hW]; exact heap_alloc_new w _)
  have HI := hid (And.intro (Sl.more (Sl.below s1 hb1) hb1.size) (r1.imp fun _ _ h => (h.keep hb1).more hb1.size))
  have HD := hid (And.intro (Sl.more (Sl.below s2 hb1) hb1.size) (r2.imp fun _ _ h => (h.keep hb1).more hb1.size))
  have HOI := hid hok.1
  have HOD := hid hok.2
  have HSB := hid hS.body
  have HB1 := hid hb1
  clear hr s1 r1 s2 r2 hb1 hok hS hres hre
  obtain ⟨is, his⟩ : ∃ x, m.imps = x := ⟨_, rfl⟩
  obtain ⟨ds, hds⟩ : ∃ x, m.decls = x := ⟨_, rfl⟩
  rw [his, hds] at HBX hW HRES
  rw [his] at HI HOI l1
  rw [hds] at HD HOD HSB l2
  rw [his, hds]
  obtain ⟨a, hA⟩ : ∃ a, is.length = a := ⟨_, rfl⟩
  obtain ⟨d, hDl⟩ : ∃ d, ds.length = d := ⟨_, rfl⟩
  rw [hA, hDl] at HBX hW
  rw [hA] at HI l1
  rw [hDl] at HD l2
  rw [hA, hDl]
  have HA := hid hA
  have HDL := hid hDl
  clear his hds hA hDl
  clear m
  go_enter Tryz.func22, Tryz.ntmps22
  go_wp2_with fail
  clear hW
  go_loopw [3] (fun v3 wr => ∃ i : Nat, v3 = .int .i64 i ∧ i ≤ a ∧ (is.take i).all impB = true ∧ Below W.heap.size W wr) (fun v3 _ => a - (intOf v3).toNat)
  case atStart => exact ⟨0, rfl, by omega, rfl, Below.refl _ _⟩
  case round =>
    obtain ⟨i, rfl, hi, hall, hbr⟩ := hrel
    have HAL := hid hall
    have HBR := hid hbr
    clear hall
    obtain ⟨g0, g1⟩ := t_row2 ((hbr.block _ (block_lt HBX.out)).trans HBX.out)
    by_cases hlt : i < a
    · have hil : i < is.length := by rw [HA.out]; exact hlt
      obtain ⟨b2, o2, A6, c6, hA6, hn6, d0, d1, d2, d3⟩ := imp_at (Sl.more (Sl.below HI.out.1 hbr) hbr.size) (HI.out.2.imp fun _ _ h => (h.keep hbr).more hbr.size) hil HA.out.symm
      have hoi := HOI.out _ (List.getElem_mem hil)
      have HN := hid (rname_any wr is[i].from_ hoi.1)
      have HNS := hid (fun (w1 : World) (h : Below wr.heap.size wr w1) => rnames_any _ is[i].names w1 (Ss.more (Ss.below hn6 h) h.size) hoi.2.1)
      have hl6 := (t_sl_len hn6).2
      have hst := t_take hil
      have HYES : Hid (impB is[i] = true → (is.take (i + 1)).all impB = true) := hid (fun h => by rw [hst, List.all_append, HAL.out]; simp [h])
      have HNO : Hid (impB is[i] = false → res = false) := hid (fun hq => by
        rw [HRES.out]
        cases h : is.all impB with
        | false => rfl
        | true => rw [List.all_eq_true] at h; rw [h _ (List.getElem_mem hil)] at hq; cases hq)
      have himp := impB_eq is[i]
      rw [himp] at HYES HNO
      generalize nameL is[i].from_ = q1 at *
      generalize is[i].names.all nameL = q2 at *
      generalize is[i].names.length = k at *
      generalize is[i].from_ = X at *
      generalize is[i].line = li at *
      generalize is[i].col = co at *
      clear hoi hbr hn6 hst himp d2 d3
      subst hA6
      go_wp2_with fail
      refine HN.out.mono ?_
      rintro e w4 ⟨rfl, hb⟩
      have HB4 := hid hb
      have HR4 := hid (HBR.out.trans (hb.mono HBR.out.size))
      have g0 := kb hb g0
      have d1 := kb hb d1
      clear hb
      go_wp2_with fail
      refine (HNS.out _ HB4.out).mono ?_
      rintro e w5 ⟨rfl, hb⟩
      have HR5 := hid (HR4.out.trans (hb.mono HR4.out.size))
      have g0 := kb hb g0
      have d1 := kb hb d1
      clear hb
      cases q1 with
      | false =>
        have HF := hid (HNO.out rfl)
        go_wp2_with fail
        go_ret
        exact ⟨by rw [HF.out]; rfl, HB1.out.trans (HR5.out.mono HB1.out.size)⟩
      | true =>
        cases q2 with
        | false =>
          have HF := hid (HNO.out (by simp))
          go_wp2_with fail
          go_ret
          exact ⟨by rw [HF.out]; rfl, HB1.out.trans (HR5.out.mono HB1.out.size)⟩
        | true =>
          by_cases hk : k = 0
          · have gk : ((k : Int) == 0) = true := by rw [beq_iff_eq]; omega
            have HF := hid (HNO.out (by rw [hk]; rfl))
            clear hk
            go_wp2_with fail
            go_ret
            exact ⟨by rw [HF.out]; rfl, HB1.out.trans (HR5.out.mono HB1.out.size)⟩
          · have gk : ((k : Int) == 0) = false := by rw [beq_eq_false_iff_ne]; omega
            have HT := hid (HYES.out (by rw [decide_eq_true (by omega : 0 < k)]; rfl))
            clear hk
            go_wp2_with fail
            go_roundw
            case rel => exact ⟨i + 1, rfl, by omega, HT.out, HR5.out⟩
            case measure => simp [intOf]; omega
    · obtain rfl : i = a := by omega
      have HR0 : Hid (res = ds.all declB) := hid (by
        have h := HAL.out
        rw [List.take_of_length_le (by rw [HA.out]; omega)] at h
        rw [HRES.out, h, Bool.true_and])
      clear hbr hlt HRES HAL
      go_wp2_with fail
      clear g0 g1
      go_loopw [6] (fun v6 wr => ∃ j : Nat, v6 = .int .i64 j ∧ j ≤ d ∧ (ds.take j).all declB = true ∧ Below W.heap.size W wr) (fun v6 _ => d - (intOf v6).toNat)
      case atStart => exact ⟨0, rfl, by omega, rfl, HBR.out⟩
      case round =>
        obtain ⟨j, rfl, hj, hall, hbr⟩ := hrel
        have HAL := hid hall
        have HBR2 := hid hbr
        clear hall
        obtain ⟨g0, g1⟩ := t_row2 ((hbr.block _ (block_lt HBX.out)).trans HBX.out)
        by_cases hlt : j < d
        · have hjl : j < ds.length := by rw [HDL.out]; exact hlt
          obtain ⟨b2, o2, A6, c6, A7, c7, kk, s, n1, l9, cc, A3, n3, c3, A4, n4, c4, A5, n5, c5, xv, xt, hA6, t1, t2, t3, t4, t5, dd0, dd1, dd2, dd3, dd4, dd5, dd6, dd7, dd8, dd9, dd10, dd11, dd12, dd13, dd14⟩ := decl_at2 (Sl.more (Sl.below HD.out.1 hbr) hbr.size) (HD.out.2.imp fun _ _ h => (h.keep hbr).more hbr.size) hjl HDL.out.symm
          have hv6 := (t_sl_len t1).2
          have hv7 := (t_sl_len t3).2
          obtain ⟨ok1, ok2, ok3, ok4, ok5, _, _⟩ := HOD.out _ (List.getElem_mem hjl)
          have hbody := HSB.out _ (List.getElem_mem hjl)
          have hst := t_take hjl
          have HYES : Hid (declB ds[j] = true → (ds.take (j + 1)).all declB = true) := hid (fun h => by rw [hst, List.all_append, HAL.out]; simp [h])
          have HNO : Hid (declB ds[j] = false → res = false) := hid (fun hq => by
            rw [HR0.out]
            cases h : ds.all declB with
            | false => rfl
            | true => rw [List.all_eq_true] at h; rw [h _ (List.getElem_mem hjl)] at hq; cases hq)
          have hdb : declB ds[j] = (nameL ds[j].name && nameL ds[j].param && ds[j].types.length == 2 && nodeB 25 ds[j].body && ds[j].vars.all (fun v => nameL v.name) && ds[j].types.all (writtenB 16) && ds[j].vars.all (fun v => writtenB 16 v.bound)) := rfl
          rw [hdb] at HYES HNO
          clear hst hdb
          obtain ⟨vs, hvs⟩ : ∃ x, ds[j].vars = x := ⟨_, rfl⟩
          obtain ⟨ts, hts⟩ : ∃ x, ds[j].types = x := ⟨_, rfl⟩
          obtain ⟨bd, hbd⟩ : ∃ x, ds[j].body = x := ⟨_, rfl⟩
          rw [hvs] at t1 t2 ok2 hv6 HYES HNO dd2
          rw [hts] at t3 t4 ok4 hv7 HYES HNO dd4
          rw [hbd] at t5 ok5 hbody HYES HNO
          obtain ⟨nv, hnv⟩ : ∃ x, vs.length = x := ⟨_, rfl⟩
          obtain ⟨nt, hnt⟩ : ∃ x, ts.length = x := ⟨_, rfl⟩
          rw [hnv] at t1 hv6 dd2
          rw [hnt] at t3 hv7 dd4 HYES HNO
          clear hvs hts hbd
          generalize ds[j].name = NM at *
          generalize ds[j].param = PM at *
          generalize ds[j].exp = ex at *
          generalize ds[j].line = dl at *
          generalize ds[j].col = dc at *
          obtain ⟨wA, hwA⟩ : ∃ wA, wr.alloc (.cells #[sv NM, .bool ex, .slice A6 nv c6, sv PM, .slice A7 nt c7, .int .i64 kk, .string s, .int .i64 n1, .int .i64 l9, .int .i64 cc, .slice A3 n3 c3, .slice A4 n4 c4, .slice A5 n5 c5, .int .i64 dl, .int .i64 dc] 65) = wA := ⟨_, rfl⟩
          have hbA : Below wr.heap.size wr wA := by rw [← hwA]; exact (Below.refl _ _).alloc (Nat.le_refl _) _
          have HROW : Hid (wA.heap[wr.heap.size]? = some (.cells #[sv NM, .bool ex, .slice A6 nv c6, sv PM, .slice A7 nt c7, .int .i64 kk, .string s, .int .i64 n1, .int .i64 l9, .int .i64 cc, .slice A3 n3 c3, .slice A4 n4 c4, .slice A5 n5 c5, .int .i64 dl, .int .i64 dc] 65 (0, 0))) := hid (by rw [← hwA]; exact heap_alloc_new wr _)
          have HRA : Hid (Below W.heap.size W wA) := hid (hbr.trans (hbA.mono hbr.size))
          have HNM := hid (rname_any wA NM ok1)
          have HPM := hid (fun (w1 : World) => rname_any w1 PM ok3)
          have HV := hid (And.intro (Sl.more (Sl.below t1 hbA) hbA.size) (t2.imp fun _ _ h => (h.keep hbA).more hbA.size))
          have HT := hid (And.intro (Sl.more (Sl.below t3 hbA) hbA.size) ((t4.keep hbA).more hbA.size))
          have HBD := hid (fun (w1 : World) (h : Below wA.heap.size wA w1) => rnode_all 25 (by omega) w1 _ bd (((t5.keep hbA).more hbA.size).far (Nat.le_refl _) h) ok5 hbody)
          have HOV := hid ok2
          have HOT := hid ok4
          have HNV := hid hnv
          have HNT := hid hnt
          have f0 := row_cell (j := 0) HROW.out rfl
          clear t1 t2 t3 t4 t5 ok1 ok2 ok3 ok4 ok5 hbody hnv hnt hbA hbr
          subst hA6
          generalize nameL NM = q1 at *
          generalize nameL PM = q2 at *
          generalize nodeB 25 bd = q3 at *
          go_wp2_with fail
          clear hwA dd0 dd1 dd2 dd3 dd4 dd5 dd6 dd7 dd8 dd9 dd10 dd11 dd12 dd13 dd14 f0 g0 g1
          refine HNM.out.mono ?_
          rintro e w4 ⟨rfl, hb⟩
          have HB4 := hid hb
          have f3 := row_cell (j := 3) ((HB4.out.block _ (block_lt HROW.out)).trans HROW.out) rfl
          clear hb
          go_wp2_with fail
          clear f3
          refine (HPM.out _).mono ?_
          rintro e w5 ⟨rfl, hb⟩
          have HB5 := hid (HB4.out.trans (hb.mono HB4.out.size))
          have HR5 := hid (HRA.out.trans (HB5.out.mono HRA.out.size))
          have f4 := row_cell (j := 4) ((HB5.out.block _ (block_lt HROW.out)).trans HROW.out) rfl
          clear hb
          cases q1 with
          | false =>
            have HF := hid (HNO.out rfl)
            go_wp2_with fail
            go_ret
            exact ⟨by rw [HF.out]; rfl, HB1.out.trans (HR5.out.mono HB1.out.size)⟩
          | true =>
          cases q2 with
          | false =>
            have HF := hid (HNO.out (by simp))
            go_wp2_with fail
            go_ret
            exact ⟨by rw [HF.out]; rfl, HB1.out.trans (HR5.out.mono HB1.out.size)⟩
          | true =>
          by_cases h2 : nt = 2
          case neg =>
            have g2 : ((nt : Int) != 2) = true := by rw [bne_iff_ne]; omega
            have HF := hid (HNO.out (by rw [beq_eq_false_iff_ne.mpr h2]; simp))
            clear h2
            go_wp2_with fail
            go_ret
            exact ⟨by rw [HF.out]; rfl, HB1.out.trans (HR5.out.mono HB1.out.size)⟩
          subst h2
          have h0l : 0 < ts.length := by rw [HNT.out]; omega
          have h1l : 1 < ts.length := by rw [HNT.out]; omega
          obtain ⟨b3, o3, k3, s3, A8, n8, c8, A9, n9, c9, hA7, hr3, x0, x1, x2, x3⟩ := elem_at (Sl.more (Sl.below HT.out.1 HB5.out) HB5.out.size) ((HT.out.2.keep HB5.out).more HB5.out.size) h0l HNT.out.symm
          have HW0 := hid (rwritten_all 16 (by omega) w5 _ ts[0] hr3 (HOT.out _ (List.getElem_mem h0l)))
          have htwo := two_types (m := 16) HNT.out
          rw [htwo] at HYES HNO
          have hst0 : ∃ q, writtenB 16 ts[0] = q := ⟨_, rfl⟩
          obtain ⟨q4, hq4⟩ := hst0
          have hst1 : ∃ q, writtenB 16 ts[1] = q := ⟨_, rfl⟩
          obtain ⟨q5, hq5⟩ := hst1
          rw [hq4, hq5] at HYES HNO
          rw [hq4] at HW0
          have HQ5 := hid hq5
          rw [Nat.zero_mul, Nat.add_zero] at x0 x1 x2 x3
          clear hr3 htwo hq4 hq5
          subst hA7
          go_wp2_with fail
          clear x0 x1 x2 x3 f4
          refine HW0.out.mono ?_
          rintro e w6 ⟨rfl, hb⟩
          have HB6 := hid (HB5.out.trans (hb.mono HB5.out.size))
          clear hb
          have f4 := row_cell (j := 4) ((HB6.out.block _ (block_lt HROW.out)).trans HROW.out) rfl
          obtain ⟨b3', o3', k3, s3, A8, n8, c8, A9, n9, c9, hA7, hr3, x0, x1, x2, x3⟩ := elem_at (Sl.more (Sl.below HT.out.1 HB6.out) HB6.out.size) ((HT.out.2.keep HB6.out).more HB6.out.size) h1l HNT.out.symm
          injection hA7 with hA7
          injection hA7 with hb7 ho7
          subst hb7 ho7
          have HW1 := hid (rwritten_all 16 (by omega) w6 _ ts[1] hr3 (HOT.out _ (List.getElem_mem h1l)))
          rw [HQ5.out] at HW1
          rw [Nat.one_mul] at x0 x1 x2 x3
          clear hr3 HQ5 h0l h1l
          go_wp2_with fail
          clear x0 x1 x2 x3 f4
          refine HW1.out.mono ?_
          rintro e w7 ⟨rfl, hb⟩
          have HB7 := hid (HB6.out.trans (hb.mono HB6.out.size))
          clear hb
          obtain ⟨y0, y1, y2, y3, y4, y5, y6, y7, y8, y9, y10, y11, y12, y13, y14⟩ := t_row15 ((HB7.out.block _ (block_lt HROW.out)).trans HROW.out)
          go_wp2_with fail
          clear y0 y1 y2 y3 y4 y5 y6 y7 y8 y9 y10 y11 y12 y13 y14
          refine (HBD.out _ HB7.out).mono ?_
          rintro e w8 ⟨rfl, hb⟩
          have HB8 := hid (HB7.out.trans (hb.mono HB7.out.size))
          have HR8 := hid (HRA.out.trans (HB8.out.mono HRA.out.size))
          clear hb
          cases q4 with
          | false =>
            have HF := hid (HNO.out (by simp))
            go_wp2_with fail
            go_ret
            exact ⟨by rw [HF.out]; rfl, HB1.out.trans (HR8.out.mono HB1.out.size)⟩
          | true =>
          cases q5 with
          | false =>
            have HF := hid (HNO.out (by simp))
            go_wp2_with fail
            go_ret
            exact ⟨by rw [HF.out]; rfl, HB1.out.trans (HR8.out.mono HB1.out.size)⟩
          | true =>
          cases q3 with
          | false =>
            have HF := hid (HNO.out (by simp))
            go_wp2_with fail
            go_ret
            exact ⟨by rw [HF.out]; rfl, HB1.out.trans (HR8.out.mono HB1.out.size)⟩
          | true =>
          have HY2 : Hid ((vs.all (fun v => nameL v.name) && vs.all (fun v => writtenB 16 v.bound)) = true → (ds.take (j + 1)).all declB = true) := hid (fun h => HYES.out (by
            rw [Bool.and_eq_true] at h
            rw [h.1, h.2]; rfl))
          have HN2 : Hid (vs.all (fun v => nameL v.name) = false ∨ vs.all (fun v => writtenB 16 v.bound) = false → res = false) := hid (fun h => HNO.out (by
            rcases h with h | h <;> rw [h] <;> simp))
          clear HYES HNO
          go_wp2_with fail
          go_loopw [13] (fun v13 wr => ∃ k : Nat, v13 = .int .i64 k ∧ k ≤ nv ∧ (vs.take k).all (fun v => nameL v.name) = true ∧ (vs.take k).all (fun v => writtenB 16 v.bound) = true ∧ Below wA.heap.size wA wr) (fun v13 _ => nv - (intOf v13).toNat)
          case atStart => exact ⟨0, rfl, by omega, rfl, rfl, HB8.out⟩
          case round =>
            obtain ⟨k, rfl, hk, ha1, ha2, hbx⟩ := hrel
            have HAL1 := hid ha1
            have HAL2 := hid ha2
            have HBX2 := hid hbx
            have HRX := hid (HRA.out.trans (hbx.mono HRA.out.size))
            clear ha1 ha2
            have f2 := row_cell (j := 2) ((hbx.block _ (block_lt HROW.out)).trans HROW.out) rfl
            by_cases hlt2 : k < nv
            · have hkl : k < vs.length := by rw [HNV.out]; exact hlt2
              obtain ⟨b4, o4, k4, s4, A8, n8, c8, A9, n9, c9, hA6, hr4, hk4, e0, e1, e2, e3, e4⟩ := var_at (Sl.more (Sl.below HV.out.1 hbx) hbx.size) (HV.out.2.imp fun _ _ h => (h.keep hbx).more hbx.size) hkl HNV.out.symm
              subst hA6
              have hov := HOV.out _ (List.getElem_mem hkl)
              have HNK := hid (fun (w1 : World) => rname_any w1 vs[k].name hov.1)
              have HWK := hid (fun w1 (h : Below _ _ w1) => rwritten_all 16 (by omega) w1 _ vs[k].bound (hr4.far (Nat.le_refl _) h) hov.2)
              have hst := t_take hkl
              have HY3 : Hid (nameL vs[k].name = true → writtenB 16 vs[k].bound = true → (vs.take (k + 1)).all (fun v => nameL v.name) = true ∧ (vs.take (k + 1)).all (fun v => writtenB 16 v.bound) = true) := hid (fun h1 h2 => by
                rw [hst, List.all_append, List.all_append, HAL1.out, HAL2.out]
                simp [h1, h2])
              have HN3 : Hid (nameL vs[k].name = false ∨ writtenB 16 vs[k].bound = false → res = false) := hid (fun h => HN2.out (by
                rcases h with h | h
                · left
                  cases hh : vs.all (fun v => nameL v.name) with
                  | false => rfl
                  | true => rw [List.all_eq_true] at hh; rw [hh _ (List.getElem_mem hkl)] at h; cases h
                · right
                  cases hh : vs.all (fun v => writtenB 16 v.bound) with
                  | false => rfl
                  | true => rw [List.all_eq_true] at hh; rw [hh _ (List.getElem_mem hkl)] at h; cases h))
              generalize nameL vs[k].name = q6 at *
              generalize writtenB 16 vs[k].bound = q7 at *
              generalize vs[k].name = X at *
              clear hr4 hk4 hov hst hbx
              go_wp2_with fail
              refine (HNK.out _).mono ?_
              rintro e w9 ⟨rfl, hb⟩
              have HB9 := hid hb
              have f2 := kb hb f2
              have e1 := kb hb e1
              have e2 := kb hb e2
              have e3 := kb hb e3
              have e4 := kb hb e4
              clear hb
              go_wp2_with fail
              clear f2 e1 e2 e3 e4
              refine (HWK.out _ HB9.out).mono ?_
              rintro e w10 ⟨rfl, hb⟩
              have HBA9 := hid (HBX2.out.trans ((HB9.out.trans (hb.mono HB9.out.size)).mono HBX2.out.size))
              have HRA9 := hid (HRA.out.trans (HBA9.out.mono HRA.out.size))
              clear hb
              cases q6 with
              | false =>
                have HF := hid (HN3.out (.inl rfl))
                go_wp2_with fail
                go_ret
                exact ⟨by rw [HF.out]; rfl, HB1.out.trans (HRA9.out.mono HB1.out.size)⟩
              | true =>
                cases q7 with
                | false =>
                  have HF := hid (HN3.out (.inr rfl))
                  go_wp2_with fail
                  go_ret
                  exact ⟨by rw [HF.out]; rfl, HB1.out.trans (HRA9.out.mono HB1.out.size)⟩
                | true =>
                  have HT9 := hid (HY3.out rfl rfl)
                  go_wp2_with fail
                  go_roundw
                  case rel => exact ⟨k + 1, rfl, by omega, HT9.out.1, HT9.out.2, HBA9.out⟩
                  case measure => simp [intOf]; omega
            · obtain rfl : k = nv := by omega
              have HT9 := hid (HY2.out (by
                have h1 := HAL1.out
                have h2 := HAL2.out
                rw [List.take_of_length_le (by rw [HNV.out]; omega)] at h1 h2
                rw [h1, h2]; rfl))
              clear hbx hlt2
              go_wp2_with fail
              go_roundw
              case rel => exact ⟨j + 1, rfl, by omega, HT9.out, HRX.out⟩
              case measure => simp [intOf]; omega
        · obtain rfl : j = d := by omega
          have HT9 : Hid (res = true) := hid (by
            have h := HAL.out
            rw [List.take_of_length_le (by rw [HDL.out]; omega)] at h
            rw [HR0.out, h])
          clear hbr hlt
          go_wp2_with fail
          go_ret
          exact ⟨by rw [HT9.out]; rfl, HB1.out.trans (HBR2.out.mono HB1.out.size)⟩
end Go.Proofs.YtbpedjkebemhnaaGreatDoor
end
section
/- Two lists of texts: are they the same? Texts with commas between: the reference. -/
set_option linter.unusedVariables false
namespace Go.Proofs.YtbpedjkebemhnaaGreatDoor
open Go.RowKit

theorem texts_take {a b : List Bt} {i : Nat} (ha : i < a.length) (hb : i < b.length) (h : a.take i = b.take i) (h2 : a[i] = b[i]) : a.take (i + 1) = b.take (i + 1) := by
  rw [List.take_succ_eq_append_getElem ha, List.take_succ_eq_append_getElem hb, h, h2]
set_option maxRecDepth 100000 in
set_option maxHeartbeats 2000000 in
theorem texts_any (va vb : Value) (a b : List Bt) (w : World) (ha : Ss w w.heap.size va a) (hb : Ss w w.heap.size vb b) :
    Calls Tryz.prog 19 #[va, vb] w fun e w' => e = .returned (.bool (decide (a = b))) ∧ Below w.heap.size w w' := by
  have HA := hid ha
  have HB := hid hb
  obtain ⟨A, ca, rfl⟩ := t_sl_exact ha (by omega) (m := a.length) (by rw [svs_length]; omega)
  obtain ⟨B, cb, rfl⟩ := t_sl_exact hb (by omega) (m := b.length) (by rw [svs_length]; omega)
  have l1 := (t_sl_len ha).2
  have l2 := (t_sl_len hb).2
  clear ha hb
  by_cases hl : a.length = b.length
  case neg =>
    have g : ((a.length : Int) != (b.length : Int)) = true := by rw [bne_iff_ne]; omega
    have HR : Hid (decide (a = b) = false) := hid (decide_eq_false (fun h => hl (by rw [h])))
    clear hl
    go_enter Tryz.func19, Tryz.ntmps19
    go_wp2_with fail
    go_ret
    exact ⟨by rw [HR.out]; rfl, Below.refl _ _⟩
  obtain ⟨n, hn⟩ : ∃ n, a.length = n := ⟨_, rfl⟩
  have hm : b.length = n := by omega
  rw [hn] at HA l1
  rw [hm] at HB l2
  rw [hn, hm]
  have HN := hid hn
  have HM := hid hm
  clear hl hn hm
  go_enter Tryz.func19, Tryz.ntmps19
  go_wp2_with fail
  go_loopw [5] (fun v5 wr => ∃ i : Nat, v5 = .int .i64 i ∧ i ≤ n ∧ a.take i = b.take i ∧ Below w.heap.size w wr) (fun v5 _ => n - (intOf v5).toNat)
  case atStart => exact ⟨0, rfl, by omega, by simp, Below.refl _ _⟩
  case round =>
    obtain ⟨i, rfl, hi, heq, hbr⟩ := hrel
    have HE := hid heq
    have HBR := hid hbr
    clear heq
    by_cases hlt : i < n
    · have hia : i < a.length := by rw [HN.out]; exact hlt
      have hib : i < b.length := by rw [HM.out]; exact hlt
      obtain ⟨b1, o1, rfl, d0⟩ := text_at (Sl.below HA.out hbr) hia
      obtain ⟨b2, o2, rfl, d1⟩ := text_at (Sl.below HB.out hbr) hib
      have HNX : Hid (a[i] = b[i] → a.take (i + 1) = b.take (i + 1)) := hid (fun h => texts_take hia hib HE.out h)
      have HNE : Hid (¬ a[i] = b[i] → decide (a = b) = false) := hid (fun h => decide_eq_false (fun h2 => h (by subst h2; rfl)))
      have D0 := hid d0
      have D1 := hid d1
      have HB0 : Hid (Below wr.heap.size wr wr.drew) := hid (below_drawn wr 1)
      generalize a[i] = X at *
      generalize b[i] = Y at *
      clear hbr d0 d1
      by_cases hxy : X = Y
      · have H9 := hid (HNX.out hxy)
        subst hxy
        clear HNX HNE
        go_wp2_with fail
        refine wp_region_held_drew (S := fun w' => Below wr.heap.size wr w') (by kernel_rfl) HB0.out (fun _ => ?_)
        try simp only [Act.put, List.getElem_toArray, List.getElem_cons_zero, List.getElem_cons_succ, List.setIfInBounds_toArray, List.set_cons_zero, List.set_cons_succ]
        refine tk 0 (.slice (some ⟨b1, o1, none⟩) n ca) HB0.out ?_
        refine tk 1 (.int .i64 (i : Int)) HB0.out ?_
        refine tk 2 (.pointer (some ⟨b1, o1 + i, none⟩)) HB0.out ?_
        refine tkf 3 (sv X) (kp1 D0.out) HB0.out ?_
        refine tk 4 (.slice (some ⟨b2, o2, none⟩) n cb) HB0.out ?_
        refine tk 5 (.int .i64 (i : Int)) HB0.out ?_
        refine tk 6 (.pointer (some ⟨b2, o2 + i, none⟩)) HB0.out ?_
        refine tkf 7 (sv X) (kp1 D1.out) HB0.out ?_
        refine tk 8 (.bool false) HB0.out ?_
        refine wpAnyH_done (by kernel_rfl) ?_ _
        go_wp2_with fail
        go_roundw
        case rel => exact ⟨i + 1, rfl, by omega, H9.out, HBR.out.trans (HB0.out.mono HBR.out.size)⟩
        case measure => simp [intOf]; omega
      · have g : (X != Y) = true := by rw [bne_iff_ne]; exact hxy
        have H9 := hid (HNE.out hxy)
        go_wp2_with fail
        refine wp_region_held_drew (S := fun w' => Below wr.heap.size wr w') (by kernel_rfl) HB0.out (fun _ => ?_)
        try simp only [Act.put, List.getElem_toArray, List.getElem_cons_zero, List.getElem_cons_succ, List.setIfInBounds_toArray, List.set_cons_zero, List.set_cons_succ]
        refine tk 0 (.slice (some ⟨b1, o1, none⟩) n ca) HB0.out ?_
        refine tk 1 (.int .i64 (i : Int)) HB0.out ?_
        refine tk 2 (.pointer (some ⟨b1, o1 + i, none⟩)) HB0.out ?_
        refine tkf 3 (sv X) (kp1 D0.out) HB0.out ?_
        refine tk 4 (.slice (some ⟨b2, o2, none⟩) n cb) HB0.out ?_
        refine tk 5 (.int .i64 (i : Int)) HB0.out ?_
        refine tk 6 (.pointer (some ⟨b2, o2 + i, none⟩)) HB0.out ?_
        refine tkf 7 (sv Y) (kp1 D1.out) HB0.out ?_
        refine tk 8 (.bool true) HB0.out ?_
        refine wpAnyH_done (by kernel_rfl) ?_ _
        go_wp2_with fail
        go_ret
        exact ⟨by rw [H9.out]; rfl, HBR.out.trans (HB0.out.mono HBR.out.size)⟩
    · obtain rfl : i = n := by omega
      have H9 : Hid (decide (a = b) = true) := hid (decide_eq_true (by
        have h := HE.out
        rw [List.take_of_length_le (by rw [HN.out]; omega), List.take_of_length_le (by rw [HM.out]; omega)] at h
        exact h))
      clear hbr hlt
      go_wp2_with fail
      go_ret
      exact ⟨by rw [H9.out]; rfl, HBR.out⟩
set_option maxRecDepth 100000 in
set_option maxHeartbeats 2000000 in
theorem comma_any (w : World) (v : Value) (L : List Bt) (hv : Ss w w.heap.size v L) (hlen : (joinS [44, 32] L).length ≤ 1000000000000) :
    Calls Tryz.prog 53 #[v] w fun e w' => e = .returned (sv (joinS [44, 32] L)) ∧ Below w.heap.size w w' := by
  have HJ : Hid (∀ i, (joinS [44, 32] (L.take i)).length ≤ 1000000000000) := hid (fun i => by have := joinS_le [44, 32] L i; omega)
  obtain ⟨A, c, rfl⟩ := t_sl_exact hv (by omega) (m := L.length) (by rw [svs_length]; omega)
  have l1 := (t_sl_len hv).2
  have HS := hid hv
  obtain ⟨d, hD⟩ : ∃ d, L.length = d := ⟨_, rfl⟩
  rw [hD] at l1 HS
  rw [hD]
  have HD := hid hD
  clear hv hlen hD
  go_enter Tryz.func53, Tryz.ntmps53
  go_wp2_with fail
  go_loopw [3, 4] (fun v3 v4 wr => ∃ i : Nat, v4 = .int .i64 i ∧ i ≤ d ∧ v3 = sv (joinS [44, 32] (L.take i)) ∧ Below w.heap.size w wr) (fun v3 v4 _ => d - (intOf v4).toNat)
  case atStart => exact ⟨0, rfl, by omega, rfl, Below.refl _ _⟩
  case round =>
    obtain ⟨i, rfl, hi, rfl, hbr⟩ := hrel
    have HB := hid hbr
    have hjl := HJ.out i
    by_cases hlt : i < d
    · have hiL : i < L.length := by rw [HD.out]; exact hlt
      obtain ⟨b1, o1, rfl, d0⟩ := text_at (Sl.below HS.out hbr) hiL
      have hj1 := HJ.out (i + 1)
      have HNX0 : Hid (i = 0 → joinS [44, 32] (L.take (i + 1)) = joinS [44, 32] (L.take i) ++ L[i]) := hid (fun h => by
        subst h
        rw [Nat.zero_add, join_first _ hiL]
        rfl)
      have HNX1 : Hid (0 < i → joinS [44, 32] (L.take (i + 1)) = joinS [44, 32] (L.take i) ++ ([44, 32] ++ L[i])) := hid (fun h => by rw [join_next _ hiL h])
      generalize hN : joinS [44, 32] (L.take (i + 1)) = N at *
      have HN := hid hN
      clear hN
      generalize joinS [44, 32] (L.take i) = P at *
      generalize L[i] = X at *
      have hz0 := sv_size P
      have hz1 := sv_size X
      by_cases hi0 : i = 0
      · have HNX : Hid (N = P ++ X) := hid (HNX0.out hi0)
        rw [HNX.out] at hj1
        simp only [List.length_append, List.length_cons, List.length_nil] at hj1
        have gi : decide ((0 : Int) < (i : Int)) = false := by simp; omega
        have gi2 : ¬ (0 : Int) < (i : Int) := by omega
        have q0 : ¬ (9223372036854775807 < P.length + X.length) := by omega
        clear hi0 HNX0 HNX1 hj1 hjl hbr
        go_wp2_with fail
        go_roundw
        case rel =>
          refine ⟨i + 1, rfl, by omega, ?_, HB.out⟩
          rw [HN.out, HNX.out]
          have e : (⟨P.toArray⟩ : ByteArray) ++ ⟨X.toArray⟩ = ⟨(P ++ X).toArray⟩ := by rw [str_append]
          exact congrArg Value.string e
        case measure => simp [intOf]; omega
      · have HNX : Hid (N = P ++ ([44, 32] : Bt) ++ X) := hid (by rw [HNX1.out (by omega), List.append_assoc])
        rw [HNX.out] at hj1
        simp only [List.length_append, List.length_cons, List.length_nil] at hj1
        have gi : decide ((0 : Int) < (i : Int)) = true := by simp; omega
        have gi2 : (0 : Int) < (i : Int) := by omega
        have q0 : ¬ (9223372036854775807 < P.length + 2) := by omega
        have q1 : ¬ (9223372036854775807 < P.length + 2 + X.length) := by omega
        clear hi0 HNX0 HNX1 hj1 hjl hbr
        go_wp2_with fail
        go_roundw
        case rel =>
          refine ⟨i + 1, rfl, by omega, ?_, HB.out⟩
          rw [HN.out, HNX.out]
          have e : (⟨P.toArray⟩ : ByteArray) ++ ⟨([44, 32] : Bt).toArray⟩ ++ ⟨X.toArray⟩ = ⟨(P ++ ([44, 32] : Bt) ++ X).toArray⟩ := by rw [str_append, str_append]
          exact congrArg Value.string e
        case measure => simp [intOf]; omega
    · obtain rfl : i = d := by omega
      rw [List.take_of_length_le (by rw [HD.out]; omega)] at hjl ⊢
      generalize hP : joinS [44, 32] L = P at *
      have HP := hid hP
      clear hP hbr hlt hjl
      go_wp2_with fail
      go_ret
      exact ⟨by rw [HP.out]; rfl, HB.out⟩
end Go.Proofs.YtbpedjkebemhnaaGreatDoor
end
