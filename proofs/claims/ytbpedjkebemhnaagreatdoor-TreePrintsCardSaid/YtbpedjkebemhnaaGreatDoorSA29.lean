/- VD9, YN -/
import Derived.Test.YtbpedjkebemhnaaGreatDoorSA24
import Derived.Test.YtbpedjkebemhnaaGreatDoorSA25
import Derived.Test.YtbpedjkebemhnaaGreatDoorSA26
import Derived.Test.YtbpedjkebemhnaaGreatDoorSA27
import Derived.Test.YtbpedjkebemhnaaGreatDoorSA28
import Derived.Test.YtbpedjkebemhnaaGreatDoorSA21
import Derived.Deep.Cut
import Derived.Deep.CutRange
set_option linter.unusedSimpArgs false
set_option linter.unusedVariables false
section
/- An expression as text, the reference: every kind; Expr. -/
set_option linter.unusedVariables false
namespace Go.Proofs.YtbpedjkebemhnaaGreatDoor
open Go.RowKit

theorem rexpr_all (x : NoD) : RExC x := by
  induction h : cntN x using Nat.strongRecOn generalizing x with
  | _ N ih =>
    obtain ⟨k, text, n, li, co, ts, ns, ks⟩ := x
    have ihk : ∀ y ∈ ks, RExC y := fun y hy => ih (cntN y) (by rw [← h, cntN]; have := cntN_mem hy; omega) y rfl
    intro w z m hr hok hnd hc
    have hk : 0 ≤ k ∧ k < 20 := by obtain ⟨q, rfl, h1, _⟩ := node_open hnd; exact h1
    have hk2 : k = 0 ∨ k = 1 ∨ k = 2 ∨ k = 3 ∨ k = 4 ∨ k = 5 ∨ k = 6 ∨ k = 7 ∨ k = 8 ∨ k = 9 ∨ k = 10 ∨ k = 11 ∨ k = 12 ∨ k = 13 ∨ k = 14 ∨ k = 15 ∨ k = 16 ∨ k = 17 ∨ k = 18 ∨ k = 19 := by omega
    rcases hk2 with rfl | rfl | rfl | rfl | rfl | rfl | rfl | rfl | rfl | rfl | rfl | rfl | rfl | rfl | rfl | rfl | rfl | rfl | rfl | rfl
    · exact rexpr_k0 text n li co ts ns ks ihk w z m hr hok hnd hc
    · exact rexpr_k1 text n li co ts ns ks ihk w z m hr hok hnd hc
    · exact rexpr_k2 text n li co ts ns ks ihk w z m hr hok hnd hc
    · exact rexpr_k3 text n li co ts ns ks ihk w z m hr hok hnd hc
    · exact rexpr_k4 text n li co ts ns ks ihk w z m hr hok hnd hc
    · exact rexpr_k5 text n li co ts ns ks ihk w z m hr hok hnd hc
    · exact rexpr_k6 text n li co ts ns ks ihk w z m hr hok hnd hc
    · exact rexpr_k7 text n li co ts ns ks ihk w z m hr hok hnd hc
    · exact rexpr_k8 text n li co ts ns ks ihk w z m hr hok hnd hc
    · exact rexpr_k9 text n li co ts ns ks ihk w z m hr hok hnd hc
    · exact rexpr_k10 text n li co ts ns ks ihk w z m hr hok hnd hc
    · exact rexpr_k11 text n li co ts ns ks ihk w z m hr hok hnd hc
    · exact rexpr_k12 text n li co ts ns ks ihk w z m hr hok hnd hc
    · exact rexpr_k13 text n li co ts ns ks ihk w z m hr hok hnd hc
    · exact rexpr_k14 text n li co ts ns ks ihk w z m hr hok hnd hc
    · exact rexpr_k15 text n li co ts ns ks ihk w z m hr hok hnd hc
    · exact rexpr_k16 text n li co ts ns ks ihk w z m hr hok hnd hc
    · exact rexpr_k17 text n li co ts ns ks ihk w z m hr hok hnd hc
    · exact rexpr_k18 text n li co ts ns ks ihk w z m hr hok hnd hc
    · exact rexpr_k19 text n li co ts ns ks ihk w z m hr hok hnd hc
end Go.Proofs.YtbpedjkebemhnaaGreatDoor
end
section
/- A module as text: the reference. -/
set_option linter.unusedVariables false
namespace Go.Proofs.YtbpedjkebemhnaaGreatDoor
open Go.RowKit

set_option maxRecDepth 100000 in
set_option maxHeartbeats 8000000 in
theorem rprint_any (m : MoD) (w : World) (z : List Value) (hr : MoR w w.heap.size z m) (hok : okM m) (hS : SmM m) :
    Calls Tryz.prog 24 #[.agg z.toArray] w fun e w' => e = .returned (sv (printT m)) ∧ Below w.heap.size w w' := by
  have hr0 := hr
  obtain ⟨A1, c1, A2, c2, xi, xd, rfl, s1, r1, s2, r2⟩ := hr.parts
  have l1 := (t_sl_len s1).2
  have l2 := (t_sl_len s2).2
  obtain ⟨W, hW⟩ : ∃ W, w.alloc (.cells #[.slice A1 m.imps.length c1, .slice A2 m.decls.length c2] 39) = W := ⟨_, rfl⟩
  have hb1 : Below w.heap.size w W := by rw [← hW]; exact (Below.refl _ _).alloc (Nat.le_refl _) _
  have hbx : W.heap[w.heap.size]? = some (.cells #[.slice A1 m.imps.length c1, .slice A2 m.decls.length c2] 39 (0, 0)) := by rw [← hW]; exact heap_alloc_new w _
  have HM := hid (rmay_any m W _ (hr0.far (Nat.le_refl _) hb1) hok hS)
  have HB1 := hid hb1
  have HBX := hid hbx
  have HII := hid (And.intro (Sl.more (Sl.below s1 hb1) hb1.size) (r1.imp fun _ _ h => (h.keep hb1).more hb1.size))
  have HDD := hid (And.intro (Sl.more (Sl.below s2 hb1) hb1.size) (r2.imp fun _ _ h => (h.keep hb1).more hb1.size))
  have HOK := hid hok
  have HSM := hid hS
  have HM0 : Hid (m.imps.length ≤ 100 ∧ m.decls.length ≤ 100) := hid ⟨hS.imps, hS.decls⟩
  have HPT : Hid (printT m = if mayB m then printS m else []) := hid rfl
  obtain ⟨g0, g1⟩ := t_row2 hbx
  rw [HPT.out]
  have HIA : Hid (mayB m = true → (∀ i ∈ m.imps, impB i = true) ∧ (∀ d ∈ m.decls, declB d = true)) := hid (fun h => by
    unfold mayB at h
    rw [Bool.and_eq_true, List.all_eq_true, List.all_eq_true] at h
    exact h)
  have hps : Hid (printS m = m.imps.flatMap impS ++ m.decls.flatMap declS) := hid rfl
  clear hr hr0 hok hS hb1 hbx s1 r1 s2 r2 HPT
  generalize mayB m = q at *
  rw [hps.out]
  obtain ⟨is, his⟩ : ∃ x, m.imps = x := ⟨_, rfl⟩
  obtain ⟨ds, hds⟩ : ∃ x, m.decls = x := ⟨_, rfl⟩
  have HIS := hid his
  have HDS := hid hds
  rw [his, hds] at HIA HM0
  rw [his] at HII HBX hW g0 l1 HM
  rw [hds] at HDD HBX hW g1 l2 HM
  rw [his, hds]
  obtain ⟨a, hA⟩ : ∃ a, is.length = a := ⟨_, rfl⟩
  obtain ⟨d, hD⟩ : ∃ d, ds.length = d := ⟨_, rfl⟩
  rw [hA] at HII HBX hW g0 l1 HM0 HM
  rw [hD] at HDD HBX hW g1 l2 HM0 HM
  rw [hA, hD]
  have HA := hid hA
  have HD := hid hD
  clear his hds hA hD hps
  go_enter Tryz.func24, Tryz.ntmps24
  go_wp2_with fail
  clear g0 g1
  refine HM.out.mono ?_
  rintro e w2 ⟨rfl, hb⟩
  have HB2 := hid hb
  clear hb hW
  cases q with
  | false =>
    go_wp2_with fail
    go_ret
    exact ⟨rfl, HB1.out.trans (HB2.out.mono HB1.out.size)⟩
  | true =>
  obtain ⟨hia, hda⟩ := HIA.out rfl
  have hm0 := HM0.out
  have HL1 : Hid ((is.flatMap impS).length ≤ 1000000) := hid (by
    have := flatMap_all (f := impS) (l := is) (K := 10000) fun i hi => imp_len (hia i hi) (HSM.out.names i (by rw [HIS.out]; exact hi))
    rw [HA.out] at this
    omega)
  have HL2 : Hid ((ds.flatMap declS).length ≤ 200000000000) := hid (by
    have := flatMap_all (f := declS) (l := ds) (K := 1000000010) fun i hi => (funS_len HSM.out (by rw [HDS.out]; exact hi) (hda i hi)).2.1
    rw [HD.out] at this
    omega)
  have HIA2 := hid hia
  have HDA2 := hid hda
  clear hia hda HIA
  go_wp2_with fail
  go_loopw [4, 5] (fun v4 v5 wr => ∃ i : Nat, v5 = .int .i64 i ∧ i ≤ a ∧ v4 = sv ((is.take i).flatMap impS) ∧ Below W.heap.size W wr) (fun _ v5 _ => a - (intOf v5).toNat)
  case atStart => exact ⟨0, rfl, by omega, rfl, HB2.out⟩
  case round =>
    obtain ⟨i, rfl, hi, rfl, hbr⟩ := hrel
    have HBR := hid hbr
    obtain ⟨g0, g1⟩ := t_row2 ((hbr.block _ (block_lt HBX.out)).trans HBX.out)
    by_cases hlt : i < a
    · have hil : i < is.length := by rw [HA.out]; exact hlt
      obtain ⟨b2, o2, A6, c6, hA6, hn6, d0, d1, d2, d3⟩ := imp_at (Sl.more (Sl.below HII.out.1 hbr) hbr.size) (HII.out.2.imp fun _ _ h => (h.keep hbr).more hbr.size) hil HA.out.symm
      have hfl := flatMap_snoc impS hil
      have hll := flatMap_le impS is (i + 1)
      have hl1 := HL1.out
      have HIM : Hid (impS is[i] = ([105, 109, 112, 111, 114, 116, 32] : Bt) ++ is[i].from_ ++ ([58, 32] : Bt) ++ joinS [44, 32] is[i].names ++ ([59, 10] : Bt)) := hid (by simp [impS, cat])
      have hnl : ∀ x ∈ is[i].names, x.length ≤ 32 := fun x hx => nameL_len ((impB_open (HIA2.out _ (List.getElem_mem hil))).2 x hx)
      have hjl := joinS_all hnl
      have hn100 := HSM.out.names is[i] (by rw [HIS.out]; exact List.getElem_mem hil)
      have HJ := hid (fun (w1 : World) (h : Below wr.heap.size wr w1) => comma_any w1 _ is[i].names (Ss.more (Ss.below hn6 h) h.size) (by omega))
      rw [HIM.out] at hfl
      rw [hfl] at hll
      have HFL := hid hfl
      clear hfl hnl hn6
      generalize joinS [44, 32] is[i].names = J at *
      generalize is[i].names.length = kn at *
      generalize is[i].from_ = X at *
      generalize (is.take i).flatMap impS = T at *
      have hz0 := sv_size X
      have hz1 := sv_size J
      have hz2 := sv_size T
      simp only [List.length_append, List.length_cons, List.length_nil] at hll
      subst hA6
      have G0 := hid g0
      have D0 := hid d0
      have D1 := hid d1
      have HB0 : Hid (Below wr.heap.size wr wr.drew) := hid (below_drawn wr 1)
      have q0 : ¬ (9223372036854775807 < T.length + 7) := by omega
      have q1 : ¬ (9223372036854775807 < T.length + 7 + X.length) := by omega
      have q2 : ¬ (9223372036854775807 < T.length + 7 + X.length + 2) := by omega
      have q3 : ¬ (9223372036854775807 < T.length + 7 + X.length + 2 + J.length) := by omega
      have q4 : ¬ (9223372036854775807 < T.length + 7 + X.length + 2 + J.length + 2) := by omega
      clear hbr hjl hn100 d0 d1 d2 d3
      go_wp2_with fail
      refine wp_region_held_drew (S := fun w' => Below wr.heap.size wr w') (by kernel_rfl) HB0.out (fun _ => ?_)
      try simp only [Act.put, List.getElem_toArray, List.getElem_cons_zero, List.getElem_cons_succ, List.setIfInBounds_toArray, List.set_cons_zero, List.set_cons_succ]
      refine tk 0 (sv T) HB0.out ?_
      refine tk 1 (.string ((⟨T.toArray⟩ : ByteArray) ++ ⟨#[105, 109, 112, 111, 114, 116, 32]⟩)) HB0.out ?_
      refine tk 2 (.pointer (some ⟨w.heap.size, 0, none⟩)) HB0.out ?_
      refine tkf 3 (.slice (some ⟨b2, o2, none⟩) a c1) (kp1 G0.out) HB0.out ?_
      refine tk 4 (.int .i64 (i : Int)) HB0.out ?_
      refine tk 5 (.pointer (some ⟨b2, o2 + i * 4, none⟩)) HB0.out ?_
      refine tk 6 (.pointer (some ⟨b2, o2 + i * 4, none⟩)) HB0.out ?_
      refine tkf 7 (sv X) (kp1 D0.out) HB0.out ?_
      refine tk 8 (.string ((⟨T.toArray⟩ : ByteArray) ++ ⟨#[105, 109, 112, 111, 114, 116, 32]⟩ ++ ⟨X.toArray⟩)) HB0.out ?_
      refine tk 9 (.string ((⟨T.toArray⟩ : ByteArray) ++ ⟨#[105, 109, 112, 111, 114, 116, 32]⟩ ++ ⟨X.toArray⟩ ++ ⟨#[58, 32]⟩)) HB0.out ?_
      refine tk 10 (.pointer (some ⟨w.heap.size, 0, none⟩)) HB0.out ?_
      refine tkf 11 (.slice (some ⟨b2, o2, none⟩) a c1) (kp1 G0.out) HB0.out ?_
      refine tk 12 (.int .i64 (i : Int)) HB0.out ?_
      refine tk 13 (.pointer (some ⟨b2, o2 + i * 4, none⟩)) HB0.out ?_
      refine tk 14 (.pointer (some ⟨b2, o2 + i * 4 + 1, none⟩)) HB0.out ?_
      refine tkf 15 (.slice A6 kn c6) (kp1 D1.out) HB0.out ?_
      refine wpAnyH_ready (rs := [16]) (by kernel_rfl) (by simp) ?_
      refine AllReadyH.cons rfl (fun K hK => ?_) (AllReadyH.nil)
      go_simp
      refine (HJ.out _ HB0.out).mono ?_
      rintro e w5 ⟨rfl, hb⟩
      have HB2x := hid (HB0.out.trans (hb.mono HB0.out.size))
      clear hb
      refine hK.out _ _ HB2x.out (fun _ => ?_)
      clear hK K
      try simp only [Act.put, List.getElem_toArray, List.getElem_cons_zero, List.getElem_cons_succ, List.setIfInBounds_toArray, List.set_cons_zero, List.set_cons_succ]
      refine tk 17 (.string ((⟨T.toArray⟩ : ByteArray) ++ ⟨#[105, 109, 112, 111, 114, 116, 32]⟩ ++ ⟨X.toArray⟩ ++ ⟨#[58, 32]⟩ ++ ⟨J.toArray⟩)) HB2x.out ?_
      refine tk 18 (.string ((⟨T.toArray⟩ : ByteArray) ++ ⟨#[105, 109, 112, 111, 114, 116, 32]⟩ ++ ⟨X.toArray⟩ ++ ⟨#[58, 32]⟩ ++ ⟨J.toArray⟩ ++ ⟨#[59, 10]⟩)) HB2x.out ?_
      refine tk 19 (.string ((⟨T.toArray⟩ : ByteArray) ++ ⟨#[105, 109, 112, 111, 114, 116, 32]⟩ ++ ⟨X.toArray⟩ ++ ⟨#[58, 32]⟩ ++ ⟨J.toArray⟩ ++ ⟨#[59, 10]⟩)) HB2x.out ?_
      refine wpAnyH_done (by kernel_rfl) ?_ _
      go_wp2_with fail
      go_roundw
      case rel =>
        refine ⟨i + 1, rfl, by omega, ?_, HBR.out.trans (HB2x.out.mono HBR.out.size)⟩
        rw [HFL.out]
        have ee : (⟨T.toArray⟩ : ByteArray) ++ ⟨([105, 109, 112, 111, 114, 116, 32] : Bt).toArray⟩ ++ ⟨X.toArray⟩ ++ ⟨([58, 32] : Bt).toArray⟩ ++ ⟨J.toArray⟩ ++ ⟨([59, 10] : Bt).toArray⟩ = ⟨(T ++ ([105, 109, 112, 111, 114, 116, 32] : Bt) ++ X ++ ([58, 32] : Bt) ++ J ++ ([59, 10] : Bt)).toArray⟩ := by
          rw [str_append, str_append, str_append, str_append, str_append]
        have e8 : T ++ ([105, 109, 112, 111, 114, 116, 32] : Bt) ++ X ++ ([58, 32] : Bt) ++ J ++ ([59, 10] : Bt) = T ++ (([105, 109, 112, 111, 114, 116, 32] : Bt) ++ X ++ ([58, 32] : Bt) ++ J ++ ([59, 10] : Bt)) := by simp
        rw [← e8]
        exact congrArg Value.string ee
      case measure => simp [intOf]; omega
    · obtain rfl : i = a := by omega
      rw [List.take_of_length_le (by rw [HA.out]; omega)]
      clear hbr hlt
      go_wp2_with fail
      clear g0 g1
      go_loopw [4, 6] (fun v4 v6 wr => ∃ j : Nat, v6 = .int .i64 j ∧ j ≤ d ∧ v4 = sv (is.flatMap impS ++ (ds.take j).flatMap declS) ∧ Below W.heap.size W wr) (fun _ v6 _ => d - (intOf v6).toNat)
      case atStart => exact ⟨0, rfl, by omega, by simp, HBR.out⟩
      case round =>
        obtain ⟨j, rfl, hj, rfl, hbr⟩ := hrel
        have HBR2 := hid hbr
        obtain ⟨g0, g1⟩ := t_row2 ((hbr.block _ (block_lt HBX.out)).trans HBX.out)
        by_cases hlt : j < d
        · have hjl : j < ds.length := by rw [HD.out]; exact hlt
          obtain ⟨b2, o2, A6, c6, A7, c7, k, s, n, l, c, A3, n3, c3, A4, n4, c4, A5, n5, c5, xv, xt, hA6, t1, t2, t3, t4, t5, dd0, dd1, dd2, dd3, dd4, dd5, dd6, dd7, dd8, dd9, dd10, dd11, dd12, dd13, dd14⟩ := decl_at2 (Sl.more (Sl.below HDD.out.1 hbr) hbr.size) (HDD.out.2.imp fun _ _ h => (h.keep hbr).more hbr.size) hjl HD.out.symm
          have hv6 := (t_sl_len t1).2
          have hv7 := (t_sl_len t3).2
          have hfl := flatMap_snoc declS hjl
          have hll := flatMap_le declS ds (j + 1)
          have hl1 := HL1.out
          have hl2 := HL2.out
          have hdb := HDA2.out ds[j] (List.getElem_mem hjl)
          obtain ⟨e1, e2, e3, e4, e5, e6, e7⟩ := declB_open hdb
          have hmem : ds[j] ∈ m.decls := by rw [HDS.out]; exact List.getElem_mem hjl
          obtain ⟨hf1, hf2, hf3⟩ := funS_len HSM.out hmem hdb
          have hfs : funS ds[j] = ([102, 110, 32] : Bt) ++ ds[j].name ++ varsS ds[j].vars ++ ([40] : Bt) ++ ds[j].param ++ noteS ds[j].types 0 ++ ([41] : Bt) ++ noteS ds[j].types 1 ++ ([32, 61, 32] : Bt) ++ exprS ds[j].body ++ ([59, 10] : Bt) := by simp [funS, cat]
          have hds : declS ds[j] = expS ds[j].exp ++ funS ds[j] := rfl
          have hv100 := HSM.out.vars _ hmem
          obtain ⟨wA, hwA⟩ : ∃ wA, wr.alloc (.cells #[sv ds[j].name, .bool ds[j].exp, .slice A6 ds[j].vars.length c6, sv ds[j].param, .slice A7 ds[j].types.length c7, .int .i64 k, .string s, .int .i64 n, .int .i64 l, .int .i64 c, .slice A3 n3 c3, .slice A4 n4 c4, .slice A5 n5 c5, .int .i64 ds[j].line, .int .i64 ds[j].col] 65) = wA := ⟨_, rfl⟩
          have hbA : Below wr.heap.size wr wA := by rw [← hwA]; exact (Below.refl _ _).alloc (Nat.le_refl _) _
          have HROW : Hid (wA.heap[wr.heap.size]? = some (.cells #[sv ds[j].name, .bool ds[j].exp, .slice A6 ds[j].vars.length c6, sv ds[j].param, .slice A7 ds[j].types.length c7, .int .i64 k, .string s, .int .i64 n, .int .i64 l, .int .i64 c, .slice A3 n3 c3, .slice A4 n4 c4, .slice A5 n5 c5, .int .i64 ds[j].line, .int .i64 ds[j].col] 65 (0, 0))) := hid (by rw [← hwA]; exact heap_alloc_new wr _)
          obtain ⟨bD, hbD⟩ : ∃ bD, wr.heap.size = bD := ⟨_, rfl⟩
          rw [hbD] at HROW
          have HVV := hid (And.intro (Sl.more (Sl.below t1 hbA) hbA.size) (t2.imp fun _ _ h => (h.keep hbA).more hbA.size))
          have HBN : Hid (∀ v ∈ ds[j].vars, writtenB 16 v.bound = true ∧ cntT v.bound ≤ 100000 ∧ v.name.length ≤ 32) := hid (fun v hv => ⟨e7 v hv, HSM.out.bounds _ hmem v hv, nameL_len (e5 v hv)⟩)
          have HN0 := hid (fun (w1 : World) (h : Below wr.heap.size wr w1) => rnote_any w1 ds[j].types A7 c7 xt (Sl.more (Sl.below t3 h) h.size) ((t4.keep h).more h.size) e6 (HSM.out.sorts _ hmem) 0)
          have HN1 := hid (fun (w1 : World) (h : Below wr.heap.size wr w1) => rnote_any w1 ds[j].types A7 c7 xt (Sl.more (Sl.below t3 h) h.size) ((t4.keep h).more h.size) e6 (HSM.out.sorts _ hmem) 1)
          have HEX := hid (fun (w1 : World) (h : Below wr.heap.size wr w1) => rexpr_all ds[j].body w1 _ 25 (t5.far (Nat.le_refl _) h) (HOK.out.2 _ hmem).2.2.2.2.1 e4 (HSM.out.body _ hmem))
          have HFL : Hid (is.flatMap impS ++ (ds.take (j + 1)).flatMap declS = (is.flatMap impS ++ (ds.take j).flatMap declS) ++ (expS ds[j].exp ++ funS ds[j])) := hid (by rw [hfl, hds, List.append_assoc])
          rw [hfl, hds, List.length_append, List.length_append] at hll
          have htl : (is.flatMap impS ++ (ds.take j).flatMap declS).length + (expS ds[j].exp).length + (funS ds[j]).length ≤ 300000000000 := by
            rw [List.length_append]; omega
          rw [hfs] at HFL htl
          have HVL : Hid ((joinS [44, 32] (ds[j].vars.map varS)).length ≤ 1000000000000) := hid (by omega)
          have HVX : Hid (varsS ds[j].vars = if ds[j].vars.length = 0 then [] else ([91] : Bt) ++ joinS [44, 32] (ds[j].vars.map varS) ++ ([93] : Bt)) := hid (by
            unfold varsS
            cases ds[j].vars with
            | nil => rfl
            | cons v vs => simp)
          have HWE := hid hwA
          have HRA : Hid (Below W.heap.size W wA) := hid (hbr.trans (hbA.mono hbr.size))
          have HBA := hid hbA
          clear hf1 hf2 hf3 hll hfl hl1 hl2 hds hfs hdb e1 e2 e4 e5 e6 e7 t1 t2 t3 t4 t5 hmem e3
          generalize hTT : is.flatMap impS ++ (ds.take j).flatMap declS = T at *
          generalize hVS : varsS ds[j].vars = VS at *
          generalize noteS ds[j].types 0 = N0 at *
          generalize noteS ds[j].types 1 = N1 at *
          generalize exprS ds[j].body = E at *
          generalize ds[j].types.length = nt at *
          obtain ⟨vs, hvs⟩ : ∃ x, ds[j].vars = x := ⟨_, rfl⟩
          rw [hvs] at HVX HVL HBN HVV hv6 hwA HROW HWE hv100 dd2
          obtain ⟨nv, hnv⟩ : ∃ x, vs.length = x := ⟨_, rfl⟩
          rw [hnv] at HVX HVV hv6 hwA HROW HWE hv100 dd2
          have HNV := hid hnv
          generalize ds[j].name = NM at *
          generalize ds[j].param = PM at *
          generalize ds[j].exp = ex at *
          generalize ds[j].line = dl at *
          generalize ds[j].col = dc at *
          clear hTT hVS hvs hnv hbA hbr
          have hz0 := sv_size NM
          have hz1 := sv_size PM
          have hz2 := sv_size VS
          have hz3 := sv_size N0
          have hz4 := sv_size N1
          have hz5 := sv_size E
          have hz6 := sv_size T
          have htl2 := htl
          simp only [List.length_append, List.length_cons, List.length_nil] at htl2
          clear htl
          have f1 := row_cell (j := 1) HROW.out rfl
          subst hA6
          go_upto_if 54 with (fail)
          clear hwA hbD dd0 dd1 dd2 dd3 dd4 dd5 dd6 dd7 dd8 dd9 dd10 dd11 dd12 dd13 dd14 g0 g1 f1
          go_cut [4] from 48 to 125 (fun v4 wc => v4 = sv (T ++ expS ex) ∧ Below wA.heap.size wA wc)
          case first =>
            cases ex with
            | true =>
              have hxl : (expS true).length = 7 := rfl
              have q0 : ¬ (9223372036854775807 < T.length + 7) := by omega
              go_wp2_with fail
              go_meet
              case rel =>
                refine ⟨?_, by first | exact Below.refl _ _ | (rw [HWE.out]; exact Below.refl _ _)⟩
                have ee : (⟨T.toArray⟩ : ByteArray) ++ ⟨([101, 120, 112, 111, 114, 116, 32] : Bt).toArray⟩ = ⟨(T ++ ([101, 120, 112, 111, 114, 116, 32] : Bt)).toArray⟩ := by
                  rw [str_append]
                exact congrArg Value.string ee
            | false =>
              go_wp2_with fail
              go_meet
              case rel => exact ⟨by simp [expS], by first | exact Below.refl _ _ | (rw [HWE.out]; exact Below.refl _ _)⟩
          case rest =>
            obtain ⟨rfl, hbc⟩ := hcut
            have HBC := hid hbc
            obtain ⟨T1, hT1⟩ : ∃ T1, T ++ expS ex = T1 := ⟨_, rfl⟩
            have hl9 : T1.length = T.length + (expS ex).length := by rw [← hT1, List.length_append]
            rw [hT1]
            have HT1 := hid hT1
            have f0 := row_cell (j := 0) ((hbc.block _ (block_lt HROW.out)).trans HROW.out) rfl
            have hz7 := sv_size T1
            have q0 : ¬ (9223372036854775807 < T1.length + 3) := by omega
            have q1 : ¬ (9223372036854775807 < T1.length + 3 + NM.length) := by omega
            clear hbc hT1
            go_wp2_with fail
            clear f0
            go_loopw [8, 9, 10] (fun v8 v9 v10 wr => ∃ i : Nat, v9 = .int .i64 i ∧ i ≤ nv ∧ OwnS wr wA.heap.size 9 v8 ((vs.map varS).take i) ∧ Below wA.heap.size wA wr) (fun _ v9 _ _ => nv - (intOf v9).toNat)
            case atStart => exact ⟨0, rfl, by omega, OwnS.nil _ _ _, HBC.out⟩
            case round =>
              obtain ⟨i2, rfl, hi2, hown, hbx⟩ := hrel
              have HOWN := hid hown
              have HBX2 := hid hbx
              have f2 := row_cell (j := 2) ((hbx.block _ (block_lt HROW.out)).trans HROW.out) rfl
              by_cases hlt2 : i2 < nv
              · have hil2 : i2 < vs.length := by rw [HNV.out]; exact hlt2
                obtain ⟨b4, o4, k4, s4, A8, n8, c8, A9, n9, c9, hA9, hr9, hk9, x0, x1, x2, x3, x4⟩ := var_at (Sl.more (Sl.below HVV.out.1 hbx) hbx.size) (HVV.out.2.imp fun _ _ h => (h.keep hbx).more hbx.size) hil2 HNV.out.symm
                subst hA9
                obtain ⟨y1, y2, y3⟩ := HBN.out _ (List.getElem_mem hil2)
                have hsl := show_len vs[i2].bound 16 y1
                have HSH := hid (rshow_all vs[i2].bound _ _ 16 0 (by omega) hr9 y1 y2)
                have hi0 : innerS (brK 0) (vs[i2].bound).kind (showT vs[i2].bound) = showT vs[i2].bound := rfl
                rw [hi0] at HSH
                have HVA : Hid (varS vs[i2] = if k4 = 0 then vs[i2].name else vs[i2].name ++ ([32, 60, 58, 32] ++ showT vs[i2].bound)) := hid (by unfold varS; rw [hk9])
                have hst : (vs.map varS).take (i2 + 1) = (vs.map varS).take i2 ++ [varS vs[i2]] := by
                  rw [t_take (by rw [List.length_map]; exact hil2), List.getElem_map]
                have HST := hid hst
                generalize varS vs[i2] = VX at *
                generalize showT vs[i2].bound = SX at *
                generalize vs[i2].name = X at *
                have hz8 := sv_size X
                have hz9 := sv_size SX
                obtain ⟨Av, nw, cv, rfl⟩ := t_sl_shape hown.ss
                clear hr9 hk9 hi0 hst y1 hbx hown
                go_upto_if 82 with (fail)
                clear x0
                go_cut [10] from 69 to 96 (fun v10 wc => v10 = sv VX ∧ Below wr.heap.size wr wc)
                case first =>
                  by_cases hk4 : k4 = 0
                  · have gk : (k4 != 0) = false := by rw [bne_eq_false_iff_eq]; exact hk4
                    have HV9 : Hid (VX = X) := hid (by rw [HVA.out, if_pos hk4])
                    clear hk4
                    go_wp2_with fail
                    go_meet
                    case rel => exact ⟨by rw [HV9.out], Below.refl _ _⟩
                  · have gk : (k4 != 0) = true := by rw [bne_iff_ne]; exact hk4
                    have HV9 : Hid (VX = X ++ ([32, 60, 58, 32] : Bt) ++ SX) := hid (by rw [HVA.out, if_neg hk4, List.append_assoc])
                    have q0 : ¬ (9223372036854775807 < X.length + 4) := by omega
                    have q1 : ¬ (9223372036854775807 < X.length + 4 + SX.length) := by omega
                    clear hk4
                    go_wp2_with fail
                    refine HSH.out.mono ?_
                    rintro e w9 ⟨rfl, hb⟩
                    go_wp2_with fail
                    go_meet
                    case rel =>
                      refine ⟨?_, hb⟩
                      rw [HV9.out]
                      have ee : (⟨X.toArray⟩ : ByteArray) ++ ⟨([32, 60, 58, 32] : Bt).toArray⟩ ++ ⟨SX.toArray⟩ = ⟨(X ++ ([32, 60, 58, 32] : Bt) ++ SX).toArray⟩ := by
                        rw [str_append, str_append]
                      exact congrArg Value.string ee
                case rest =>
                  obtain ⟨rfl, hbc⟩ := hcut
                  have hown9 := HOWN.out.below hbc
                  have hbx9 := HBX2.out.trans (hbc.mono HBX2.out.size)
                  clear x1 x2 x3 x4 f2 hbc
                  go_wp2_with (at_builtin; go_must (refine wpList_appS rfl (.tmp 93) (.tmp 95) _ rfl wA.heap.size el_str _ _ rfl rfl (hown9.alloc _) (ss_new wc VX _) (by simp; omega) (le_alloc hbx9.size _) (fun v7 w7 hown7 hg7 hbk7 => ?_)); have HB7 := hid (below_appS (hbx9.alloc hbx9.size _) (hown9.alloc _) hg7 (Nat.le_refl _) (le_alloc hbx9.size _)); have HO7 := hid hown7; obtain ⟨Ax, nx, cx, rfl⟩ := t_sl_shape hown7.ss; clear hown7 hg7 hbk7)
                  go_roundw
                  case rel => exact ⟨i2 + 1, rfl, by omega, by rw [HST.out]; exact HO7.out, HB7.out⟩
                  case measure => simp [intOf]; omega
              · obtain rfl : i2 = nv := by omega
                have hall : (vs.map varS).take i2 = vs.map varS := List.take_of_length_le (by rw [List.length_map, HNV.out]; omega)
                rw [hall] at hown
                obtain ⟨Av, cv, rfl⟩ := t_sl_exact hown.ss (by omega) (m := i2) (by rw [svs_length, List.length_map, HNV.out]; omega)
                have hls := (t_sl_len hown.ss).2
                have HCO := hid (comma_any wr _ (vs.map varS) hown.ss HVL.out)
                have hz8 := sv_size (joinS [44, 32] (vs.map varS))
                generalize joinS [44, 32] (vs.map varS) = J at *
                clear hown hall hbx hlt2
                go_upto_if 99 with (fail)
                clear f2
                go_cut [4] from 48 to 125 (fun v4 wc => v4 = sv (T1 ++ ([102, 110, 32] : Bt) ++ NM ++ VS) ∧ Below wr.heap.size wr wc)
                case first =>
                  by_cases hn0 : i2 = 0
                  · have gk : decide ((0 : Int) < (i2 : Int)) = false := by simp; omega
                    have gk2 : ¬ 0 < i2 := by omega
                    have gk3 : ¬ (0 : Int) < (i2 : Int) := by omega
                    have HV9 : Hid (VS = []) := hid (by rw [HVX.out, if_pos hn0])
                    clear hn0
                    go_wp2_with fail
                    go_meet
                    case rel =>
                      refine ⟨?_, Below.refl _ _⟩
                      rw [HV9.out, List.append_nil]
                      have ee : (⟨T1.toArray⟩ : ByteArray) ++ ⟨([102, 110, 32] : Bt).toArray⟩ ++ ⟨NM.toArray⟩ = ⟨(T1 ++ ([102, 110, 32] : Bt) ++ NM).toArray⟩ := by
                        rw [str_append, str_append]
                      exact congrArg Value.string ee
                  · have gk : decide ((0 : Int) < (i2 : Int)) = true := by simp; omega
                    have gk2 : 0 < i2 := by omega
                    have gk3 : (0 : Int) < (i2 : Int) := by omega
                    have hv9 : VS = ([91] : Bt) ++ J ++ ([93] : Bt) := by rw [HVX.out, if_neg hn0]
                    have hvl := congrArg List.length hv9
                    simp only [List.length_append, List.length_cons, List.length_nil] at hvl
                    have HV9 := hid hv9
                    have q0 : ¬ (9223372036854775807 < T1.length + 3) := by omega
                    have q1 : ¬ (9223372036854775807 < T1.length + 3 + NM.length) := by omega
                    have q2 : ¬ (9223372036854775807 < T1.length + 3 + NM.length + 1) := by omega
                    have q3 : ¬ (9223372036854775807 < T1.length + 3 + NM.length + 1 + J.length) := by omega
                    have q4 : ¬ (9223372036854775807 < T1.length + 3 + NM.length + 1 + J.length + 1) := by omega
                    clear hn0 hv9
                    go_wp2_with fail
                    refine HCO.out.mono ?_
                    rintro e w9 ⟨rfl, hb⟩
                    go_wp2_with fail
                    go_meet
                    case rel =>
                      refine ⟨?_, hb⟩
                      rw [HV9.out]
                      have ee : (⟨T1.toArray⟩ : ByteArray) ++ ⟨([102, 110, 32] : Bt).toArray⟩ ++ ⟨NM.toArray⟩ ++ ⟨([91] : Bt).toArray⟩ ++ ⟨J.toArray⟩ ++ ⟨([93] : Bt).toArray⟩ = ⟨(T1 ++ ([102, 110, 32] : Bt) ++ NM ++ ([91] : Bt) ++ J ++ ([93] : Bt)).toArray⟩ := by
                        rw [str_append, str_append, str_append, str_append, str_append]
                      have e8 : T1 ++ ([102, 110, 32] : Bt) ++ NM ++ ([91] : Bt) ++ J ++ ([93] : Bt) = T1 ++ ([102, 110, 32] : Bt) ++ NM ++ (([91] : Bt) ++ J ++ ([93] : Bt)) := by simp
                      rw [← e8]
                      exact congrArg Value.string ee
                case rest =>
                  obtain ⟨rfl, hbc⟩ := hcut
                  have hbAc := HBX2.out.trans (hbc.mono HBX2.out.size)
                  have HBW := hid (HBA.out.trans (hbAc.mono HBA.out.size))
                  have HRW := hid (HRA.out.trans (hbAc.mono HRA.out.size))
                  obtain ⟨T2, hT2⟩ : ∃ T2, T1 ++ ([102, 110, 32] : Bt) ++ NM ++ VS = T2 := ⟨_, rfl⟩
                  have hl8 := congrArg List.length hT2
                  simp only [List.length_append, List.length_cons, List.length_nil] at hl8
                  rw [hT2]
                  have HT2 := hid hT2
                  have hz10 := sv_size T2
                  obtain ⟨g0, g1, g2, g3, g4, g5, g6, g7, g8, g9, g10, g11, g12, g13, g14⟩ := t_row15 ((hbAc.block _ (block_lt HROW.out)).trans HROW.out)
                  have G3 := hid g3
                  have G4 := hid g4
                  have G5 := hid g5
                  have G6 := hid g6
                  have G7 := hid g7
                  have G8 := hid g8
                  have G9 := hid g9
                  have G10 := hid g10
                  have G11 := hid g11
                  have G12 := hid g12
                  have HB0 : Hid (Below wc.heap.size wc wc.drew) := hid (below_drawn wc 1)
                  have q0 : ¬ (9223372036854775807 < T2.length + 1) := by omega
                  have q1 : ¬ (9223372036854775807 < T2.length + 1 + PM.length) := by omega
                  have q2 : ¬ (9223372036854775807 < T2.length + 1 + PM.length + N0.length) := by omega
                  have q3 : ¬ (9223372036854775807 < T2.length + 1 + PM.length + N0.length + 1) := by omega
                  have q4 : ¬ (9223372036854775807 < T2.length + 1 + PM.length + N0.length + 1 + N1.length) := by omega
                  have q5 : ¬ (9223372036854775807 < T2.length + 1 + PM.length + N0.length + 1 + N1.length + 3) := by omega
                  have q6 : ¬ (9223372036854775807 < T2.length + 1 + PM.length + N0.length + 1 + N1.length + 3 + E.length) := by omega
                  have q7 : ¬ (9223372036854775807 < T2.length + 1 + PM.length + N0.length + 1 + N1.length + 3 + E.length + 2) := by omega
                  clear hbc hbAc hT2 g0 g1 g2 g3 g4 g5 g6 g7 g8 g9 g10 g11 g12 g13 g14
                  go_wp2_with fail
                  refine wp_region_held_drew (S := fun w' => Below wc.heap.size wc w') (by kernel_rfl) HB0.out (fun _ => ?_)
                  try simp only [Act.put, List.getElem_toArray, List.getElem_cons_zero, List.getElem_cons_succ, List.setIfInBounds_toArray, List.set_cons_zero, List.set_cons_succ]
                  refine tk 0 (sv T2) HB0.out ?_
                  refine tk 1 (.string ((⟨T2.toArray⟩ : ByteArray) ++ ⟨#[40]⟩)) HB0.out ?_
                  refine tk 2 (.pointer (some ⟨bD, 3, none⟩)) HB0.out ?_
                  refine tkf 3 (sv PM) (kp1 G3.out) HB0.out ?_
                  refine tk 4 (.string ((⟨T2.toArray⟩ : ByteArray) ++ ⟨#[40]⟩ ++ ⟨PM.toArray⟩)) HB0.out ?_
                  refine tk 5 (.pointer (some ⟨bD, 4, none⟩)) HB0.out ?_
                  refine tkf 6 (.slice A7 nt c7) (kp1 G4.out) HB0.out ?_
                  refine tk 10 (.pointer (some ⟨bD, 4, none⟩)) HB0.out ?_
                  refine tkf 11 (.slice A7 nt c7) (kp1 G4.out) HB0.out ?_
                  refine tk 15 (.pointer (some ⟨bD, 5, none⟩)) HB0.out ?_
                  refine tkf 16 (.agg #[.int .i64 k, .string s, .int .i64 n, .int .i64 l, .int .i64 c, .slice A3 n3 c3, .slice A4 n4 c4, .slice A5 n5 c5]) (kp8 G5.out G6.out G7.out G8.out G9.out G10.out G11.out G12.out) HB0.out ?_
                  refine wpAnyH_ready (rs := [7]) (by kernel_rfl) (by simp) ?_
                  refine AllReadyH.cons rfl (fun K hK => ?_) (AllReadyH.nil)
                  go_simp
                  refine (HN0.out _ (HBW.out.trans (HB0.out.mono HBW.out.size))).mono ?_
                  rintro e wz0 ⟨rfl, hb⟩
                  have HBz0 := hid (HB0.out.trans (hb.mono HB0.out.size))
                  clear hb
                  refine hK.out _ _ HBz0.out (fun _ => ?_)
                  clear hK K
                  try simp only [Act.put, List.getElem_toArray, List.getElem_cons_zero, List.getElem_cons_succ, List.setIfInBounds_toArray, List.set_cons_zero, List.set_cons_succ]
                  refine tk 8 (.string ((⟨T2.toArray⟩ : ByteArray) ++ ⟨#[40]⟩ ++ ⟨PM.toArray⟩ ++ ⟨N0.toArray⟩)) HBz0.out ?_
                  refine tk 9 (.string ((⟨T2.toArray⟩ : ByteArray) ++ ⟨#[40]⟩ ++ ⟨PM.toArray⟩ ++ ⟨N0.toArray⟩ ++ ⟨#[41]⟩)) HBz0.out ?_
                  refine wpAnyH_ready (rs := [12]) (by kernel_rfl) (by simp) ?_
                  refine AllReadyH.cons rfl (fun K hK => ?_) (AllReadyH.nil)
                  go_simp
                  refine (HN1.out _ (HBW.out.trans (HBz0.out.mono HBW.out.size))).mono ?_
                  rintro e wz1 ⟨rfl, hb⟩
                  have HBz1 := hid (HBz0.out.trans (hb.mono HBz0.out.size))
                  clear hb
                  refine hK.out _ _ HBz1.out (fun _ => ?_)
                  clear hK K
                  try simp only [Act.put, List.getElem_toArray, List.getElem_cons_zero, List.getElem_cons_succ, List.setIfInBounds_toArray, List.set_cons_zero, List.set_cons_succ]
                  refine tk 13 (.string ((⟨T2.toArray⟩ : ByteArray) ++ ⟨#[40]⟩ ++ ⟨PM.toArray⟩ ++ ⟨N0.toArray⟩ ++ ⟨#[41]⟩ ++ ⟨N1.toArray⟩)) HBz1.out ?_
                  refine tk 14 (.string ((⟨T2.toArray⟩ : ByteArray) ++ ⟨#[40]⟩ ++ ⟨PM.toArray⟩ ++ ⟨N0.toArray⟩ ++ ⟨#[41]⟩ ++ ⟨N1.toArray⟩ ++ ⟨#[32, 61, 32]⟩)) HBz1.out ?_
                  refine wpAnyH_ready (rs := [17]) (by kernel_rfl) (by simp) ?_
                  refine AllReadyH.cons rfl (fun K hK => ?_) (AllReadyH.nil)
                  go_simp
                  refine (HEX.out _ (HBW.out.trans (HBz1.out.mono HBW.out.size))).mono ?_
                  rintro e wz2 ⟨rfl, hb⟩
                  have HB9 := hid (HBz1.out.trans (hb.mono HBz1.out.size))
                  clear hb
                  refine hK.out _ _ HB9.out (fun _ => ?_)
                  clear hK K
                  try simp only [Act.put, List.getElem_toArray, List.getElem_cons_zero, List.getElem_cons_succ, List.setIfInBounds_toArray, List.set_cons_zero, List.set_cons_succ]
                  refine tk 18 (.string ((⟨T2.toArray⟩ : ByteArray) ++ ⟨#[40]⟩ ++ ⟨PM.toArray⟩ ++ ⟨N0.toArray⟩ ++ ⟨#[41]⟩ ++ ⟨N1.toArray⟩ ++ ⟨#[32, 61, 32]⟩ ++ ⟨E.toArray⟩)) HB9.out ?_
                  refine tk 19 (.string ((⟨T2.toArray⟩ : ByteArray) ++ ⟨#[40]⟩ ++ ⟨PM.toArray⟩ ++ ⟨N0.toArray⟩ ++ ⟨#[41]⟩ ++ ⟨N1.toArray⟩ ++ ⟨#[32, 61, 32]⟩ ++ ⟨E.toArray⟩ ++ ⟨#[59, 10]⟩)) HB9.out ?_
                  refine tk 20 (.string ((⟨T2.toArray⟩ : ByteArray) ++ ⟨#[40]⟩ ++ ⟨PM.toArray⟩ ++ ⟨N0.toArray⟩ ++ ⟨#[41]⟩ ++ ⟨N1.toArray⟩ ++ ⟨#[32, 61, 32]⟩ ++ ⟨E.toArray⟩ ++ ⟨#[59, 10]⟩)) HB9.out ?_
                  refine wpAnyH_done (by kernel_rfl) ?_ _
                  go_wp2_with fail
                  go_roundw
                  case rel =>
                    refine ⟨j + 1, rfl, by omega, ?_, HRW.out.trans (HB9.out.mono HRW.out.size)⟩
                    rw [HFL.out]
                    have ee : (⟨T2.toArray⟩ : ByteArray) ++ ⟨([40] : Bt).toArray⟩ ++ ⟨PM.toArray⟩ ++ ⟨N0.toArray⟩ ++ ⟨([41] : Bt).toArray⟩ ++ ⟨N1.toArray⟩ ++ ⟨([32, 61, 32] : Bt).toArray⟩ ++ ⟨E.toArray⟩ ++ ⟨([59, 10] : Bt).toArray⟩ = ⟨(T2 ++ ([40] : Bt) ++ PM ++ N0 ++ ([41] : Bt) ++ N1 ++ ([32, 61, 32] : Bt) ++ E ++ ([59, 10] : Bt)).toArray⟩ := by
                      rw [str_append, str_append, str_append, str_append, str_append, str_append, str_append, str_append]
                    have e8 : T2 ++ ([40] : Bt) ++ PM ++ N0 ++ ([41] : Bt) ++ N1 ++ ([32, 61, 32] : Bt) ++ E ++ ([59, 10] : Bt) = T ++ (expS ex ++ (([102, 110, 32] : Bt) ++ NM ++ VS ++ ([40] : Bt) ++ PM ++ N0 ++ ([41] : Bt) ++ N1 ++ ([32, 61, 32] : Bt) ++ E ++ ([59, 10] : Bt))) := by
                      rw [← HT2.out, ← HT1.out]
                      simp
                    rw [← e8]
                    exact congrArg Value.string ee
                  case measure => simp [intOf]; omega
        · obtain rfl : j = d := by omega
          rw [List.take_of_length_le (by rw [HD.out]; omega)]
          clear hbr hlt
          go_wp2_with fail
          go_ret
          exact ⟨rfl, HB1.out.trans (HBR2.out.mono HB1.out.size)⟩
end Go.Proofs.YtbpedjkebemhnaaGreatDoor
end
