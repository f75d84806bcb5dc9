/- UN6, UN7, UN9 -/
import Derived.Test.YtbpedjkebemhnaaGreatDoorSD10
import Derived.Test.YtbpedjkebemhnaaGreatDoorSD11
import Derived.Test.YtbpedjkebemhnaaGreatDoorSD12
import Derived.Test.YtbpedjkebemhnaaGreatDoorSD13
import Derived.Test.YtbpedjkebemhnaaGreatDoorSD14
import Derived.Test.YtbpedjkebemhnaaGreatDoorSD15
set_option linter.unusedSimpArgs false
set_option linter.unusedVariables false
section
/- An expression as text: a record. -/
set_option linter.unusedVariables false
namespace Go.Proofs.YtbpedjkebemhnaaGreatDoor
open Go.RowKit

set_option maxRecDepth 100000 in
set_option maxHeartbeats 8000000 in
theorem expr_k8 (text : Bt) (n li co : Int) (ts : List TyD) (ns : List Bt) (ks : List NoD) (ih : ∀ y ∈ ks, ExC y) : ExC (.mk 8 text n li co ts ns ks) := by
  intro w z m hr hok hnd hc hX
  have hlen := expr_len _ m hnd
  obtain ⟨q, rfl, hk20, hown, hns, hts, hkk⟩ := node_open hnd
  rw [own_kids, Bool.and_eq_true, Bool.and_eq_true, Bool.and_eq_true, Bool.and_eq_true, decide_eq_true_eq, decide_eq_true_eq, decide_eq_true_eq, decide_eq_true_eq] at hown
  obtain ⟨⟨⟨⟨hn0, hn1⟩, htx⟩, hlo, hhi⟩, hkn, hkd⟩ := hown
  have htl := text_len htx
  rw [okN] at hok
  obtain ⟨ok1, ok2, ok3, ok4, ok5, ok6, ok7, ok8⟩ := hok
  obtain ⟨A1, c1, A2, c2, A3, c3, xt, xk, rfl, s1, r1, s2, s3, r3⟩ := hr.parts
  have l1 := (t_sl_len s1).2
  have l2 := (t_sl_len s2).2
  have l3 := (t_sl_len s3).2
  rw [exprS] at hlen ⊢
  rw [cntN] at hc hlen
  have hcT : cntTs ts ≤ 100000 := by omega
  have hcK : cntNs ks ≤ 100000 := by omega
  have hdc : ks.length ≤ 100000 := Nat.le_trans (cntNs_len ks) hcK
  obtain ⟨S, hS⟩ : ∃ S, exprSs ks = S := ⟨_, rfl⟩
  have hSL0 : S.length = ks.length := by rw [← hS, exprSs_length]
  have HSG : Hid (∀ (i : Nat) (h : i < ks.length) (h2 : i < S.length), S[i] = exprS ks[i]) := hid (by
    intro i h h2
    subst hS
    simp [exprSs_map])
  rw [hS] at hlen ⊢
  have HKK := hid (And.intro s3 r3)
  have HTT := hid (And.intro s1 r1)
  have HSS := hid s2
  have HIH := hid ih
  have HOK := hid (okNs_mem.1 ok8)
  have HNK := hid hkk
  have HCK := hid hcK
  have HCT := hid hcT
  have HTS := hid hts
  have HNS := hid hns
  have HX := hid hX
  have hn64 := ok3
  clear hr s1 r1 s2 s3 r3 ih ok1 ok2 ok3 ok4 ok5 ok6 ok7 ok8 hkk hts hns hX hS hnd hk20
  obtain ⟨a, hA⟩ : ∃ a, ts.length = a := ⟨_, rfl⟩
  obtain ⟨b, hB⟩ : ∃ b, ns.length = b := ⟨_, rfl⟩
  obtain ⟨d, hD⟩ : ∃ d, ks.length = d := ⟨_, rfl⟩
  rw [hA] at l1 HTT hlo hhi
  rw [hB] at l2 HSS hkn hkd
  rw [hD] at l3 HKK hkd hdc hSL0
  rw [hA, hB, hD]
  have HA := hid hA
  have HBN := hid hB
  have HD := hid hD
  have HSL := hid hSL0
  clear hA hB hD
  have hd0 : d = b := by
    have h : (hasD 8).kids = -1 := rfl
    rw [h] at hkd
    unfold kidsOf at hkd
    rw [if_pos (by decide)] at hkd
    omega
  have HDB := hid hd0
  clear hkd hkn hd0
  have HSE := hid (fun (i : Nat) (h : i < ks.length) => expr_len ks[i] q (HNK.out _ (List.getElem_mem h)))
  obtain ⟨OB, hOB⟩ : ∃ OB, Obj.cells #[.int .i64 8, sv text, .int .i64 n, .int .i64 li, .int .i64 co, .slice A1 a c1, .slice A2 b c2, .slice A3 d c3] 26 (0, 0) = OB := ⟨_, rfl⟩
  obtain ⟨W, hW⟩ : ∃ W, (w.alloc (.cells #[.int .i64 8, sv text, .int .i64 n, .int .i64 li, .int .i64 co, .slice A1 a c1, .slice A2 b c2, .slice A3 d c3] 26)).alloc (.cells #[.slice none 0 0] 23) = W := ⟨_, rfl⟩
  have HST0 : Hid (ExAt w W OB (.slice none 0 0) (S.take 0)) := hid (by
    rw [← hW, ← hOB]
    exact ⟨(two_new w _ _).2, OwnS.nil _ _ _, (two_new w _ _).1, ((Below.refl _ _).alloc (Nat.le_refl _) _).alloc (by simp) _⟩)
  have HOB := hid hOB
  have HWE := hid hW
  clear hW hOB
  go_enter Tryz.func33, Tryz.ntmps33
  go_wp2_with fail
  have hW := HWE.out
  rw [hW]
  clear hW
  go_loopw [10] (fun v10 wr => ∃ (i : Nat) (v : Value), v10 = .int .i64 i ∧ i ≤ d ∧ ExAt w wr OB v (S.take i)) (fun v10 _ => d - (intOf v10).toNat)
  case atStart => exact ⟨0, _, rfl, by omega, HST0.out⟩
  case round =>
    obtain ⟨i, v, rfl, hi_, hat⟩ := hrel
    have HEX0 := hid hat
    clear hat
    by_cases hlt : i < d
    · have hil : i < ks.length := by rw [HD.out]; exact hlt
      have hiS : i < S.length := by rw [HSL.out]; exact hlt
      have hbr := HEX0.out.below
      obtain ⟨b2, o2, kk, ss, y2, y3, y4, A5, n5, c5, A6, n6, c6, A7, n7, c7, hA3, hr1, e0, e1, e2, e3, e4, e5, e6, e7⟩ := node_at (Sl.more (Sl.below HKK.out.1 hbr) hbr.size) ((HKK.out.2.keep hbr).more hbr.size) hil HD.out.symm
      obtain ⟨wA, hwA⟩ : ∃ wA, wr.alloc (.cells #[.int .i64 kk, .string ss, .int .i64 y2, .int .i64 y3, .int .i64 y4, .slice A5 n5 c5, .slice A6 n6 c6, .slice A7 n7 c7] 26) = wA := ⟨_, rfl⟩
      have hbA : Below wr.heap.size wr wA := by rw [← hwA]; exact (Below.refl _ _).alloc (Nat.le_refl _) _
      have hsA : wA.heap[wr.heap.size]? = some (.cells #[.int .i64 kk, .string ss, .int .i64 y2, .int .i64 y3, .int .i64 y4, .slice A5 n5 c5, .slice A6 n6 c6, .slice A7 n7 c7] 26 (0, 0)) := by rw [← hwA]; exact heap_alloc_new wr _
      have HE := hid (fun w1 (h : Below wA.heap.size wA w1) => HIH.out ks[i] (List.getElem_mem hil) w1 _ q (hr1.far (Nat.le_refl _) (hbA.trans (h.mono hbA.size))) (HOK.out _ (List.getElem_mem hil)) (HNK.out _ (List.getElem_mem hil)) (Nat.le_trans (cntN_mem (List.getElem_mem hil)) HCK.out) ((HX.out.below hbr).below (hbA.trans (h.mono hbA.size))))
      rw [← HSG.out i hil hiS] at HE
      have HST := hid (t_take hiS)
      have HLT : Hid (∀ g, v.ownBlock = some g → g < wr.heap.size) := hid (fun g hg => (HEX0.out.own.lt g hg).2)
      have HBD : Hid (Below wA.heap.size wA wA.drew) := hid (below_drawn wA 1)
      have HBW : Hid (Below wr.heap.size wr wA.drew) := hid (hbA.trans (HBD.out.mono hbA.size))
      have HSD : Hid (wA.drew.heap[wr.heap.size]? = some (.cells #[.int .i64 kk, .string ss, .int .i64 y2, .int .i64 y3, .int .i64 y4, .slice A5 n5 c5, .slice A6 n6 c6, .slice A7 n7 c7] 26 (0, 0))) := hid hsA
      have gk := (HEX0.out.far HBW.out).cell
      have hA := hid hwA
      obtain ⟨Av, nv, cv, rfl⟩ := t_sl_shape HEX0.out.own.ss
      generalize S[i] = X at *
      generalize ks[i] = kx at *
      clear hbr hr1 hbA hsA hil hwA
      subst hA3
      go_wp2_with fail
      have hwA := hA.out
      rw [hwA]
      clear hwA e0 e1 e2 e3 e4 e5 e6 e7
      refine wp_region_held_drew (S := fun w' => w'.heap[wr.heap.size]? = some (.cells #[.int .i64 kk, .string ss, .int .i64 y2, .int .i64 y3, .int .i64 y4, .slice A5 n5 c5, .slice A6 n6 c6, .slice A7 n7 c7] 26 (0, 0))) (by kernel_rfl) HSD.out (fun _ => ?_)
      try simp only [Act.put, List.getElem_toArray, List.getElem_cons_zero, List.getElem_cons_succ, List.setIfInBounds_toArray, List.set_cons_zero, List.set_cons_succ]
      refine wpAnyH_take (i := 1) (v := (.agg #[.int .i64 kk, .string ss, .int .i64 y2, .int .i64 y3, .int .i64 y4, .slice A5 n5 c5, .slice A6 n6 c6, .slice A7 n7 c7])) rfl (by kernel_rfl) (by kernel_rfl) (by kernel_rfl) (fun _ _ _ h => h) (Or.inl ⟨by kernel_rfl, by intro w' hSw; obtain ⟨u0, u1, u2, u3, u4, u5, u6, u7⟩ := t_row8 hSw; go_simp⟩) HSD.out ?_
      try simp only [Act.put, List.getElem_toArray, List.getElem_cons_zero, List.getElem_cons_succ, List.setIfInBounds_toArray, List.set_cons_zero, List.set_cons_succ]
      refine wpAnyH_ready (rs := [0, 2]) (by kernel_rfl) (by simp) ?_
      refine AllReadyH.cons rfl (fun K hK => ?_) (AllReadyH.cons rfl (fun K hK => ?_) AllReadyH.nil)
      · go_simp
        refine hK.out _ _ HSD.out (fun _ => ?_)
        clear hK K
        try simp only [Act.put, List.getElem_toArray, List.getElem_cons_zero, List.getElem_cons_succ, List.setIfInBounds_toArray, List.set_cons_zero, List.set_cons_succ]
        refine wpAnyH_ready (rs := [2]) (by kernel_rfl) (by simp) ?_
        refine AllReadyH.cons rfl (fun K hK => ?_) AllReadyH.nil
        go_simp
        refine (HE.out _ HBD.out).mono ?_
        rintro e w2 ⟨rfl, hb⟩
        have hbr2 := HBW.out.trans (hb.mono HBW.out.size)
        have HEX2 := hid (HEX0.out.far hbr2)
        have HS2 := hid ((hb.block _ (block_lt HSD.out)).trans HSD.out)
        clear hb hbr2
        refine hK.out _ _ HS2.out (fun _ => ?_)
        clear hK K
        try simp only [Act.put, List.getElem_toArray, List.getElem_cons_zero, List.getElem_cons_succ, List.setIfInBounds_toArray, List.set_cons_zero, List.set_cons_succ]
        refine wpAnyH_ready (rs := [3]) (by kernel_rfl) (by simp) ?_
        refine AllReadyH.cons rfl (fun K hK => ?_) AllReadyH.nil
        go_simp
        have HS3 := hid ((((Below.refl w2.heap.size w2).alloc (Nat.le_refl _) (.cells #[sv X] 9)).block _ (block_lt HS2.out)).trans HS2.out)
        refine hK.out _ _ HS3.out (fun _ => ?_)
        clear hK K
        try simp only [Act.put, List.getElem_toArray, List.getElem_cons_zero, List.getElem_cons_succ, List.setIfInBounds_toArray, List.set_cons_zero, List.set_cons_succ]
        refine wpAnyH_ready (rs := [4]) (by kernel_rfl) (by simp) ?_
        refine AllReadyH.cons rfl (fun K hK => ?_) AllReadyH.nil
        refine step_appS rfl (.tmp 14) (.tmp 17) _ rfl (w.heap.size + 2) el_str _ _ rfl rfl (HEX2.out.own.alloc _) (ss_new w2 X _) (by simp; omega) (by have := block_lt HEX2.out.box; rw [World.size_alloc]; omega) (fun v4 w4 hown4 hg4 hbk4 => ?_)
        obtain ⟨g4, c4, n4, rfl⟩ := own_shape hown4 (by simp)
        rw [← HST.out] at hown4
        obtain ⟨x1, x2, x3⟩ := (HEX2.out.far ((Below.refl _ _).alloc (Nat.le_refl _) _)).grown hown4 hg4
        have HS4 := hid ((hg4.block _ (block_lt HS3.out) (by intro e; have := HLT.out _ e.symm; omega)).trans HS3.out)
        have X3 := hid x3
        have HS5 := hid (block_turn HS4.out (turn_set w4 (w.heap.size + 1) 0 (.slice (some ⟨g4, 0, none⟩) n4 c4)) (by have := block_lt HEX0.out.box; omega))
        clear x3 hown4 hg4 hbk4
        refine hK.out _ _ HS4.out (fun _ => ?_)
        clear hK K
        try simp only [Act.put, List.getElem_toArray, List.getElem_cons_zero, List.getElem_cons_succ, List.setIfInBounds_toArray, List.set_cons_zero, List.set_cons_succ]
        refine wpAnyH_ready (rs := [5]) (by kernel_rfl) (by simp) ?_
        refine AllReadyH.cons rfl (fun K hK => ?_) AllReadyH.nil
        go_simp
        refine hK.out _ _ HS5.out (fun _ => ?_)
        clear hK K
        try simp only [Act.put, List.getElem_toArray, List.getElem_cons_zero, List.getElem_cons_succ, List.setIfInBounds_toArray, List.set_cons_zero, List.set_cons_succ]
        refine wpAnyH_done (by kernel_rfl) ?_ _
        go_wp2_with fail
        go_roundw
        case rel => exact ⟨i + 1, _, rfl, by omega, X3.out⟩
        case measure => simp [intOf]; omega
      · go_simp
        refine (HE.out _ HBD.out).mono ?_
        rintro e w2 ⟨rfl, hb⟩
        have hbr2 := HBW.out.trans (hb.mono HBW.out.size)
        have HEX2 := hid (HEX0.out.far hbr2)
        have HS2 := hid ((hb.block _ (block_lt HSD.out)).trans HSD.out)
        clear hb hbr2
        have gk2 := HEX2.out.cell
        refine hK.out _ _ HS2.out (fun _ => ?_)
        clear hK K
        try simp only [Act.put, List.getElem_toArray, List.getElem_cons_zero, List.getElem_cons_succ, List.setIfInBounds_toArray, List.set_cons_zero, List.set_cons_succ]
        refine wpAnyH_ready (rs := [0, 3]) (by kernel_rfl) (by simp) ?_
        refine AllReadyH.cons rfl (fun K hK => ?_) (AllReadyH.cons rfl (fun K hK => ?_) AllReadyH.nil)
        · go_simp
          refine hK.out _ _ HS2.out (fun _ => ?_)
          clear hK K
          try simp only [Act.put, List.getElem_toArray, List.getElem_cons_zero, List.getElem_cons_succ, List.setIfInBounds_toArray, List.set_cons_zero, List.set_cons_succ]
          refine wpAnyH_ready (rs := [3]) (by kernel_rfl) (by simp) ?_
          refine AllReadyH.cons rfl (fun K hK => ?_) AllReadyH.nil
          go_simp
          have HS3 := hid ((((Below.refl w2.heap.size w2).alloc (Nat.le_refl _) (.cells #[sv X] 9)).block _ (block_lt HS2.out)).trans HS2.out)
          refine hK.out _ _ HS3.out (fun _ => ?_)
          clear hK K
          try simp only [Act.put, List.getElem_toArray, List.getElem_cons_zero, List.getElem_cons_succ, List.setIfInBounds_toArray, List.set_cons_zero, List.set_cons_succ]
          refine wpAnyH_ready (rs := [4]) (by kernel_rfl) (by simp) ?_
          refine AllReadyH.cons rfl (fun K hK => ?_) AllReadyH.nil
          refine step_appS rfl (.tmp 14) (.tmp 17) _ rfl (w.heap.size + 2) el_str _ _ rfl rfl (HEX2.out.own.alloc _) (ss_new w2 X _) (by simp; omega) (by have := block_lt HEX2.out.box; rw [World.size_alloc]; omega) (fun v4 w4 hown4 hg4 hbk4 => ?_)
          obtain ⟨g4, c4, n4, rfl⟩ := own_shape hown4 (by simp)
          rw [← HST.out] at hown4
          obtain ⟨x1, x2, x3⟩ := (HEX2.out.far ((Below.refl _ _).alloc (Nat.le_refl _) _)).grown hown4 hg4
          have HS4 := hid ((hg4.block _ (block_lt HS3.out) (by intro e; have := HLT.out _ e.symm; omega)).trans HS3.out)
          have X3 := hid x3
          have HS5 := hid (block_turn HS4.out (turn_set w4 (w.heap.size + 1) 0 (.slice (some ⟨g4, 0, none⟩) n4 c4)) (by have := block_lt HEX0.out.box; omega))
          clear x3 hown4 hg4 hbk4
          refine hK.out _ _ HS4.out (fun _ => ?_)
          clear hK K
          try simp only [Act.put, List.getElem_toArray, List.getElem_cons_zero, List.getElem_cons_succ, List.setIfInBounds_toArray, List.set_cons_zero, List.set_cons_succ]
          refine wpAnyH_ready (rs := [5]) (by kernel_rfl) (by simp) ?_
          refine AllReadyH.cons rfl (fun K hK => ?_) AllReadyH.nil
          go_simp
          refine hK.out _ _ HS5.out (fun _ => ?_)
          clear hK K
          try simp only [Act.put, List.getElem_toArray, List.getElem_cons_zero, List.getElem_cons_succ, List.setIfInBounds_toArray, List.set_cons_zero, List.set_cons_succ]
          refine wpAnyH_done (by kernel_rfl) ?_ _
          go_wp2_with fail
          go_roundw
          case rel => exact ⟨i + 1, _, rfl, by omega, X3.out⟩
          case measure => simp [intOf]; omega
        · go_simp
          have HS3 := hid ((((Below.refl w2.heap.size w2).alloc (Nat.le_refl _) (.cells #[sv X] 9)).block _ (block_lt HS2.out)).trans HS2.out)
          have gk3 := (HEX2.out.far ((Below.refl w2.heap.size w2).alloc (Nat.le_refl _) (.cells #[sv X] 9))).cell
          refine hK.out _ _ HS3.out (fun _ => ?_)
          clear hK K
          try simp only [Act.put, List.getElem_toArray, List.getElem_cons_zero, List.getElem_cons_succ, List.setIfInBounds_toArray, List.set_cons_zero, List.set_cons_succ]
          refine wpAnyH_ready (rs := [0]) (by kernel_rfl) (by simp) ?_
          refine AllReadyH.cons rfl (fun K hK => ?_) AllReadyH.nil
          go_simp
          refine hK.out _ _ HS3.out (fun _ => ?_)
          clear hK K
          try simp only [Act.put, List.getElem_toArray, List.getElem_cons_zero, List.getElem_cons_succ, List.setIfInBounds_toArray, List.set_cons_zero, List.set_cons_succ]
          refine wpAnyH_ready (rs := [4]) (by kernel_rfl) (by simp) ?_
          refine AllReadyH.cons rfl (fun K hK => ?_) AllReadyH.nil
          refine step_appS rfl (.tmp 14) (.tmp 17) _ rfl (w.heap.size + 2) el_str _ _ rfl rfl (HEX2.out.own.alloc _) (ss_new w2 X _) (by simp; omega) (by have := block_lt HEX2.out.box; rw [World.size_alloc]; omega) (fun v4 w4 hown4 hg4 hbk4 => ?_)
          obtain ⟨g4, c4, n4, rfl⟩ := own_shape hown4 (by simp)
          rw [← HST.out] at hown4
          obtain ⟨x1, x2, x3⟩ := (HEX2.out.far ((Below.refl _ _).alloc (Nat.le_refl _) _)).grown hown4 hg4
          have HS4 := hid ((hg4.block _ (block_lt HS3.out) (by intro e; have := HLT.out _ e.symm; omega)).trans HS3.out)
          have X3 := hid x3
          have HS5 := hid (block_turn HS4.out (turn_set w4 (w.heap.size + 1) 0 (.slice (some ⟨g4, 0, none⟩) n4 c4)) (by have := block_lt HEX0.out.box; omega))
          clear x3 hown4 hg4 hbk4
          refine hK.out _ _ HS4.out (fun _ => ?_)
          clear hK K
          try simp only [Act.put, List.getElem_toArray, List.getElem_cons_zero, List.getElem_cons_succ, List.setIfInBounds_toArray, List.set_cons_zero, List.set_cons_succ]
          refine wpAnyH_ready (rs := [5]) (by kernel_rfl) (by simp) ?_
          refine AllReadyH.cons rfl (fun K hK => ?_) AllReadyH.nil
          go_simp
          refine hK.out _ _ HS5.out (fun _ => ?_)
          clear hK K
          try simp only [Act.put, List.getElem_toArray, List.getElem_cons_zero, List.getElem_cons_succ, List.setIfInBounds_toArray, List.set_cons_zero, List.set_cons_succ]
          refine wpAnyH_done (by kernel_rfl) ?_ _
          go_wp2_with fail
          go_roundw
          case rel => exact ⟨i + 1, _, rfl, by omega, X3.out⟩
          case measure => simp [intOf]; omega
    · obtain rfl : i = d := by omega
      have hex := HEX0.out
      rw [List.take_of_length_le (by rw [HSL.out]; omega)] at hex
      have hbr := hex.below
      obtain ⟨g0, g1, g2, g3, g4, g5, g6, g7⟩ := t_row8 (hex.node.trans (congrArg some HOB.out.symm))
      have gb := hex.cell
      have hown := hex.own
      have HBR := hid hbr
      have hknode := hex.node.trans (congrArg some HOB.out.symm)
      clear hlt HEX0 hex
      have hsl := HSL.out
      have hd0 := HDB.out
      obtain ⟨Lf, hLf⟩ : ∃ Lf, List.zipWith fieldS ns S = Lf := ⟨_, rfl⟩
      have hll : Lf.length = i := by rw [← hLf, List.length_zipWith, HBN.out, hsl]; omega
      have HT : Hid (nodeS 8 text n ts ns S = ([123] : Bt) ++ joinS [44, 32] Lf ++ ([125] : Bt)) := hid (by rw [← hLf]; simp [nodeS, cat])
      rw [HT.out] at hlen
      simp only [List.length_append, List.length_cons, List.length_nil] at hlen
      have hF : ∀ (j : Nat) (hj : j < Lf.length) (w1 : World), Below wr.heap.size wr w1 → Calls Tryz.prog 73 (#[.int .i64 (j : Int)] ++ #[.pointer (some ⟨w.heap.size, 0, none⟩), .pointer (some ⟨w.heap.size + 1, 0, none⟩)]) w1 fun e w2 => e = .returned (sv Lf[j]) ∧ Below w1.heap.size w1 w2 := by
        intro j hj w1 hb
        have hji : j < i := by omega
        have hjS : j < S.length := by omega
        have hjn : j < ns.length := by rw [HBN.out]; omega
        have hjk : j < ks.length := by rw [HD.out]; exact hji
        obtain ⟨g, c, rfl, hgb, hgl, hgc, hgm⟩ := own_form hown.row (by omega)
        have hget : Lf[j] = fieldS ns[j] S[j] := by subst hLf; rw [List.getElem_zipWith]
        rw [hget]
        have hown1 := hown.below hb
        have hgb1 := kp hb gb
        have h1 := HSE.out j hjk
        have h2 := HSG.out j hjk hjS
        have h3 := cntN_mem (List.getElem_mem hjk)
        have h4 := HCK.out
        have hS2 := Sl.more (Sl.below HSS.out (hbr.trans (hb.mono hbr.size))) (Nat.le_trans hbr.size hb.size)
        rw [hsl] at hgb1 hown1
        exact expr1_any w1 w.heap.size (w.heap.size + 1) 8 text n li co A1 a c1 A2 b c2 A3 i c3 g i c ns S ((hb.block _ (block_lt hknode)).trans hknode) hgb1 hS2 (fun j2 hj2 => hown1.cell j2 hj2) (by omega) (by omega) HBN.out.symm j hjS hjn (HNS.out _ (List.getElem_mem hjn)) (by rw [h2]; omega)
      have HL := list_any 73 (fun _ _ => by kernel_rfl) #[.pointer (some ⟨w.heap.size, 0, none⟩), .pointer (some ⟨w.heap.size + 1, 0, none⟩)] Lf wr (by omega) (by omega) hF
      rw [hll] at HL
      obtain ⟨Av, cv, rfl⟩ := t_sl_exact hown.ss (by omega) (m := i) (by rw [svs_length]; omega)
      have HL := hid HL
      generalize joinS [44, 32] Lf = s at *
      have hz := sv_size s
      have q1 : ¬ (9223372036854775807 < 1 + s.length) := by omega
      have q2 : ¬ (9223372036854775807 < 1 + s.length + 1) := by omega
      have hmf : ∀ (fn : Fn) (first cap : Array Value) (w : World), (Instr.makeFunc fn first cap).run Tryz.prog w = .ok (.func fn first cap) w := fun _ _ _ _ => rfl
      clear hF hown hbr hlen hll hLf hsl hd0 hknode
      go_wp2_with fail
      refine HL.out.mono ?_
      rintro e w2 ⟨rfl, hb⟩
      go_wp2_with fail
      go_ret
      refine ⟨?_, HBR.out.trans (hb.mono HBR.out.size)⟩
      rw [HT.out]
      have e : (⟨([123] : Bt).toArray⟩ : ByteArray) ++ ⟨s.toArray⟩ ++ ⟨([125] : Bt).toArray⟩ = ⟨([123] ++ s ++ [125]).toArray⟩ := by
        rw [str_append, str_append]
      exact congrArg (fun b => Ending.returned (Value.string b)) e
end Go.Proofs.YtbpedjkebemhnaaGreatDoor
end
section
/- An expression as text: simple kinds. -/
set_option linter.unusedVariables false
namespace Go.Proofs.YtbpedjkebemhnaaGreatDoor
open Go.RowKit

set_option maxRecDepth 100000 in
set_option maxHeartbeats 8000000 in
theorem expr_simple (k : Int) (hk : k = 0 ∨ k = 1 ∨ k = 2 ∨ k = 3 ∨ k = 4 ∨ k = 18 ∨ k = 19) (text : Bt) (n li co : Int) (ts : List TyD) (ns : List Bt) (ks : List NoD) (ih : ∀ y ∈ ks, ExC y) : ExC (.mk k text n li co ts ns ks) := by
  intro w z m hr hok hnd hc hX
  have hlen := expr_len _ m hnd
  obtain ⟨q, rfl, hk20, hown, hns, hts, hkk⟩ := node_open hnd
  rw [own_kids, Bool.and_eq_true, Bool.and_eq_true, Bool.and_eq_true, Bool.and_eq_true, decide_eq_true_eq, decide_eq_true_eq, decide_eq_true_eq, decide_eq_true_eq] at hown
  obtain ⟨⟨⟨⟨hn0, hn1⟩, htx⟩, hlo, hhi⟩, hkn, hkd⟩ := hown
  have htl := text_len htx
  rw [okN] at hok
  obtain ⟨ok1, ok2, ok3, ok4, ok5, ok6, ok7, ok8⟩ := hok
  obtain ⟨A1, c1, A2, c2, A3, c3, xt, xk, rfl, s1, r1, s2, s3, r3⟩ := hr.parts
  have l1 := (t_sl_len s1).2
  have l2 := (t_sl_len s2).2
  have l3 := (t_sl_len s3).2
  rw [exprS] at hlen ⊢
  rw [cntN] at hc hlen
  have hcT : cntTs ts ≤ 100000 := by omega
  have hcK : cntNs ks ≤ 100000 := by omega
  have hdc : ks.length ≤ 100000 := Nat.le_trans (cntNs_len ks) hcK
  obtain ⟨S, hS⟩ : ∃ S, exprSs ks = S := ⟨_, rfl⟩
  have hSL0 : S.length = ks.length := by rw [← hS, exprSs_length]
  have HSG : Hid (∀ (i : Nat) (h : i < ks.length) (h2 : i < S.length), S[i] = exprS ks[i]) := hid (by
    intro i h h2
    subst hS
    simp [exprSs_map])
  rw [hS] at hlen ⊢
  have HKK := hid (And.intro s3 r3)
  have HR := hid hr
  have HTT := hid (And.intro s1 r1)
  have HSS := hid s2
  have HIH := hid ih
  have HOK := hid (okNs_mem.1 ok8)
  have HNK := hid hkk
  have HCK := hid hcK
  have HCT := hid hcT
  have HTS := hid hts
  have HNS := hid hns
  have HX := hid hX
  have hn64 := ok3
  clear hr s1 r1 s2 s3 r3 ih ok1 ok2 ok3 ok4 ok5 ok6 ok7 ok8 hkk hts hns hX hS hnd hk20
  obtain ⟨a, hA⟩ : ∃ a, ts.length = a := ⟨_, rfl⟩
  obtain ⟨b, hB⟩ : ∃ b, ns.length = b := ⟨_, rfl⟩
  obtain ⟨d, hD⟩ : ∃ d, ks.length = d := ⟨_, rfl⟩
  rw [hA] at l1 HTT hlo hhi
  rw [hB] at l2 HSS hkn hkd
  rw [hD] at l3 HKK hkd hdc hSL0
  rw [hA, hB, hD] at HR
  rw [hA, hB, hD]
  have HA := hid hA
  have HBN := hid hB
  have HD := hid hD
  have HSL := hid hSL0
  clear hA hB hD
  have hk0 : (hasD k).kids = 0 := by rcases hk with rfl | rfl | rfl | rfl | rfl | rfl | rfl <;> rfl
  have hd0 : d = 0 := by
    rw [hk0] at hkd
    unfold kidsOf at hkd
    rw [if_neg (by decide)] at hkd
    omega
  have h2 : k = 2 → n = 0 ∨ n = 1 := by
    intro h
    subst h
    have h5 : (hasD 2).most = 1 := rfl
    omega
  have HT : Hid (nodeS k text n ts ns S = simpleS k text n ts) := hid (by rcases hk with rfl | rfl | rfl | rfl | rfl | rfl | rfl <;> rfl)
  have HKK0 := hid hk
  have H2 := hid h2
  have HTL := hid htl
  have HN64 := hid hn64
  have q7 : (k == 7) = false := by rw [beq_eq_false_iff_ne]; rcases hk with rfl | rfl | rfl | rfl | rfl | rfl | rfl <;> decide
  have q9 : (k == 9) = false := by rw [beq_eq_false_iff_ne]; rcases hk with rfl | rfl | rfl | rfl | rfl | rfl | rfl <;> decide
  have q10 : (k == 10) = false := by rw [beq_eq_false_iff_ne]; rcases hk with rfl | rfl | rfl | rfl | rfl | rfl | rfl <;> decide
  have q8 : (k == 8) = false := by rw [beq_eq_false_iff_ne]; rcases hk with rfl | rfl | rfl | rfl | rfl | rfl | rfl <;> decide
  have q17 : (k == 17) = false := by rw [beq_eq_false_iff_ne]; rcases hk with rfl | rfl | rfl | rfl | rfl | rfl | rfl <;> decide
  have q5 : (k == 5) = false := by rw [beq_eq_false_iff_ne]; rcases hk with rfl | rfl | rfl | rfl | rfl | rfl | rfl <;> decide
  have q6 : (k == 6) = false := by rw [beq_eq_false_iff_ne]; rcases hk with rfl | rfl | rfl | rfl | rfl | rfl | rfl <;> decide
  have q11 : (k == 11) = false := by rw [beq_eq_false_iff_ne]; rcases hk with rfl | rfl | rfl | rfl | rfl | rfl | rfl <;> decide
  have q12 : (k == 12) = false := by rw [beq_eq_false_iff_ne]; rcases hk with rfl | rfl | rfl | rfl | rfl | rfl | rfl <;> decide
  have q13 : (k == 13) = false := by rw [beq_eq_false_iff_ne]; rcases hk with rfl | rfl | rfl | rfl | rfl | rfl | rfl <;> decide
  have q14 : (k == 14) = false := by rw [beq_eq_false_iff_ne]; rcases hk with rfl | rfl | rfl | rfl | rfl | rfl | rfl <;> decide
  have q15 : (k == 15) = false := by rw [beq_eq_false_iff_ne]; rcases hk with rfl | rfl | rfl | rfl | rfl | rfl | rfl <;> decide
  have q16 : (k == 16) = false := by rw [beq_eq_false_iff_ne]; rcases hk with rfl | rfl | rfl | rfl | rfl | rfl | rfl <;> decide
  subst hd0
  clear hk hk0 hkd hkn h2 htx hlo hhi hn0 hn1 hn64 HKK HIH HOK HNK HCK HSG
  obtain ⟨OB, hOB⟩ : ∃ OB, Obj.cells #[.int .i64 k, sv text, .int .i64 n, .int .i64 li, .int .i64 co, .slice A1 a c1, .slice A2 b c2, .slice A3 0 c3] 26 (0, 0) = OB := ⟨_, rfl⟩
  obtain ⟨W, hW⟩ : ∃ W, (w.alloc (.cells #[.int .i64 k, sv text, .int .i64 n, .int .i64 li, .int .i64 co, .slice A1 a c1, .slice A2 b c2, .slice A3 0 c3] 26)).alloc (.cells #[.slice none 0 0] 23) = W := ⟨_, rfl⟩
  have HST0 : Hid (ExAt w W OB (.slice none 0 0) (S.take 0)) := hid (by
    rw [← hW, ← hOB]
    exact ⟨(two_new w _ _).2, OwnS.nil _ _ _, (two_new w _ _).1, ((Below.refl _ _).alloc (Nat.le_refl _) _).alloc (by simp) _⟩)
  have HOB := hid hOB
  have HWE := hid hW
  clear hW hOB
  go_enter Tryz.func33, Tryz.ntmps33
  go_wp2_with fail
  have hW := HWE.out
  rw [hW]
  clear hW
  go_loopw [10] (fun v10 wr => v10 = .int .i64 0 ∧ wr = W) (fun _ _ => 0)
  case atStart => exact ⟨rfl, rfl⟩
  case round =>
    obtain ⟨rfl, rfl⟩ := hrel
    have hat := HST0.out
    have hbr := hat.below
    obtain ⟨g0, g1, g2, g3, g4, g5, g6, g7⟩ := t_row8 (hat.node.trans (congrArg some HOB.out.symm))
    have HC := hid (simple_any wr _ k text n li co ts ns ks ((HR.out.keep hbr).more hbr.size) HKK0.out HN64.out H2.out HTL.out HTS.out HCT.out (HX.out.below hbr))
    have HB := hid hbr
    clear hat hbr
    go_wp2_with fail
    refine HC.out.mono ?_
    rintro e w2 ⟨rfl, hb⟩
    go_wp2_with fail
    go_ret
    exact ⟨by rw [HT.out]; rfl, HB.out.trans (hb.mono HB.out.size)⟩
end Go.Proofs.YtbpedjkebemhnaaGreatDoor
end
section
/- An expression as text: every kind; tree.Expr. -/
set_option linter.unusedVariables false
namespace Go.Proofs.YtbpedjkebemhnaaGreatDoor
open Go.RowKit

theorem expr_all (x : NoD) : ExC x := by
  induction h : cntN x using Nat.strongRecOn generalizing x with
  | _ N ih =>
    obtain ⟨k, text, n, li, co, ts, ns, ks⟩ := x
    have ihk : ∀ y ∈ ks, ExC y := fun y hy => ih (cntN y) (by rw [← h, cntN]; have := cntN_mem hy; omega) y rfl
    intro w z m hr hok hnd hc hX
    have hk : 0 ≤ k ∧ k < 20 := by obtain ⟨q, rfl, h1, _⟩ := node_open hnd; exact h1
    by_cases hs : k = 0 ∨ k = 1 ∨ k = 2 ∨ k = 3 ∨ k = 4 ∨ k = 18 ∨ k = 19
    · exact expr_simple k hs text n li co ts ns ks ihk w z m hr hok hnd hc hX
    have hk2 : k = 5 ∨ k = 6 ∨ k = 7 ∨ k = 8 ∨ k = 9 ∨ k = 10 ∨ k = 11 ∨ k = 12 ∨ k = 13 ∨ k = 14 ∨ k = 15 ∨ k = 16 ∨ k = 17 := by omega
    rcases hk2 with rfl | rfl | rfl | rfl | rfl | rfl | rfl | rfl | rfl | rfl | rfl | rfl | rfl
    · exact expr_k5 text n li co ts ns ks ihk w z m hr hok hnd hc hX
    · exact expr_k6 text n li co ts ns ks ihk w z m hr hok hnd hc hX
    · exact expr_k7 text n li co ts ns ks ihk w z m hr hok hnd hc hX
    · exact expr_k8 text n li co ts ns ks ihk w z m hr hok hnd hc hX
    · exact expr_k9 text n li co ts ns ks ihk w z m hr hok hnd hc hX
    · exact expr_k10 text n li co ts ns ks ihk w z m hr hok hnd hc hX
    · exact expr_k11 text n li co ts ns ks ihk w z m hr hok hnd hc hX
    · exact expr_k12 text n li co ts ns ks ihk w z m hr hok hnd hc hX
    · exact expr_k13 text n li co ts ns ks ihk w z m hr hok hnd hc hX
    · exact expr_k14 text n li co ts ns ks ihk w z m hr hok hnd hc hX
    · exact expr_k15 text n li co ts ns ks ihk w z m hr hok hnd hc hX
    · exact expr_k16 text n li co ts ns ks ihk w z m hr hok hnd hc hX
    · exact expr_k17 text n li co ts ns ks ihk w z m hr hok hnd hc hX
set_option maxRecDepth 100000 in
theorem texpr_any (w : World) (z : List Value) (x : NoD) (hr : NoR w w.heap.size z x) (hok : okN x) (hc : cntN x ≤ 100000) (hX : LaidT w) :
    Calls Tryz.prog 12 #[.agg z.toArray] w fun e w' => e = .returned (sv (exprT x)) ∧ Below w.heap.size w w' := by
  obtain ⟨k, s, v2, v3, v4, A1, n1, c1, A2, n2, c2, A3, n3, c3, rfl⟩ := hr.shape
  obtain ⟨W1, hW1⟩ : ∃ W1, W1 = w.alloc (.cells #[.int .i64 k, .string s, .int .i64 v2, .int .i64 v3, .int .i64 v4, .slice A1 n1 c1, .slice A2 n2 c2, .slice A3 n3 c3] 26) := ⟨_, rfl⟩
  have hb1 : Below w.heap.size w W1 := by rw [hW1]; exact (Below.refl _ _).alloc (Nat.le_refl _) _
  have hbx : W1.heap[w.heap.size]? = some (.cells #[.int .i64 k, .string s, .int .i64 v2, .int .i64 v3, .int .i64 v4, .slice A1 n1 c1, .slice A2 n2 c2, .slice A3 n3 c3] 26 (0, 0)) := by rw [hW1]; exact heap_alloc_new w _
  have HW := node_all 25 (by omega) W1 _ x (hr.far (Nat.le_refl _) hb1) hok (hX.below hb1)
  rw [hW1] at HW
  have HW := hid HW
  have HB := hid hb1
  have HWE := hid hW1
  have HBX := hid hbx
  have HR := hid hr
  have HX := hid hX
  have HOK := hid hok
  clear hb1 hbx hr hX hW1 hok
  cases hq : nodeB 25 x with
  | false =>
    have HT : Hid (exprT x = []) := hid (by unfold exprT; rw [hq]; rfl)
    rw [hq] at HW
    rw [HT.out]
    clear hq HT
    go_enter Tryz.func12, Tryz.ntmps12
    go_wp2_with fail
    refine HW.out.mono ?_
    rintro e w2 ⟨rfl, hb⟩
    rw [← HWE.out] at hb
    go_wp2_with fail
    go_ret
    exact ⟨rfl, HB.out.trans (hb.mono HB.out.size)⟩
  | true =>
    have HT : Hid (exprT x = exprS x) := hid (by unfold exprT; rw [hq]; rfl)
    rw [hq] at HW
    rw [HT.out]
    have HS : Hid (∀ w2, Below w.heap.size w w2 → Calls Tryz.prog 33 #[.agg [.int .i64 k, .string s, .int .i64 v2, .int .i64 v3, .int .i64 v4, .slice A1 n1 c1, .slice A2 n2 c2, .slice A3 n3 c3].toArray] w2 fun e w' => e = .returned (sv (exprS x)) ∧ Below w2.heap.size w2 w') := hid (fun w2 hb2 => expr_all x w2 _ 25 (HR.out.far (Nat.le_refl _) hb2) HOK.out hq hc (HX.out.below hb2))
    clear hq HT HR
    generalize exprS x = u at *
    go_enter Tryz.func12, Tryz.ntmps12
    go_wp2_with fail
    refine HW.out.mono ?_
    rintro e w2 ⟨rfl, hb⟩
    rw [← HWE.out] at hb
    have HB2 := hid (HB.out.trans (hb.mono HB.out.size))
    obtain ⟨g0, g1, g2, g3, g4, g5, g6, g7⟩ := t_row8 ((hb.block _ (block_lt HBX.out)).trans HBX.out)
    clear hb
    go_wp2_with fail
    refine (HS.out _ HB2.out).mono ?_
    rintro e w3 ⟨rfl, hb3⟩
    go_wp2_with fail
    go_ret
    exact ⟨rfl, HB2.out.trans (hb3.mono HB2.out.size)⟩
end Go.Proofs.YtbpedjkebemhnaaGreatDoor
end
