/- UN3 -/
import Derived.Test.YtbpedjkebemhnaaGreatDoorSD06
import Derived.Test.YtbpedjkebemhnaaGreatDoorSD10
set_option linter.unusedSimpArgs false
set_option linter.unusedVariables false
/- An expression as text: kinds [6, 11]. -/
set_option linter.unusedVariables false
namespace Go.Proofs.YtbpedjkebemhnaaGreatDoor
open Go.RowKit

set_option maxRecDepth 100000 in
set_option maxHeartbeats 8000000 in
theorem expr_k6 (text : Bt) (n li co : Int) (ts : List TyD) (ns : List Bt) (ks : List NoD) (ih : ∀ y ∈ ks, ExC y) : ExC (.mk 6 text n li co ts ns ks) := by
  intro w z m hr hok hnd hc hX
  have hlen := expr_len _ m hnd
  obtain ⟨q, rfl, hk20, hown, hns, hts, hkk⟩ := node_open hnd
  rw [own_kids, Bool.and_eq_true, Bool.and_eq_true, Bool.and_eq_true, Bool.and_eq_true, decide_eq_true_eq, decide_eq_true_eq, decide_eq_true_eq, decide_eq_true_eq] at hown
  obtain ⟨⟨⟨⟨hn0, hn1⟩, htx⟩, hlo, hhi⟩, hkn, hkd⟩ := hown
  have htl := text_len htx
  rw [okN] at hok
  obtain ⟨ok1, ok2, ok3, ok4, ok5, ok6, ok7, ok8⟩ := hok
  obtain ⟨A1, c1, A2, c2, A3, c3, xt, xk, rfl, s1, r1, s2, s3, r3⟩ := hr.parts
  have l1 := (t_sl_len s1).2
  have l2 := (t_sl_len s2).2
  have l3 := (t_sl_len s3).2
  rw [exprS] at hlen ⊢
  rw [cntN] at hc hlen
  have hcT : cntTs ts ≤ 100000 := by omega
  have hcK : cntNs ks ≤ 100000 := by omega
  have hdc : ks.length ≤ 100000 := Nat.le_trans (cntNs_len ks) hcK
  obtain ⟨S, hS⟩ : ∃ S, exprSs ks = S := ⟨_, rfl⟩
  have hSL0 : S.length = ks.length := by rw [← hS, exprSs_length]
  have HSG : Hid (∀ (i : Nat) (h : i < ks.length) (h2 : i < S.length), S[i] = exprS ks[i]) := hid (by
    intro i h h2
    subst hS
    simp [exprSs_map])
  rw [hS] at hlen ⊢
  have HKK := hid (And.intro s3 r3)
  have HTT := hid (And.intro s1 r1)
  have HSS := hid s2
  have HIH := hid ih
  have HOK := hid (okNs_mem.1 ok8)
  have HNK := hid hkk
  have HCK := hid hcK
  have HCT := hid hcT
  have HTS := hid hts
  have HNS := hid hns
  have HX := hid hX
  have hn64 := ok3
  clear hr s1 r1 s2 s3 r3 ih ok1 ok2 ok3 ok4 ok5 ok6 ok7 ok8 hkk hts hns hX hS hnd hk20
  obtain ⟨a, hA⟩ : ∃ a, ts.length = a := ⟨_, rfl⟩
  obtain ⟨b, hB⟩ : ∃ b, ns.length = b := ⟨_, rfl⟩
  obtain ⟨d, hD⟩ : ∃ d, ks.length = d := ⟨_, rfl⟩
  rw [hA] at l1 HTT hlo hhi
  rw [hB] at l2 HSS hkn hkd
  rw [hD] at l3 HKK hkd hdc hSL0
  rw [hA, hB, hD]
  have HA := hid hA
  have HBN := hid hB
  have HD := hid hD
  have HSL := hid hSL0
  clear hA hB hD
  have hd0 : d = 1 := by
    have h : (hasD 6).kids = 1 := rfl
    rw [h] at hkd
    unfold kidsOf at hkd
    rw [if_neg (by decide)] at hkd
    omega
  have HD0 := hid hd0
  clear hd0 hkd hkn
  obtain ⟨OB, hOB⟩ : ∃ OB, Obj.cells #[.int .i64 6, sv text, .int .i64 n, .int .i64 li, .int .i64 co, .slice A1 a c1, .slice A2 b c2, .slice A3 d c3] 26 (0, 0) = OB := ⟨_, rfl⟩
  obtain ⟨W, hW⟩ : ∃ W, (w.alloc (.cells #[.int .i64 6, sv text, .int .i64 n, .int .i64 li, .int .i64 co, .slice A1 a c1, .slice A2 b c2, .slice A3 d c3] 26)).alloc (.cells #[.slice none 0 0] 23) = W := ⟨_, rfl⟩
  have HST0 : Hid (ExAt w W OB (.slice none 0 0) (S.take 0)) := hid (by
    rw [← hW, ← hOB]
    exact ⟨(two_new w _ _).2, OwnS.nil _ _ _, (two_new w _ _).1, ((Below.refl _ _).alloc (Nat.le_refl _) _).alloc (by simp) _⟩)
  have HOB := hid hOB
  have HWE := hid hW
  clear hW hOB
  go_enter Tryz.func33, Tryz.ntmps33
  go_wp2_with fail
  have hW := HWE.out
  rw [hW]
  clear hW
  go_loopw [10] (fun v10 wr => ∃ (i : Nat) (v : Value), v10 = .int .i64 i ∧ i ≤ d ∧ ExAt w wr OB v (S.take i)) (fun v10 _ => d - (intOf v10).toNat)
  case atStart => exact ⟨0, _, rfl, by omega, HST0.out⟩
  case round =>
    obtain ⟨i, v, rfl, hi_, hat⟩ := hrel
    have HEX0 := hid hat
    clear hat
    by_cases hlt : i < d
    · have hil : i < ks.length := by rw [HD.out]; exact hlt
      have hiS : i < S.length := by rw [HSL.out]; exact hlt
      have hbr := HEX0.out.below
      obtain ⟨b2, o2, kk, ss, y2, y3, y4, A5, n5, c5, A6, n6, c6, A7, n7, c7, hA3, hr1, e0, e1, e2, e3, e4, e5, e6, e7⟩ := node_at (Sl.more (Sl.below HKK.out.1 hbr) hbr.size) ((HKK.out.2.keep hbr).more hbr.size) hil HD.out.symm
      obtain ⟨wA, hwA⟩ : ∃ wA, wr.alloc (.cells #[.int .i64 kk, .string ss, .int .i64 y2, .int .i64 y3, .int .i64 y4, .slice A5 n5 c5, .slice A6 n6 c6, .slice A7 n7 c7] 26) = wA := ⟨_, rfl⟩
      have hbA : Below wr.heap.size wr wA := by rw [← hwA]; exact (Below.refl _ _).alloc (Nat.le_refl _) _
      have hsA : wA.heap[wr.heap.size]? = some (.cells #[.int .i64 kk, .string ss, .int .i64 y2, .int .i64 y3, .int .i64 y4, .slice A5 n5 c5, .slice A6 n6 c6, .slice A7 n7 c7] 26 (0, 0)) := by rw [← hwA]; exact heap_alloc_new wr _
      have HE := hid (fun w1 (h : Below wA.heap.size wA w1) => HIH.out ks[i] (List.getElem_mem hil) w1 _ q (hr1.far (Nat.le_refl _) (hbA.trans (h.mono hbA.size))) (HOK.out _ (List.getElem_mem hil)) (HNK.out _ (List.getElem_mem hil)) (Nat.le_trans (cntN_mem (List.getElem_mem hil)) HCK.out) ((HX.out.below hbr).below (hbA.trans (h.mono hbA.size))))
      rw [← HSG.out i hil hiS] at HE
      have HST := hid (t_take hiS)
      have HLT : Hid (∀ g, v.ownBlock = some g → g < wr.heap.size) := hid (fun g hg => (HEX0.out.own.lt g hg).2)
      have HBD : Hid (Below wA.heap.size wA wA.drew) := hid (below_drawn wA 1)
      have HBW : Hid (Below wr.heap.size wr wA.drew) := hid (hbA.trans (HBD.out.mono hbA.size))
      have HSD : Hid (wA.drew.heap[wr.heap.size]? = some (.cells #[.int .i64 kk, .string ss, .int .i64 y2, .int .i64 y3, .int .i64 y4, .slice A5 n5 c5, .slice A6 n6 c6, .slice A7 n7 c7] 26 (0, 0))) := hid hsA
      have gk := (HEX0.out.far HBW.out).cell
      have hA := hid hwA
      obtain ⟨Av, nv, cv, rfl⟩ := t_sl_shape HEX0.out.own.ss
      generalize S[i] = X at *
      generalize ks[i] = kx at *
      clear hbr hr1 hbA hsA hil hwA
      subst hA3
      go_wp2_with fail
      have hwA := hA.out
      rw [hwA]
      clear hwA e0 e1 e2 e3 e4 e5 e6 e7
      refine wp_region_held_drew (S := fun w' => w'.heap[wr.heap.size]? = some (.cells #[.int .i64 kk, .string ss, .int .i64 y2, .int .i64 y3, .int .i64 y4, .slice A5 n5 c5, .slice A6 n6 c6, .slice A7 n7 c7] 26 (0, 0))) (by kernel_rfl) HSD.out (fun _ => ?_)
      try simp only [Act.put, List.getElem_toArray, List.getElem_cons_zero, List.getElem_cons_succ, List.setIfInBounds_toArray, List.set_cons_zero, List.set_cons_succ]
      refine wpAnyH_take (i := 1) (v := (.agg #[.int .i64 kk, .string ss, .int .i64 y2, .int .i64 y3, .int .i64 y4, .slice A5 n5 c5, .slice A6 n6 c6, .slice A7 n7 c7])) rfl (by kernel_rfl) (by kernel_rfl) (by kernel_rfl) (fun _ _ _ h => h) (Or.inl ⟨by kernel_rfl, by intro w' hSw; obtain ⟨u0, u1, u2, u3, u4, u5, u6, u7⟩ := t_row8 hSw; go_simp⟩) HSD.out ?_
      try simp only [Act.put, List.getElem_toArray, List.getElem_cons_zero, List.getElem_cons_succ, List.setIfInBounds_toArray, List.set_cons_zero, List.set_cons_succ]
      refine wpAnyH_ready (rs := [0, 2]) (by kernel_rfl) (by simp) ?_
      refine AllReadyH.cons rfl (fun K hK => ?_) (AllReadyH.cons rfl (fun K hK => ?_) AllReadyH.nil)
      · go_simp
        refine hK.out _ _ HSD.out (fun _ => ?_)
        clear hK K
        try simp only [Act.put, List.getElem_toArray, List.getElem_cons_zero, List.getElem_cons_succ, List.setIfInBounds_toArray, List.set_cons_zero, List.set_cons_succ]
        refine wpAnyH_ready (rs := [2]) (by kernel_rfl) (by simp) ?_
        refine AllReadyH.cons rfl (fun K hK => ?_) AllReadyH.nil
        go_simp
        refine (HE.out _ HBD.out).mono ?_
        rintro e w2 ⟨rfl, hb⟩
        have hbr2 := HBW.out.trans (hb.mono HBW.out.size)
        have HEX2 := hid (HEX0.out.far hbr2)
        have HS2 := hid ((hb.block _ (block_lt HSD.out)).trans HSD.out)
        clear hb hbr2
        refine hK.out _ _ HS2.out (fun _ => ?_)
        clear hK K
        try simp only [Act.put, List.getElem_toArray, List.getElem_cons_zero, List.getElem_cons_succ, List.setIfInBounds_toArray, List.set_cons_zero, List.set_cons_succ]
        refine wpAnyH_ready (rs := [3]) (by kernel_rfl) (by simp) ?_
        refine AllReadyH.cons rfl (fun K hK => ?_) AllReadyH.nil
        go_simp
        have HS3 := hid ((((Below.refl w2.heap.size w2).alloc (Nat.le_refl _) (.cells #[sv X] 9)).block _ (block_lt HS2.out)).trans HS2.out)
        refine hK.out _ _ HS3.out (fun _ => ?_)
        clear hK K
        try simp only [Act.put, List.getElem_toArray, List.getElem_cons_zero, List.getElem_cons_succ, List.setIfInBounds_toArray, List.set_cons_zero, List.set_cons_succ]
        refine wpAnyH_ready (rs := [4]) (by kernel_rfl) (by simp) ?_
        refine AllReadyH.cons rfl (fun K hK => ?_) AllReadyH.nil
        refine step_appS rfl (.tmp 14) (.tmp 17) _ rfl (w.heap.size + 2) el_str _ _ rfl rfl (HEX2.out.own.alloc _) (ss_new w2 X _) (by simp; omega) (by have := block_lt HEX2.out.box; rw [World.size_alloc]; omega) (fun v4 w4 hown4 hg4 hbk4 => ?_)
        obtain ⟨g4, c4, n4, rfl⟩ := own_shape hown4 (by simp)
        rw [← HST.out] at hown4
        obtain ⟨x1, x2, x3⟩ := (HEX2.out.far ((Below.refl _ _).alloc (Nat.le_refl _) _)).grown hown4 hg4
        have HS4 := hid ((hg4.block _ (block_lt HS3.out) (by intro e; have := HLT.out _ e.symm; omega)).trans HS3.out)
        have X3 := hid x3
        have HS5 := hid (block_turn HS4.out (turn_set w4 (w.heap.size + 1) 0 (.slice (some ⟨g4, 0, none⟩) n4 c4)) (by have := block_lt HEX0.out.box; omega))
        clear x3 hown4 hg4 hbk4
        refine hK.out _ _ HS4.out (fun _ => ?_)
        clear hK K
        try simp only [Act.put, List.getElem_toArray, List.getElem_cons_zero, List.getElem_cons_succ, List.setIfInBounds_toArray, List.set_cons_zero, List.set_cons_succ]
        refine wpAnyH_ready (rs := [5]) (by kernel_rfl) (by simp) ?_
        refine AllReadyH.cons rfl (fun K hK => ?_) AllReadyH.nil
        go_simp
        refine hK.out _ _ HS5.out (fun _ => ?_)
        clear hK K
        try simp only [Act.put, List.getElem_toArray, List.getElem_cons_zero, List.getElem_cons_succ, List.setIfInBounds_toArray, List.set_cons_zero, List.set_cons_succ]
        refine wpAnyH_done (by kernel_rfl) ?_ _
        go_wp2_with fail
        go_roundw
        case rel => exact ⟨i + 1, _, rfl, by omega, X3.out⟩
        case measure => simp [intOf]; omega
      · go_simp
        refine (HE.out _ HBD.out).mono ?_
        rintro e w2 ⟨rfl, hb⟩
        have hbr2 := HBW.out.trans (hb.mono HBW.out.size)
        have HEX2 := hid (HEX0.out.far hbr2)
        have HS2 := hid ((hb.block _ (block_lt HSD.out)).trans HSD.out)
        clear hb hbr2
        have gk2 := HEX2.out.cell
        refine hK.out _ _ HS2.out (fun _ => ?_)
        clear hK K
        try simp only [Act.put, List.getElem_toArray, List.getElem_cons_zero, List.getElem_cons_succ, List.setIfInBounds_toArray, List.set_cons_zero, List.set_cons_succ]
        refine wpAnyH_ready (rs := [0, 3]) (by kernel_rfl) (by simp) ?_
        refine AllReadyH.cons rfl (fun K hK => ?_) (AllReadyH.cons rfl (fun K hK => ?_) AllReadyH.nil)
        · go_simp
          refine hK.out _ _ HS2.out (fun _ => ?_)
          clear hK K
          try simp only [Act.put, List.getElem_toArray, List.getElem_cons_zero, List.getElem_cons_succ, List.setIfInBounds_toArray, List.set_cons_zero, List.set_cons_succ]
          refine wpAnyH_ready (rs := [3]) (by kernel_rfl) (by simp) ?_
          refine AllReadyH.cons rfl (fun K hK => ?_) AllReadyH.nil
          go_simp
          have HS3 := hid ((((Below.refl w2.heap.size w2).alloc (Nat.le_refl _) (.cells #[sv X] 9)).block _ (block_lt HS2.out)).trans HS2.out)
          refine hK.out _ _ HS3.out (fun _ => ?_)
          clear hK K
          try simp only [Act.put, List.getElem_toArray, List.getElem_cons_zero, List.getElem_cons_succ, List.setIfInBounds_toArray, List.set_cons_zero, List.set_cons_succ]
          refine wpAnyH_ready (rs := [4]) (by kernel_rfl) (by simp) ?_
          refine AllReadyH.cons rfl (fun K hK => ?_) AllReadyH.nil
          refine step_appS rfl (.tmp 14) (.tmp 17) _ rfl (w.heap.size + 2) el_str _ _ rfl rfl (HEX2.out.own.alloc _) (ss_new w2 X _) (by simp; omega) (by have := block_lt HEX2.out.box; rw [World.size_alloc]; omega) (fun v4 w4 hown4 hg4 hbk4 => ?_)
          obtain ⟨g4, c4, n4, rfl⟩ := own_shape hown4 (by simp)
          rw [← HST.out] at hown4
          obtain ⟨x1, x2, x3⟩ := (HEX2.out.far ((Below.refl _ _).alloc (Nat.le_refl _) _)).grown hown4 hg4
          have HS4 := hid ((hg4.block _ (block_lt HS3.out) (by intro e; have := HLT.out _ e.symm; omega)).trans HS3.out)
          have X3 := hid x3
          have HS5 := hid (block_turn HS4.out (turn_set w4 (w.heap.size + 1) 0 (.slice (some ⟨g4, 0, none⟩) n4 c4)) (by have := block_lt HEX0.out.box; omega))
          clear x3 hown4 hg4 hbk4
          refine hK.out _ _ HS4.out (fun _ => ?_)
          clear hK K
          try simp only [Act.put, List.getElem_toArray, List.getElem_cons_zero, List.getElem_cons_succ, List.setIfInBounds_toArray, List.set_cons_zero, List.set_cons_succ]
          refine wpAnyH_ready (rs := [5]) (by kernel_rfl) (by simp) ?_
          refine AllReadyH.cons rfl (fun K hK => ?_) AllReadyH.nil
          go_simp
          refine hK.out _ _ HS5.out (fun _ => ?_)
          clear hK K
          try simp only [Act.put, List.getElem_toArray, List.getElem_cons_zero, List.getElem_cons_succ, List.setIfInBounds_toArray, List.set_cons_zero, List.set_cons_succ]
          refine wpAnyH_done (by kernel_rfl) ?_ _
          go_wp2_with fail
          go_roundw
          case rel => exact ⟨i + 1, _, rfl, by omega, X3.out⟩
          case measure => simp [intOf]; omega
        · go_simp
          have HS3 := hid ((((Below.refl w2.heap.size w2).alloc (Nat.le_refl _) (.cells #[sv X] 9)).block _ (block_lt HS2.out)).trans HS2.out)
          have gk3 := (HEX2.out.far ((Below.refl w2.heap.size w2).alloc (Nat.le_refl _) (.cells #[sv X] 9))).cell
          refine hK.out _ _ HS3.out (fun _ => ?_)
          clear hK K
          try simp only [Act.put, List.getElem_toArray, List.getElem_cons_zero, List.getElem_cons_succ, List.setIfInBounds_toArray, List.set_cons_zero, List.set_cons_succ]
          refine wpAnyH_ready (rs := [0]) (by kernel_rfl) (by simp) ?_
          refine AllReadyH.cons rfl (fun K hK => ?_) AllReadyH.nil
          go_simp
          refine hK.out _ _ HS3.out (fun _ => ?_)
          clear hK K
          try simp only [Act.put, List.getElem_toArray, List.getElem_cons_zero, List.getElem_cons_succ, List.setIfInBounds_toArray, List.set_cons_zero, List.set_cons_succ]
          refine wpAnyH_ready (rs := [4]) (by kernel_rfl) (by simp) ?_
          refine AllReadyH.cons rfl (fun K hK => ?_) AllReadyH.nil
          refine step_appS rfl (.tmp 14) (.tmp 17) _ rfl (w.heap.size + 2) el_str _ _ rfl rfl (HEX2.out.own.alloc _) (ss_new w2 X _) (by simp; omega) (by have := block_lt HEX2.out.box; rw [World.size_alloc]; omega) (fun v4 w4 hown4 hg4 hbk4 => ?_)
          obtain ⟨g4, c4, n4, rfl⟩ := own_shape hown4 (by simp)
          rw [← HST.out] at hown4
          obtain ⟨x1, x2, x3⟩ := (HEX2.out.far ((Below.refl _ _).alloc (Nat.le_refl _) _)).grown hown4 hg4
          have HS4 := hid ((hg4.block _ (block_lt HS3.out) (by intro e; have := HLT.out _ e.symm; omega)).trans HS3.out)
          have X3 := hid x3
          have HS5 := hid (block_turn HS4.out (turn_set w4 (w.heap.size + 1) 0 (.slice (some ⟨g4, 0, none⟩) n4 c4)) (by have := block_lt HEX0.out.box; omega))
          clear x3 hown4 hg4 hbk4
          refine hK.out _ _ HS4.out (fun _ => ?_)
          clear hK K
          try simp only [Act.put, List.getElem_toArray, List.getElem_cons_zero, List.getElem_cons_succ, List.setIfInBounds_toArray, List.set_cons_zero, List.set_cons_succ]
          refine wpAnyH_ready (rs := [5]) (by kernel_rfl) (by simp) ?_
          refine AllReadyH.cons rfl (fun K hK => ?_) AllReadyH.nil
          go_simp
          refine hK.out _ _ HS5.out (fun _ => ?_)
          clear hK K
          try simp only [Act.put, List.getElem_toArray, List.getElem_cons_zero, List.getElem_cons_succ, List.setIfInBounds_toArray, List.set_cons_zero, List.set_cons_succ]
          refine wpAnyH_done (by kernel_rfl) ?_ _
          go_wp2_with fail
          go_roundw
          case rel => exact ⟨i + 1, _, rfl, by omega, X3.out⟩
          case measure => simp [intOf]; omega
    · obtain rfl : i = d := by omega
      have hex := HEX0.out
      rw [List.take_of_length_le (by rw [HSL.out]; omega)] at hex
      have hbr := hex.below
      obtain ⟨g0, g1, g2, g3, g4, g5, g6, g7⟩ := t_row8 (hex.node.trans (congrArg some HOB.out.symm))
      have gb := hex.cell
      have hown := hex.own
      have HBR := hid hbr
      clear hlt HEX0 hex
      have hd0 := HD0.out
      have hsl := HSL.out
      subst hd0
      obtain ⟨s0, rfl⟩ : ∃ s0, S = [s0] := by match S, hsl with | [x], _ => exact ⟨x, rfl⟩
      obtain ⟨g, c, rfl, hgb, hgl, hgc, hgm⟩ := own_form hown.row (by simp)
      simp only [List.length_cons, List.length_nil, Nat.zero_add] at gb hown hgc
      have d0 := hown.cell 0 (by simp)
      simp only [List.getElem_cons_zero, List.getElem_cons_succ] at d0
      have HT : Hid (nodeS 6 text n ts ns [s0] = ([40] : Bt) ++ (([102, 110, 32, 40] : Bt) ++ text ++ (noteS ts 0) ++ ([41] : Bt) ++ (noteS ts 1) ++ ([32, 61, 62, 32] : Bt) ++ s0) ++ ([41] : Bt)) := hid (by simp [nodeS, cat])
      rw [HT.out] at hlen
      have HN0 := hid (fun w1 (h : Below wr.heap.size wr w1) => note_any w1 ts A1 c1 xt (by rw [HA.out]; exact Sl.more (Sl.below (Sl.more (Sl.below HTT.out.1 hbr) hbr.size) h) h.size) ((((HTT.out.2.keep hbr).more hbr.size).keep h).more h.size) HTS.out HCT.out 0)
      rw [HA.out] at HN0
      have HN1 := hid (fun w1 (h : Below wr.heap.size wr w1) => note_any w1 ts A1 c1 xt (by rw [HA.out]; exact Sl.more (Sl.below (Sl.more (Sl.below HTT.out.1 hbr) hbr.size) h) h.size) ((((HTT.out.2.keep hbr).more hbr.size).keep h).more h.size) HTS.out HCT.out 1)
      rw [HA.out] at HN1
      generalize noteS ts 0 = N0 at *
      generalize noteS ts 1 = N1 at *
      simp only [List.length_append, List.length_cons, List.length_nil] at hlen
      have hz0 := sv_size text
      have hz1 := sv_size N0
      have hz2 := sv_size N1
      have hz3 := sv_size s0
      have q0 : ¬ (9223372036854775807 < 4 + text.length) := by omega
      have q1 : ¬ (9223372036854775807 < 4 + text.length + N0.length) := by omega
      have q2 : ¬ (9223372036854775807 < 4 + text.length + N0.length + 1) := by omega
      have q3 : ¬ (9223372036854775807 < 4 + text.length + N0.length + 1 + N1.length) := by omega
      have q4 : ¬ (9223372036854775807 < 4 + text.length + N0.length + 1 + N1.length + 4) := by omega
      have q5 : ¬ (9223372036854775807 < 4 + text.length + N0.length + 1 + N1.length + 4 + s0.length) := by omega
      have q6 : ¬ (9223372036854775807 < 1 + (4 + text.length + N0.length + 1 + N1.length + 4 + s0.length)) := by omega
      have q7 : ¬ (9223372036854775807 < 1 + (4 + text.length + N0.length + 1 + N1.length + 4 + s0.length) + 1) := by omega
      have G1 := hid g1
      have G2 := hid g2
      have G5 := hid g5
      have GB := hid gb
      have D0 := hid d0
      have HB0 : Hid (Below wr.heap.size wr wr.drew) := hid (below_drawn wr 1)
      clear g1 g2 g3 g4 g5 g6 g7 gb hown hbr hlen d0
      go_wp2_with fail
      refine wp_region_held_drew (S := fun w' => Below wr.heap.size wr w') (by kernel_rfl) HB0.out (fun _ => ?_)
      try simp only [Act.put, List.getElem_toArray, List.getElem_cons_zero, List.getElem_cons_succ, List.setIfInBounds_toArray, List.set_cons_zero, List.set_cons_succ]
      refine tk 0 (.pointer (some ⟨w.heap.size, 1, none⟩)) HB0.out ?_
      refine tkf 1 (sv text) (kp1 G1.out) HB0.out ?_
      refine tk 2 (.string ((⟨#[102, 110, 32, 40]⟩ : ByteArray) ++ ⟨text.toArray⟩)) HB0.out ?_
      refine tk 3 (.pointer (some ⟨w.heap.size, 5, none⟩)) HB0.out ?_
      refine tkf 4 (.slice A1 a c1) (kp1 G5.out) HB0.out ?_
      refine tk 8 (.pointer (some ⟨w.heap.size, 5, none⟩)) HB0.out ?_
      refine tkf 9 (.slice A1 a c1) (kp1 G5.out) HB0.out ?_
      refine tkf 13 (.slice (some ⟨g, 0, none⟩) 1 c) (kp1 GB.out) HB0.out ?_
      refine tk 14 (.pointer (some ⟨g, 0, none⟩)) HB0.out ?_
      refine tkf 15 (sv s0) (kp1 D0.out) HB0.out ?_
      refine wpAnyH_ready (rs := [5]) (by kernel_rfl) (by simp) ?_
      refine AllReadyH.cons rfl (fun K hK => ?_) (AllReadyH.nil)
      go_simp
      refine (HN0.out _ HB0.out).mono ?_
      rintro e wn0 ⟨rfl, hb⟩
      have HB1 := hid (HB0.out.trans (hb.mono HB0.out.size))
      clear hb
      refine hK.out _ _ HB1.out (fun _ => ?_)
      clear hK K
      try simp only [Act.put, List.getElem_toArray, List.getElem_cons_zero, List.getElem_cons_succ, List.setIfInBounds_toArray, List.set_cons_zero, List.set_cons_succ]
      refine tk 6 (.string ((⟨#[102, 110, 32, 40]⟩ : ByteArray) ++ ⟨text.toArray⟩ ++ ⟨N0.toArray⟩)) HB1.out ?_
      refine tk 7 (.string ((⟨#[102, 110, 32, 40]⟩ : ByteArray) ++ ⟨text.toArray⟩ ++ ⟨N0.toArray⟩ ++ ⟨#[41]⟩)) HB1.out ?_
      refine wpAnyH_ready (rs := [10]) (by kernel_rfl) (by simp) ?_
      refine AllReadyH.cons rfl (fun K hK => ?_) (AllReadyH.nil)
      go_simp
      refine (HN1.out _ HB1.out).mono ?_
      rintro e wn1 ⟨rfl, hb⟩
      have HB2 := hid (HB1.out.trans (hb.mono HB1.out.size))
      clear hb
      refine hK.out _ _ HB2.out (fun _ => ?_)
      clear hK K
      try simp only [Act.put, List.getElem_toArray, List.getElem_cons_zero, List.getElem_cons_succ, List.setIfInBounds_toArray, List.set_cons_zero, List.set_cons_succ]
      refine tk 11 (.string ((⟨#[102, 110, 32, 40]⟩ : ByteArray) ++ ⟨text.toArray⟩ ++ ⟨N0.toArray⟩ ++ ⟨#[41]⟩ ++ ⟨N1.toArray⟩)) HB2.out ?_
      refine tk 12 (.string ((⟨#[102, 110, 32, 40]⟩ : ByteArray) ++ ⟨text.toArray⟩ ++ ⟨N0.toArray⟩ ++ ⟨#[41]⟩ ++ ⟨N1.toArray⟩ ++ ⟨#[32, 61, 62, 32]⟩)) HB2.out ?_
      refine tk 16 (.string ((⟨#[102, 110, 32, 40]⟩ : ByteArray) ++ ⟨text.toArray⟩ ++ ⟨N0.toArray⟩ ++ ⟨#[41]⟩ ++ ⟨N1.toArray⟩ ++ ⟨#[32, 61, 62, 32]⟩ ++ ⟨s0.toArray⟩)) HB2.out ?_
      refine tk 17 (.string ((⟨#[102, 110, 32, 40]⟩ : ByteArray) ++ ⟨text.toArray⟩ ++ ⟨N0.toArray⟩ ++ ⟨#[41]⟩ ++ ⟨N1.toArray⟩ ++ ⟨#[32, 61, 62, 32]⟩ ++ ⟨s0.toArray⟩)) HB2.out ?_
      refine wpAnyH_done (by kernel_rfl) ?_ _
      go_wp2_with fail
      go_ret
      refine ⟨?_, HBR.out.trans (HB2.out.mono HBR.out.size)⟩
      rw [HT.out]
      have e : (⟨([40] : Bt).toArray⟩ : ByteArray) ++ ((⟨([102, 110, 32, 40] : Bt).toArray⟩ : ByteArray) ++ ⟨text.toArray⟩ ++ ⟨N0.toArray⟩ ++ ⟨([41] : Bt).toArray⟩ ++ ⟨N1.toArray⟩ ++ ⟨([32, 61, 62, 32] : Bt).toArray⟩ ++ ⟨s0.toArray⟩) ++ ⟨([41] : Bt).toArray⟩ = ⟨(([40] : Bt) ++ (([102, 110, 32, 40] : Bt) ++ text ++ N0 ++ ([41] : Bt) ++ N1 ++ ([32, 61, 62, 32] : Bt) ++ s0) ++ ([41] : Bt)).toArray⟩ := by
        rw [str_append, str_append, str_append, str_append, str_append, str_append, str_append, str_append]
      exact congrArg (fun b => Ending.returned (Value.string b)) e
set_option maxRecDepth 100000 in
set_option maxHeartbeats 8000000 in
theorem expr_k11 (text : Bt) (n li co : Int) (ts : List TyD) (ns : List Bt) (ks : List NoD) (ih : ∀ y ∈ ks, ExC y) : ExC (.mk 11 text n li co ts ns ks) := by
  intro w z m hr hok hnd hc hX
  have hlen := expr_len _ m hnd
  obtain ⟨q, rfl, hk20, hown, hns, hts, hkk⟩ := node_open hnd
  rw [own_kids, Bool.and_eq_true, Bool.and_eq_true, Bool.and_eq_true, Bool.and_eq_true, decide_eq_true_eq, decide_eq_true_eq, decide_eq_true_eq, decide_eq_true_eq] at hown
  obtain ⟨⟨⟨⟨hn0, hn1⟩, htx⟩, hlo, hhi⟩, hkn, hkd⟩ := hown
  have htl := text_len htx
  rw [okN] at hok
  obtain ⟨ok1, ok2, ok3, ok4, ok5, ok6, ok7, ok8⟩ := hok
  obtain ⟨A1, c1, A2, c2, A3, c3, xt, xk, rfl, s1, r1, s2, s3, r3⟩ := hr.parts
  have l1 := (t_sl_len s1).2
  have l2 := (t_sl_len s2).2
  have l3 := (t_sl_len s3).2
  rw [exprS] at hlen ⊢
  rw [cntN] at hc hlen
  have hcT : cntTs ts ≤ 100000 := by omega
  have hcK : cntNs ks ≤ 100000 := by omega
  have hdc : ks.length ≤ 100000 := Nat.le_trans (cntNs_len ks) hcK
  obtain ⟨S, hS⟩ : ∃ S, exprSs ks = S := ⟨_, rfl⟩
  have hSL0 : S.length = ks.length := by rw [← hS, exprSs_length]
  have HSG : Hid (∀ (i : Nat) (h : i < ks.length) (h2 : i < S.length), S[i] = exprS ks[i]) := hid (by
    intro i h h2
    subst hS
    simp [exprSs_map])
  rw [hS] at hlen ⊢
  have HKK := hid (And.intro s3 r3)
  have HTT := hid (And.intro s1 r1)
  have HSS := hid s2
  have HIH := hid ih
  have HOK := hid (okNs_mem.1 ok8)
  have HNK := hid hkk
  have HCK := hid hcK
  have HCT := hid hcT
  have HTS := hid hts
  have HNS := hid hns
  have HX := hid hX
  have hn64 := ok3
  clear hr s1 r1 s2 s3 r3 ih ok1 ok2 ok3 ok4 ok5 ok6 ok7 ok8 hkk hts hns hX hS hnd hk20
  obtain ⟨a, hA⟩ : ∃ a, ts.length = a := ⟨_, rfl⟩
  obtain ⟨b, hB⟩ : ∃ b, ns.length = b := ⟨_, rfl⟩
  obtain ⟨d, hD⟩ : ∃ d, ks.length = d := ⟨_, rfl⟩
  rw [hA] at l1 HTT hlo hhi
  rw [hB] at l2 HSS hkn hkd
  rw [hD] at l3 HKK hkd hdc hSL0
  rw [hA, hB, hD]
  have HA := hid hA
  have HBN := hid hB
  have HD := hid hD
  have HSL := hid hSL0
  clear hA hB hD
  have hd0 : d = 3 := by
    have h : (hasD 11).kids = 3 := rfl
    rw [h] at hkd
    unfold kidsOf at hkd
    rw [if_neg (by decide)] at hkd
    omega
  have HD0 := hid hd0
  clear hd0 hkd hkn
  obtain ⟨OB, hOB⟩ : ∃ OB, Obj.cells #[.int .i64 11, sv text, .int .i64 n, .int .i64 li, .int .i64 co, .slice A1 a c1, .slice A2 b c2, .slice A3 d c3] 26 (0, 0) = OB := ⟨_, rfl⟩
  obtain ⟨W, hW⟩ : ∃ W, (w.alloc (.cells #[.int .i64 11, sv text, .int .i64 n, .int .i64 li, .int .i64 co, .slice A1 a c1, .slice A2 b c2, .slice A3 d c3] 26)).alloc (.cells #[.slice none 0 0] 23) = W := ⟨_, rfl⟩
  have HST0 : Hid (ExAt w W OB (.slice none 0 0) (S.take 0)) := hid (by
    rw [← hW, ← hOB]
    exact ⟨(two_new w _ _).2, OwnS.nil _ _ _, (two_new w _ _).1, ((Below.refl _ _).alloc (Nat.le_refl _) _).alloc (by simp) _⟩)
  have HOB := hid hOB
  have HWE := hid hW
  clear hW hOB
  go_enter Tryz.func33, Tryz.ntmps33
  go_wp2_with fail
  have hW := HWE.out
  rw [hW]
  clear hW
  go_loopw [10] (fun v10 wr => ∃ (i : Nat) (v : Value), v10 = .int .i64 i ∧ i ≤ d ∧ ExAt w wr OB v (S.take i)) (fun v10 _ => d - (intOf v10).toNat)
  case atStart => exact ⟨0, _, rfl, by omega, HST0.out⟩
  case round =>
    obtain ⟨i, v, rfl, hi_, hat⟩ := hrel
    have HEX0 := hid hat
    clear hat
    by_cases hlt : i < d
    · have hil : i < ks.length := by rw [HD.out]; exact hlt
      have hiS : i < S.length := by rw [HSL.out]; exact hlt
      have hbr := HEX0.out.below
      obtain ⟨b2, o2, kk, ss, y2, y3, y4, A5, n5, c5, A6, n6, c6, A7, n7, c7, hA3, hr1, e0, e1, e2, e3, e4, e5, e6, e7⟩ := node_at (Sl.more (Sl.below HKK.out.1 hbr) hbr.size) ((HKK.out.2.keep hbr).more hbr.size) hil HD.out.symm
      obtain ⟨wA, hwA⟩ : ∃ wA, wr.alloc (.cells #[.int .i64 kk, .string ss, .int .i64 y2, .int .i64 y3, .int .i64 y4, .slice A5 n5 c5, .slice A6 n6 c6, .slice A7 n7 c7] 26) = wA := ⟨_, rfl⟩
      have hbA : Below wr.heap.size wr wA := by rw [← hwA]; exact (Below.refl _ _).alloc (Nat.le_refl _) _
      have hsA : wA.heap[wr.heap.size]? = some (.cells #[.int .i64 kk, .string ss, .int .i64 y2, .int .i64 y3, .int .i64 y4, .slice A5 n5 c5, .slice A6 n6 c6, .slice A7 n7 c7] 26 (0, 0)) := by rw [← hwA]; exact heap_alloc_new wr _
      have HE := hid (fun w1 (h : Below wA.heap.size wA w1) => HIH.out ks[i] (List.getElem_mem hil) w1 _ q (hr1.far (Nat.le_refl _) (hbA.trans (h.mono hbA.size))) (HOK.out _ (List.getElem_mem hil)) (HNK.out _ (List.getElem_mem hil)) (Nat.le_trans (cntN_mem (List.getElem_mem hil)) HCK.out) ((HX.out.below hbr).below (hbA.trans (h.mono hbA.size))))
      rw [← HSG.out i hil hiS] at HE
      have HST := hid (t_take hiS)
      have HLT : Hid (∀ g, v.ownBlock = some g → g < wr.heap.size) := hid (fun g hg => (HEX0.out.own.lt g hg).2)
      have HBD : Hid (Below wA.heap.size wA wA.drew) := hid (below_drawn wA 1)
      have HBW : Hid (Below wr.heap.size wr wA.drew) := hid (hbA.trans (HBD.out.mono hbA.size))
      have HSD : Hid (wA.drew.heap[wr.heap.size]? = some (.cells #[.int .i64 kk, .string ss, .int .i64 y2, .int .i64 y3, .int .i64 y4, .slice A5 n5 c5, .slice A6 n6 c6, .slice A7 n7 c7] 26 (0, 0))) := hid hsA
      have gk := (HEX0.out.far HBW.out).cell
      have hA := hid hwA
      obtain ⟨Av, nv, cv, rfl⟩ := t_sl_shape HEX0.out.own.ss
      generalize S[i] = X at *
      generalize ks[i] = kx at *
      clear hbr hr1 hbA hsA hil hwA
      subst hA3
      go_wp2_with fail
      have hwA := hA.out
      rw [hwA]
      clear hwA e0 e1 e2 e3 e4 e5 e6 e7
      refine wp_region_held_drew (S := fun w' => w'.heap[wr.heap.size]? = some (.cells #[.int .i64 kk, .string ss, .int .i64 y2, .int .i64 y3, .int .i64 y4, .slice A5 n5 c5, .slice A6 n6 c6, .slice A7 n7 c7] 26 (0, 0))) (by kernel_rfl) HSD.out (fun _ => ?_)
      try simp only [Act.put, List.getElem_toArray, List.getElem_cons_zero, List.getElem_cons_succ, List.setIfInBounds_toArray, List.set_cons_zero, List.set_cons_succ]
      refine wpAnyH_take (i := 1) (v := (.agg #[.int .i64 kk, .string ss, .int .i64 y2, .int .i64 y3, .int .i64 y4, .slice A5 n5 c5, .slice A6 n6 c6, .slice A7 n7 c7])) rfl (by kernel_rfl) (by kernel_rfl) (by kernel_rfl) (fun _ _ _ h => h) (Or.inl ⟨by kernel_rfl, by intro w' hSw; obtain ⟨u0, u1, u2, u3, u4, u5, u6, u7⟩ := t_row8 hSw; go_simp⟩) HSD.out ?_
      try simp only [Act.put, List.getElem_toArray, List.getElem_cons_zero, List.getElem_cons_succ, List.setIfInBounds_toArray, List.set_cons_zero, List.set_cons_succ]
      refine wpAnyH_ready (rs := [0, 2]) (by kernel_rfl) (by simp) ?_
      refine AllReadyH.cons rfl (fun K hK => ?_) (AllReadyH.cons rfl (fun K hK => ?_) AllReadyH.nil)
      · go_simp
        refine hK.out _ _ HSD.out (fun _ => ?_)
        clear hK K
        try simp only [Act.put, List.getElem_toArray, List.getElem_cons_zero, List.getElem_cons_succ, List.setIfInBounds_toArray, List.set_cons_zero, List.set_cons_succ]
        refine wpAnyH_ready (rs := [2]) (by kernel_rfl) (by simp) ?_
        refine AllReadyH.cons rfl (fun K hK => ?_) AllReadyH.nil
        go_simp
        refine (HE.out _ HBD.out).mono ?_
        rintro e w2 ⟨rfl, hb⟩
        have hbr2 := HBW.out.trans (hb.mono HBW.out.size)
        have HEX2 := hid (HEX0.out.far hbr2)
        have HS2 := hid ((hb.block _ (block_lt HSD.out)).trans HSD.out)
        clear hb hbr2
        refine hK.out _ _ HS2.out (fun _ => ?_)
        clear hK K
        try simp only [Act.put, List.getElem_toArray, List.getElem_cons_zero, List.getElem_cons_succ, List.setIfInBounds_toArray, List.set_cons_zero, List.set_cons_succ]
        refine wpAnyH_ready (rs := [3]) (by kernel_rfl) (by simp) ?_
        refine AllReadyH.cons rfl (fun K hK => ?_) AllReadyH.nil
        go_simp
        have HS3 := hid ((((Below.refl w2.heap.size w2).alloc (Nat.le_refl _) (.cells #[sv X] 9)).block _ (block_lt HS2.out)).trans HS2.out)
        refine hK.out _ _ HS3.out (fun _ => ?_)
        clear hK K
        try simp only [Act.put, List.getElem_toArray, List.getElem_cons_zero, List.getElem_cons_succ, List.setIfInBounds_toArray, List.set_cons_zero, List.set_cons_succ]
        refine wpAnyH_ready (rs := [4]) (by kernel_rfl) (by simp) ?_
        refine AllReadyH.cons rfl (fun K hK => ?_) AllReadyH.nil
        refine step_appS rfl (.tmp 14) (.tmp 17) _ rfl (w.heap.size + 2) el_str _ _ rfl rfl (HEX2.out.own.alloc _) (ss_new w2 X _) (by simp; omega) (by have := block_lt HEX2.out.box; rw [World.size_alloc]; omega) (fun v4 w4 hown4 hg4 hbk4 => ?_)
        obtain ⟨g4, c4, n4, rfl⟩ := own_shape hown4 (by simp)
        rw [← HST.out] at hown4
        obtain ⟨x1, x2, x3⟩ := (HEX2.out.far ((Below.refl _ _).alloc (Nat.le_refl _) _)).grown hown4 hg4
        have HS4 := hid ((hg4.block _ (block_lt HS3.out) (by intro e; have := HLT.out _ e.symm; omega)).trans HS3.out)
        have X3 := hid x3
        have HS5 := hid (block_turn HS4.out (turn_set w4 (w.heap.size + 1) 0 (.slice (some ⟨g4, 0, none⟩) n4 c4)) (by have := block_lt HEX0.out.box; omega))
        clear x3 hown4 hg4 hbk4
        refine hK.out _ _ HS4.out (fun _ => ?_)
        clear hK K
        try simp only [Act.put, List.getElem_toArray, List.getElem_cons_zero, List.getElem_cons_succ, List.setIfInBounds_toArray, List.set_cons_zero, List.set_cons_succ]
        refine wpAnyH_ready (rs := [5]) (by kernel_rfl) (by simp) ?_
        refine AllReadyH.cons rfl (fun K hK => ?_) AllReadyH.nil
        go_simp
        refine hK.out _ _ HS5.out (fun _ => ?_)
        clear hK K
        try simp only [Act.put, List.getElem_toArray, List.getElem_cons_zero, List.getElem_cons_succ, List.setIfInBounds_toArray, List.set_cons_zero, List.set_cons_succ]
        refine wpAnyH_done (by kernel_rfl) ?_ _
        go_wp2_with fail
        go_roundw
        case rel => exact ⟨i + 1, _, rfl, by omega, X3.out⟩
        case measure => simp [intOf]; omega
      · go_simp
        refine (HE.out _ HBD.out).mono ?_
        rintro e w2 ⟨rfl, hb⟩
        have hbr2 := HBW.out.trans (hb.mono HBW.out.size)
        have HEX2 := hid (HEX0.out.far hbr2)
        have HS2 := hid ((hb.block _ (block_lt HSD.out)).trans HSD.out)
        clear hb hbr2
        have gk2 := HEX2.out.cell
        refine hK.out _ _ HS2.out (fun _ => ?_)
        clear hK K
        try simp only [Act.put, List.getElem_toArray, List.getElem_cons_zero, List.getElem_cons_succ, List.setIfInBounds_toArray, List.set_cons_zero, List.set_cons_succ]
        refine wpAnyH_ready (rs := [0, 3]) (by kernel_rfl) (by simp) ?_
        refine AllReadyH.cons rfl (fun K hK => ?_) (AllReadyH.cons rfl (fun K hK => ?_) AllReadyH.nil)
        · go_simp
          refine hK.out _ _ HS2.out (fun _ => ?_)
          clear hK K
          try simp only [Act.put, List.getElem_toArray, List.getElem_cons_zero, List.getElem_cons_succ, List.setIfInBounds_toArray, List.set_cons_zero, List.set_cons_succ]
          refine wpAnyH_ready (rs := [3]) (by kernel_rfl) (by simp) ?_
          refine AllReadyH.cons rfl (fun K hK => ?_) AllReadyH.nil
          go_simp
          have HS3 := hid ((((Below.refl w2.heap.size w2).alloc (Nat.le_refl _) (.cells #[sv X] 9)).block _ (block_lt HS2.out)).trans HS2.out)
          refine hK.out _ _ HS3.out (fun _ => ?_)
          clear hK K
          try simp only [Act.put, List.getElem_toArray, List.getElem_cons_zero, List.getElem_cons_succ, List.setIfInBounds_toArray, List.set_cons_zero, List.set_cons_succ]
          refine wpAnyH_ready (rs := [4]) (by kernel_rfl) (by simp) ?_
          refine AllReadyH.cons rfl (fun K hK => ?_) AllReadyH.nil
          refine step_appS rfl (.tmp 14) (.tmp 17) _ rfl (w.heap.size + 2) el_str _ _ rfl rfl (HEX2.out.own.alloc _) (ss_new w2 X _) (by simp; omega) (by have := block_lt HEX2.out.box; rw [World.size_alloc]; omega) (fun v4 w4 hown4 hg4 hbk4 => ?_)
          obtain ⟨g4, c4, n4, rfl⟩ := own_shape hown4 (by simp)
          rw [← HST.out] at hown4
          obtain ⟨x1, x2, x3⟩ := (HEX2.out.far ((Below.refl _ _).alloc (Nat.le_refl _) _)).grown hown4 hg4
          have HS4 := hid ((hg4.block _ (block_lt HS3.out) (by intro e; have := HLT.out _ e.symm; omega)).trans HS3.out)
          have X3 := hid x3
          have HS5 := hid (block_turn HS4.out (turn_set w4 (w.heap.size + 1) 0 (.slice (some ⟨g4, 0, none⟩) n4 c4)) (by have := block_lt HEX0.out.box; omega))
          clear x3 hown4 hg4 hbk4
          refine hK.out _ _ HS4.out (fun _ => ?_)
          clear hK K
          try simp only [Act.put, List.getElem_toArray, List.getElem_cons_zero, List.getElem_cons_succ, List.setIfInBounds_toArray, List.set_cons_zero, List.set_cons_succ]
          refine wpAnyH_ready (rs := [5]) (by kernel_rfl) (by simp) ?_
          refine AllReadyH.cons rfl (fun K hK => ?_) AllReadyH.nil
          go_simp
          refine hK.out _ _ HS5.out (fun _ => ?_)
          clear hK K
          try simp only [Act.put, List.getElem_toArray, List.getElem_cons_zero, List.getElem_cons_succ, List.setIfInBounds_toArray, List.set_cons_zero, List.set_cons_succ]
          refine wpAnyH_done (by kernel_rfl) ?_ _
          go_wp2_with fail
          go_roundw
          case rel => exact ⟨i + 1, _, rfl, by omega, X3.out⟩
          case measure => simp [intOf]; omega
        · go_simp
          have HS3 := hid ((((Below.refl w2.heap.size w2).alloc (Nat.le_refl _) (.cells #[sv X] 9)).block _ (block_lt HS2.out)).trans HS2.out)
          have gk3 := (HEX2.out.far ((Below.refl w2.heap.size w2).alloc (Nat.le_refl _) (.cells #[sv X] 9))).cell
          refine hK.out _ _ HS3.out (fun _ => ?_)
          clear hK K
          try simp only [Act.put, List.getElem_toArray, List.getElem_cons_zero, List.getElem_cons_succ, List.setIfInBounds_toArray, List.set_cons_zero, List.set_cons_succ]
          refine wpAnyH_ready (rs := [0]) (by kernel_rfl) (by simp) ?_
          refine AllReadyH.cons rfl (fun K hK => ?_) AllReadyH.nil
          go_simp
          refine hK.out _ _ HS3.out (fun _ => ?_)
          clear hK K
          try simp only [Act.put, List.getElem_toArray, List.getElem_cons_zero, List.getElem_cons_succ, List.setIfInBounds_toArray, List.set_cons_zero, List.set_cons_succ]
          refine wpAnyH_ready (rs := [4]) (by kernel_rfl) (by simp) ?_
          refine AllReadyH.cons rfl (fun K hK => ?_) AllReadyH.nil
          refine step_appS rfl (.tmp 14) (.tmp 17) _ rfl (w.heap.size + 2) el_str _ _ rfl rfl (HEX2.out.own.alloc _) (ss_new w2 X _) (by simp; omega) (by have := block_lt HEX2.out.box; rw [World.size_alloc]; omega) (fun v4 w4 hown4 hg4 hbk4 => ?_)
          obtain ⟨g4, c4, n4, rfl⟩ := own_shape hown4 (by simp)
          rw [← HST.out] at hown4
          obtain ⟨x1, x2, x3⟩ := (HEX2.out.far ((Below.refl _ _).alloc (Nat.le_refl _) _)).grown hown4 hg4
          have HS4 := hid ((hg4.block _ (block_lt HS3.out) (by intro e; have := HLT.out _ e.symm; omega)).trans HS3.out)
          have X3 := hid x3
          have HS5 := hid (block_turn HS4.out (turn_set w4 (w.heap.size + 1) 0 (.slice (some ⟨g4, 0, none⟩) n4 c4)) (by have := block_lt HEX0.out.box; omega))
          clear x3 hown4 hg4 hbk4
          refine hK.out _ _ HS4.out (fun _ => ?_)
          clear hK K
          try simp only [Act.put, List.getElem_toArray, List.getElem_cons_zero, List.getElem_cons_succ, List.setIfInBounds_toArray, List.set_cons_zero, List.set_cons_succ]
          refine wpAnyH_ready (rs := [5]) (by kernel_rfl) (by simp) ?_
          refine AllReadyH.cons rfl (fun K hK => ?_) AllReadyH.nil
          go_simp
          refine hK.out _ _ HS5.out (fun _ => ?_)
          clear hK K
          try simp only [Act.put, List.getElem_toArray, List.getElem_cons_zero, List.getElem_cons_succ, List.setIfInBounds_toArray, List.set_cons_zero, List.set_cons_succ]
          refine wpAnyH_done (by kernel_rfl) ?_ _
          go_wp2_with fail
          go_roundw
          case rel => exact ⟨i + 1, _, rfl, by omega, X3.out⟩
          case measure => simp [intOf]; omega
    · obtain rfl : i = d := by omega
      have hex := HEX0.out
      rw [List.take_of_length_le (by rw [HSL.out]; omega)] at hex
      have hbr := hex.below
      obtain ⟨g0, g1, g2, g3, g4, g5, g6, g7⟩ := t_row8 (hex.node.trans (congrArg some HOB.out.symm))
      have gb := hex.cell
      have hown := hex.own
      have HBR := hid hbr
      clear hlt HEX0 hex
      have hd0 := HD0.out
      have hsl := HSL.out
      subst hd0
      obtain ⟨s0, s1, s2, rfl⟩ : ∃ s0 s1 s2, S = [s0, s1, s2] := by match S, hsl with | [x, y, z], _ => exact ⟨x, y, z, rfl⟩
      obtain ⟨g, c, rfl, hgb, hgl, hgc, hgm⟩ := own_form hown.row (by simp)
      simp only [List.length_cons, List.length_nil, Nat.zero_add] at gb hown hgc
      have d0 := hown.cell 0 (by simp)
      have d1 := hown.cell 1 (by simp)
      have d2 := hown.cell 2 (by simp)
      simp only [List.getElem_cons_zero, List.getElem_cons_succ] at d0 d1 d2
      have HT : Hid (nodeS 11 text n ts ns [s0, s1, s2] = ([40] : Bt) ++ (([105, 102, 32] : Bt) ++ s0 ++ ([32, 116, 104, 101, 110, 32] : Bt) ++ s1 ++ ([32, 101, 108, 115, 101, 32] : Bt) ++ s2) ++ ([41] : Bt)) := hid (by simp [nodeS, cat])
      rw [HT.out] at hlen
      simp only [List.length_append, List.length_cons, List.length_nil] at hlen
      have hz0 := sv_size s0
      have hz1 := sv_size s1
      have hz2 := sv_size s2
      have q0 : ¬ (9223372036854775807 < 3 + s0.length) := by omega
      have q1 : ¬ (9223372036854775807 < 3 + s0.length + 6) := by omega
      have q2 : ¬ (9223372036854775807 < 3 + s0.length + 6 + s1.length) := by omega
      have q3 : ¬ (9223372036854775807 < 3 + s0.length + 6 + s1.length + 6) := by omega
      have q4 : ¬ (9223372036854775807 < 3 + s0.length + 6 + s1.length + 6 + s2.length) := by omega
      have q5 : ¬ (9223372036854775807 < 1 + (3 + s0.length + 6 + s1.length + 6 + s2.length)) := by omega
      have q6 : ¬ (9223372036854775807 < 1 + (3 + s0.length + 6 + s1.length + 6 + s2.length) + 1) := by omega
      have G1 := hid g1
      have G2 := hid g2
      have G5 := hid g5
      have GB := hid gb
      have D0 := hid d0
      have D1 := hid d1
      have D2 := hid d2
      have HB0 : Hid (Below wr.heap.size wr wr.drew) := hid (below_drawn wr 1)
      clear g1 g2 g3 g4 g5 g6 g7 gb hown hbr hlen d0 d1 d2
      go_wp2_with fail
      refine wp_region_held_drew (S := fun w' => Below wr.heap.size wr w') (by kernel_rfl) HB0.out (fun _ => ?_)
      try simp only [Act.put, List.getElem_toArray, List.getElem_cons_zero, List.getElem_cons_succ, List.setIfInBounds_toArray, List.set_cons_zero, List.set_cons_succ]
      refine tkf 0 (.slice (some ⟨g, 0, none⟩) 3 c) (kp1 GB.out) HB0.out ?_
      refine tk 1 (.pointer (some ⟨g, 0, none⟩)) HB0.out ?_
      refine tkf 2 (sv s0) (kp1 D0.out) HB0.out ?_
      refine tk 3 (.string ((⟨#[105, 102, 32]⟩ : ByteArray) ++ ⟨s0.toArray⟩)) HB0.out ?_
      refine tk 4 (.string ((⟨#[105, 102, 32]⟩ : ByteArray) ++ ⟨s0.toArray⟩ ++ ⟨#[32, 116, 104, 101, 110, 32]⟩)) HB0.out ?_
      refine tkf 5 (.slice (some ⟨g, 0, none⟩) 3 c) (kp1 GB.out) HB0.out ?_
      refine tk 6 (.pointer (some ⟨g, 1, none⟩)) HB0.out ?_
      refine tkf 7 (sv s1) (kp1 D1.out) HB0.out ?_
      refine tk 8 (.string ((⟨#[105, 102, 32]⟩ : ByteArray) ++ ⟨s0.toArray⟩ ++ ⟨#[32, 116, 104, 101, 110, 32]⟩ ++ ⟨s1.toArray⟩)) HB0.out ?_
      refine tk 9 (.string ((⟨#[105, 102, 32]⟩ : ByteArray) ++ ⟨s0.toArray⟩ ++ ⟨#[32, 116, 104, 101, 110, 32]⟩ ++ ⟨s1.toArray⟩ ++ ⟨#[32, 101, 108, 115, 101, 32]⟩)) HB0.out ?_
      refine tkf 10 (.slice (some ⟨g, 0, none⟩) 3 c) (kp1 GB.out) HB0.out ?_
      refine tk 11 (.pointer (some ⟨g, 2, none⟩)) HB0.out ?_
      refine tkf 12 (sv s2) (kp1 D2.out) HB0.out ?_
      refine tk 13 (.string ((⟨#[105, 102, 32]⟩ : ByteArray) ++ ⟨s0.toArray⟩ ++ ⟨#[32, 116, 104, 101, 110, 32]⟩ ++ ⟨s1.toArray⟩ ++ ⟨#[32, 101, 108, 115, 101, 32]⟩ ++ ⟨s2.toArray⟩)) HB0.out ?_
      refine tk 14 (.string ((⟨#[105, 102, 32]⟩ : ByteArray) ++ ⟨s0.toArray⟩ ++ ⟨#[32, 116, 104, 101, 110, 32]⟩ ++ ⟨s1.toArray⟩ ++ ⟨#[32, 101, 108, 115, 101, 32]⟩ ++ ⟨s2.toArray⟩)) HB0.out ?_
      refine wpAnyH_done (by kernel_rfl) ?_ _
      go_wp2_with fail
      go_ret
      refine ⟨?_, HBR.out.trans (HB0.out.mono HBR.out.size)⟩
      rw [HT.out]
      have e : (⟨([40] : Bt).toArray⟩ : ByteArray) ++ ((⟨([105, 102, 32] : Bt).toArray⟩ : ByteArray) ++ ⟨s0.toArray⟩ ++ ⟨([32, 116, 104, 101, 110, 32] : Bt).toArray⟩ ++ ⟨s1.toArray⟩ ++ ⟨([32, 101, 108, 115, 101, 32] : Bt).toArray⟩ ++ ⟨s2.toArray⟩) ++ ⟨([41] : Bt).toArray⟩ = ⟨(([40] : Bt) ++ (([105, 102, 32] : Bt) ++ s0 ++ ([32, 116, 104, 101, 110, 32] : Bt) ++ s1 ++ ([32, 101, 108, 115, 101, 32] : Bt) ++ s2) ++ ([41] : Bt)).toArray⟩ := by
        rw [str_append, str_append, str_append, str_append, str_append, str_append, str_append]
      exact congrArg (fun b => Ending.returned (Value.string b)) e
end Go.Proofs.YtbpedjkebemhnaaGreatDoor
