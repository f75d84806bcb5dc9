/- VX4 -/
import Derived.Test.YtbpedjkebemhnaaGreatDoorSA06
import Derived.Test.YtbpedjkebemhnaaGreatDoorSA23
set_option linter.unusedSimpArgs false
set_option linter.unusedVariables false
/- An expression as text, the reference: kinds [12, 13, 8]. -/
set_option linter.unusedVariables false
namespace Go.Proofs.YtbpedjkebemhnaaGreatDoor
open Go.RowKit

set_option maxRecDepth 100000 in
set_option maxHeartbeats 8000000 in
theorem rexpr_k12 (text : Bt) (n li co : Int) (ts : List TyD) (ns : List Bt) (ks : List NoD) (ih : ∀ y ∈ ks, RExC y) : RExC (.mk 12 text n li co ts ns ks) := by
  intro w z m hr hok hnd hc
  have hlen := expr_len _ m hnd
  obtain ⟨q, rfl, hk20, hown, hns, hts, hkk⟩ := node_open hnd
  rw [own_kids, Bool.and_eq_true, Bool.and_eq_true, Bool.and_eq_true, Bool.and_eq_true, decide_eq_true_eq, decide_eq_true_eq, decide_eq_true_eq, decide_eq_true_eq] at hown
  obtain ⟨⟨⟨⟨hn0, hn1⟩, htx⟩, hlo, hhi⟩, hkn, hkd⟩ := hown
  have htl := text_len htx
  rw [okN] at hok
  obtain ⟨ok1, ok2, ok3, ok4, ok5, ok6, ok7, ok8⟩ := hok
  obtain ⟨A1, c1, A2, c2, A3, c3, xt, xk, rfl, s1, r1, s2, s3, r3⟩ := hr.parts
  have l1 := (t_sl_len s1).2
  have l2 := (t_sl_len s2).2
  have l3 := (t_sl_len s3).2
  rw [exprS] at hlen ⊢
  rw [cntN] at hc hlen
  have hcT : cntTs ts ≤ 100000 := by omega
  have hcK : cntNs ks ≤ 100000 := by omega
  have hdc : ks.length ≤ 100000 := Nat.le_trans (cntNs_len ks) hcK
  obtain ⟨S, hS⟩ : ∃ S, exprSs ks = S := ⟨_, rfl⟩
  have hSL0 : S.length = ks.length := by rw [← hS, exprSs_length]
  have HSG : Hid (∀ (i : Nat) (h : i < ks.length) (h2 : i < S.length), S[i] = exprS ks[i]) := hid (by
    intro i h h2
    subst hS
    simp [exprSs_map])
  rw [hS] at hlen ⊢
  have HKK := hid (And.intro s3 r3)
  have HTT := hid (And.intro s1 r1)
  have HSS := hid s2
  have HIH := hid ih
  have HOK := hid (okNs_mem.1 ok8)
  have HNK := hid hkk
  have HCK := hid hcK
  have HCT := hid hcT
  have HTS := hid hts
  have HNS := hid hns
  have hn64 := ok3
  clear hr s1 r1 s2 s3 r3 ih ok1 ok2 ok3 ok4 ok5 ok6 ok7 ok8 hkk hts hns hS hnd hk20
  obtain ⟨a, hA⟩ : ∃ a, ts.length = a := ⟨_, rfl⟩
  obtain ⟨b, hB⟩ : ∃ b, ns.length = b := ⟨_, rfl⟩
  obtain ⟨d, hD⟩ : ∃ d, ks.length = d := ⟨_, rfl⟩
  rw [hA] at l1 HTT hlo hhi
  rw [hB] at l2 HSS hkn hkd
  rw [hD] at l3 HKK hkd hdc hSL0
  rw [hA, hB, hD]
  have HA := hid hA
  have HBN := hid hB
  have HD := hid hD
  have HSL := hid hSL0
  clear hA hB hD hSL0
  have hd0 : d = 1 := by
    have h : (hasD 12).kids = 1 := rfl
    rw [h] at hkd
    unfold kidsOf at hkd
    rw [if_neg (by decide)] at hkd
    omega
  have HD0 := hid hd0
  clear hd0 hkd hkn
  have h5 : (hasD 12).most = 5 := rfl
  obtain ⟨j, rfl⟩ := Int.eq_ofNat_of_zero_le hn0
  have hj6 : j < 6 := by omega
  clear h5
  obtain ⟨W, hW⟩ : ∃ W, w.alloc (.cells #[.int .i64 12, sv text, .int .i64 (j : Int), .int .i64 li, .int .i64 co, .slice A1 a c1, .slice A2 b c2, .slice A3 d c3] 26) = W := ⟨_, rfl⟩
  have hb1 : Below w.heap.size w W := by rw [← hW]; exact (Below.refl _ _).alloc (Nat.le_refl _) _
  have HBX : Hid (W.heap[w.heap.size]? = some (.cells #[.int .i64 12, sv text, .int .i64 (j : Int), .int .i64 li, .int .i64 co, .slice A1 a c1, .slice A2 b c2, .slice A3 d c3] 26 (0, 0))) := hid (by rw [← hW]; exact heap_alloc_new w _)
  have HB1 := hid hb1
  have HWE := hid hW
  clear hW hb1
  go_enter Tryz.func35, Tryz.ntmps35
  go_wp2_with fail
  have hW := HWE.out
  rw [hW]
  clear hW
  go_loopw [3, 4] (fun v3 v4 wr => ∃ i : Nat, v4 = .int .i64 i ∧ i ≤ d ∧ OwnS wr W.heap.size 9 v3 (S.take i) ∧ Below W.heap.size W wr) (fun v3 v4 _ => d - (intOf v4).toNat)
  case atStart => exact ⟨0, rfl, by omega, OwnS.nil _ _ _, Below.refl _ _⟩
  case round =>
    obtain ⟨i, rfl, hi_, hown, hbr⟩ := hrel
    have HOWN := hid hown
    have HB := hid hbr
    obtain ⟨p0, p1, p2, p3, p4, p5, p6, p7⟩ := t_row8 ((hbr.block _ (block_lt HBX.out)).trans HBX.out)
    by_cases hlt : i < d
    · have hil : i < ks.length := by rw [HD.out]; exact hlt
      have hiS : i < S.length := by rw [HSL.out]; exact hlt
      have hbw := HB1.out.trans (hbr.mono HB1.out.size)
      obtain ⟨b2, o2, kk, ss, y2, y3, y4, A5, n5, c5, A6, n6, c6, A7, n7, c7, hA3, hr1, e0, e1, e2, e3, e4, e5, e6, e7⟩ := node_at (Sl.more (Sl.below HKK.out.1 hbw) hbw.size) ((HKK.out.2.keep hbw).more hbw.size) hil HD.out.symm
      have HE := HIH.out ks[i] (List.getElem_mem hil) wr _ q hr1 (HOK.out _ (List.getElem_mem hil)) (HNK.out _ (List.getElem_mem hil)) (Nat.le_trans (cntN_mem (List.getElem_mem hil)) HCK.out)
      rw [← HSG.out i hil hiS] at HE
      have HE := hid HE
      have HST := hid (t_take hiS)
      obtain ⟨Av, nv, cv, rfl⟩ := t_sl_shape hown.ss
      generalize S[i] = X at *
      generalize ks[i] = kx at *
      clear hbr hr1 hil hown hbw
      subst hA3
      go_wp2_with fail
      refine HE.out.mono ?_
      rintro e w2 ⟨rfl, hb⟩
      have hown2 := HOWN.out.below hb
      have hb2 := HB.out.trans (hb.mono HB.out.size)
      clear hb e0 e1 e2 e3 e4 e5 e6 e7 p0 p1 p2 p3 p4 p5 p6 p7
      go_wp2_with (at_builtin; refine wpList_appS rfl (.tmp 13) (.tmp 20) _ rfl W.heap.size el_str _ _ rfl rfl (hown2.alloc _) (ss_new w2 X _) (by simp; omega) (le_alloc hb2.size _) (fun v3 w3 hown3 hg3 hbk3 => ?_); have hb3 := below_appS (hb2.alloc hb2.size _) (hown2.alloc _) hg3 (Nat.le_refl _) (le_alloc hb2.size _); have HOWN3 := hid hown3; have HB3 := hid hb3; clear hown3 hb3 hown2 hb2 hg3 hbk3)
      go_roundw
      case rel => exact ⟨i + 1, rfl, by omega, by rw [HST.out]; exact HOWN3.out, HB3.out⟩
      case measure => simp [intOf]; omega
    · obtain rfl : i = d := by omega
      rw [List.take_of_length_le (by rw [HSL.out]; omega)] at hown
      obtain ⟨wT, hT⟩ : ∃ wT, wr.alloc (.cells #[.string ⟨#[110, 117, 108, 108]⟩, .string ⟨#[98, 111, 111, 108]⟩, .string ⟨#[105, 110, 116]⟩, .string ⟨#[115, 116, 114]⟩, .string ⟨#[114, 101, 99, 111, 114, 100]⟩, .string ⟨#[102, 117, 110, 99, 116, 105, 111, 110]⟩] 9) = wT := ⟨_, rfl⟩
      have hbT : Below wr.heap.size wr wT := by rw [← hT]; exact (Below.refl _ _).alloc (Nat.le_refl _) _
      have htag : wT.heap[wr.heap.size]? = some (.cells #[.string ⟨#[110, 117, 108, 108]⟩, .string ⟨#[98, 111, 111, 108]⟩, .string ⟨#[105, 110, 116]⟩, .string ⟨#[115, 116, 114]⟩, .string ⟨#[114, 101, 99, 111, 114, 100]⟩, .string ⟨#[102, 117, 110, 99, 116, 105, 111, 110]⟩] 9 (0, 0)) := by rw [← hT]; exact heap_alloc_new wr _
      have hbr2 : Below W.heap.size W wT := hbr.trans (hbT.mono hbr.size)
      have hbw : Below w.heap.size w wT := HB1.out.trans (hbr2.mono HB1.out.size)
      have hown := hown.below hbT
      have HBR := hid hbw
      clear p1 p2 p3 p4 p5 p6
      obtain ⟨g0, g1, g2, g3, g4, g5, g6, g7⟩ := t_row8 ((hbr2.block _ (block_lt HBX.out)).trans HBX.out)
      have HTW := hid hT
      clear hT hlt hbr hbr2 HOWN
      have hd0 := HD0.out
      have hsl := HSL.out
      subst hd0
      obtain ⟨s0, rfl⟩ : ∃ s0, S = [s0] := by match S, hsl with | [x], _ => exact ⟨x, rfl⟩
      obtain ⟨g, c, rfl, hgb, hgl, hgc, hgm⟩ := own_form hown.row (by simp)
      simp only [List.length_cons, List.length_nil, Nat.zero_add] at hown hgc ⊢
      have d0 := hown.cell 0 (by simp)
      simp only [List.getElem_cons_zero, List.getElem_cons_succ] at d0
      have HT : Hid (nodeS 12 text (j : Int) ts ns [s0] = ([40] : Bt) ++ s0 ++ ([32, 105, 115, 32] : Bt) ++ (tagsL.getD j []) ++ ([41] : Bt)) := hid (by simp [nodeS, cat, Int.toNat_natCast])
      rw [HT.out] at hlen
      have q9 : ¬ ((6 : Int) ≤ (j : Int)) := by omega
      have TG := hid (show wT.cell? ⟨wr.heap.size, j, none⟩ = some (sv (tagsL.getD j [])) from by
        rw [cell_of_row _ _ _ _ _ _ htag]
        have h6 : j = 0 ∨ j = 1 ∨ j = 2 ∨ j = 3 ∨ j = 4 ∨ j = 5 := by omega
        rcases h6 with rfl | rfl | rfl | rfl | rfl | rfl <;> rfl)
      generalize tagsL.getD j [] = T at *
      try simp only [List.length_append, List.length_cons, List.length_nil] at hlen
      have hz0 := sv_size s0
      have hz1 := sv_size T
      have q0 : ¬ (9223372036854775807 < 1 + s0.length) := by omega
      have q1 : ¬ (9223372036854775807 < 1 + s0.length + 4) := by omega
      have q2 : ¬ (9223372036854775807 < 1 + s0.length + 4 + T.length) := by omega
      have q3 : ¬ (9223372036854775807 < 1 + s0.length + 4 + T.length + 1) := by omega
      have G1 := hid g1
      have G2 := hid g2
      have G5 := hid g5
      have D0 := hid d0
      have HB0 : Hid (Below wT.heap.size wT wT.drew) := hid (below_drawn wT 1)
      clear g1 g2 g3 g4 g5 g6 g7 hown hbw hlen hbT htag d0
      rw [← HTW.out] at g0
      go_wp2_with fail
      have hT := HTW.out
      rw [hT]
      clear hT
      refine wp_region_held_drew (S := fun w' => Below wT.heap.size wT w') (by kernel_rfl) HB0.out (fun _ => ?_)
      try simp only [Act.put, List.getElem_toArray, List.getElem_cons_zero, List.getElem_cons_succ, List.setIfInBounds_toArray, List.set_cons_zero, List.set_cons_succ]
      refine tk 0 (.slice (some ⟨g, 0, none⟩) 1 c) HB0.out ?_
      refine tk 1 (.pointer (some ⟨g, 0, none⟩)) HB0.out ?_
      refine tkf 2 (sv s0) (kp1 D0.out) HB0.out ?_
      refine tk 3 (.string ((⟨#[40]⟩ : ByteArray) ++ ⟨s0.toArray⟩)) HB0.out ?_
      refine tk 4 (.string ((⟨#[40]⟩ : ByteArray) ++ ⟨s0.toArray⟩ ++ ⟨#[32, 105, 115, 32]⟩)) HB0.out ?_
      refine tk 5 (.slice (some ⟨wr.heap.size, 0, none⟩) 6 6) HB0.out ?_
      refine tk 6 (.pointer (some ⟨w.heap.size, 2, none⟩)) HB0.out ?_
      refine tkf 7 (.int .i64 (j : Int)) (kp1 G2.out) HB0.out ?_
      refine tk 8 (.pointer (some ⟨wr.heap.size, j, none⟩)) HB0.out ?_
      refine tkf 9 (sv T) (kp1 TG.out) HB0.out ?_
      refine tk 10 (.string ((⟨#[40]⟩ : ByteArray) ++ ⟨s0.toArray⟩ ++ ⟨#[32, 105, 115, 32]⟩ ++ ⟨T.toArray⟩)) HB0.out ?_
      refine tk 11 (.string ((⟨#[40]⟩ : ByteArray) ++ ⟨s0.toArray⟩ ++ ⟨#[32, 105, 115, 32]⟩ ++ ⟨T.toArray⟩ ++ ⟨#[41]⟩)) HB0.out ?_
      refine tk 12 (.string ((⟨#[40]⟩ : ByteArray) ++ ⟨s0.toArray⟩ ++ ⟨#[32, 105, 115, 32]⟩ ++ ⟨T.toArray⟩ ++ ⟨#[41]⟩)) HB0.out ?_
      refine wpAnyH_done (by kernel_rfl) ?_ _
      go_wp2_with fail
      go_ret
      refine ⟨?_, HBR.out.trans (HB0.out.mono HBR.out.size)⟩
      rw [HT.out]
      have e : (⟨([40] : Bt).toArray⟩ : ByteArray) ++ ⟨s0.toArray⟩ ++ ⟨([32, 105, 115, 32] : Bt).toArray⟩ ++ ⟨T.toArray⟩ ++ ⟨([41] : Bt).toArray⟩ = ⟨(([40] : Bt) ++ s0 ++ ([32, 105, 115, 32] : Bt) ++ T ++ ([41] : Bt)).toArray⟩ := by
        rw [str_append, str_append, str_append, str_append]
      exact congrArg (fun b => Ending.returned (Value.string b)) e
set_option maxRecDepth 100000 in
set_option maxHeartbeats 8000000 in
theorem rexpr_k13 (text : Bt) (n li co : Int) (ts : List TyD) (ns : List Bt) (ks : List NoD) (ih : ∀ y ∈ ks, RExC y) : RExC (.mk 13 text n li co ts ns ks) := by
  intro w z m hr hok hnd hc
  have hlen := expr_len _ m hnd
  obtain ⟨q, rfl, hk20, hown, hns, hts, hkk⟩ := node_open hnd
  rw [own_kids, Bool.and_eq_true, Bool.and_eq_true, Bool.and_eq_true, Bool.and_eq_true, decide_eq_true_eq, decide_eq_true_eq, decide_eq_true_eq, decide_eq_true_eq] at hown
  obtain ⟨⟨⟨⟨hn0, hn1⟩, htx⟩, hlo, hhi⟩, hkn, hkd⟩ := hown
  have htl := text_len htx
  rw [okN] at hok
  obtain ⟨ok1, ok2, ok3, ok4, ok5, ok6, ok7, ok8⟩ := hok
  obtain ⟨A1, c1, A2, c2, A3, c3, xt, xk, rfl, s1, r1, s2, s3, r3⟩ := hr.parts
  have l1 := (t_sl_len s1).2
  have l2 := (t_sl_len s2).2
  have l3 := (t_sl_len s3).2
  rw [exprS] at hlen ⊢
  rw [cntN] at hc hlen
  have hcT : cntTs ts ≤ 100000 := by omega
  have hcK : cntNs ks ≤ 100000 := by omega
  have hdc : ks.length ≤ 100000 := Nat.le_trans (cntNs_len ks) hcK
  obtain ⟨S, hS⟩ : ∃ S, exprSs ks = S := ⟨_, rfl⟩
  have hSL0 : S.length = ks.length := by rw [← hS, exprSs_length]
  have HSG : Hid (∀ (i : Nat) (h : i < ks.length) (h2 : i < S.length), S[i] = exprS ks[i]) := hid (by
    intro i h h2
    subst hS
    simp [exprSs_map])
  rw [hS] at hlen ⊢
  have HKK := hid (And.intro s3 r3)
  have HTT := hid (And.intro s1 r1)
  have HSS := hid s2
  have HIH := hid ih
  have HOK := hid (okNs_mem.1 ok8)
  have HNK := hid hkk
  have HCK := hid hcK
  have HCT := hid hcT
  have HTS := hid hts
  have HNS := hid hns
  have hn64 := ok3
  clear hr s1 r1 s2 s3 r3 ih ok1 ok2 ok3 ok4 ok5 ok6 ok7 ok8 hkk hts hns hS hnd hk20
  obtain ⟨a, hA⟩ : ∃ a, ts.length = a := ⟨_, rfl⟩
  obtain ⟨b, hB⟩ : ∃ b, ns.length = b := ⟨_, rfl⟩
  obtain ⟨d, hD⟩ : ∃ d, ks.length = d := ⟨_, rfl⟩
  rw [hA] at l1 HTT hlo hhi
  rw [hB] at l2 HSS hkn hkd
  rw [hD] at l3 HKK hkd hdc hSL0
  rw [hA, hB, hD]
  have HA := hid hA
  have HBN := hid hB
  have HD := hid hD
  have HSL := hid hSL0
  clear hA hB hD hSL0
  have hd0 : d = 1 := by
    have h : (hasD 13).kids = 1 := rfl
    rw [h] at hkd
    unfold kidsOf at hkd
    rw [if_neg (by decide)] at hkd
    omega
  have HD0 := hid hd0
  clear hd0 hkd hkn
  obtain ⟨W, hW⟩ : ∃ W, w.alloc (.cells #[.int .i64 13, sv text, .int .i64 n, .int .i64 li, .int .i64 co, .slice A1 a c1, .slice A2 b c2, .slice A3 d c3] 26) = W := ⟨_, rfl⟩
  have hb1 : Below w.heap.size w W := by rw [← hW]; exact (Below.refl _ _).alloc (Nat.le_refl _) _
  have HBX : Hid (W.heap[w.heap.size]? = some (.cells #[.int .i64 13, sv text, .int .i64 n, .int .i64 li, .int .i64 co, .slice A1 a c1, .slice A2 b c2, .slice A3 d c3] 26 (0, 0))) := hid (by rw [← hW]; exact heap_alloc_new w _)
  have HB1 := hid hb1
  have HWE := hid hW
  clear hW hb1
  go_enter Tryz.func35, Tryz.ntmps35
  go_wp2_with fail
  have hW := HWE.out
  rw [hW]
  clear hW
  go_loopw [3, 4] (fun v3 v4 wr => ∃ i : Nat, v4 = .int .i64 i ∧ i ≤ d ∧ OwnS wr W.heap.size 9 v3 (S.take i) ∧ Below W.heap.size W wr) (fun v3 v4 _ => d - (intOf v4).toNat)
  case atStart => exact ⟨0, rfl, by omega, OwnS.nil _ _ _, Below.refl _ _⟩
  case round =>
    obtain ⟨i, rfl, hi_, hown, hbr⟩ := hrel
    have HOWN := hid hown
    have HB := hid hbr
    obtain ⟨p0, p1, p2, p3, p4, p5, p6, p7⟩ := t_row8 ((hbr.block _ (block_lt HBX.out)).trans HBX.out)
    by_cases hlt : i < d
    · have hil : i < ks.length := by rw [HD.out]; exact hlt
      have hiS : i < S.length := by rw [HSL.out]; exact hlt
      have hbw := HB1.out.trans (hbr.mono HB1.out.size)
      obtain ⟨b2, o2, kk, ss, y2, y3, y4, A5, n5, c5, A6, n6, c6, A7, n7, c7, hA3, hr1, e0, e1, e2, e3, e4, e5, e6, e7⟩ := node_at (Sl.more (Sl.below HKK.out.1 hbw) hbw.size) ((HKK.out.2.keep hbw).more hbw.size) hil HD.out.symm
      have HE := HIH.out ks[i] (List.getElem_mem hil) wr _ q hr1 (HOK.out _ (List.getElem_mem hil)) (HNK.out _ (List.getElem_mem hil)) (Nat.le_trans (cntN_mem (List.getElem_mem hil)) HCK.out)
      rw [← HSG.out i hil hiS] at HE
      have HE := hid HE
      have HST := hid (t_take hiS)
      obtain ⟨Av, nv, cv, rfl⟩ := t_sl_shape hown.ss
      generalize S[i] = X at *
      generalize ks[i] = kx at *
      clear hbr hr1 hil hown hbw
      subst hA3
      go_wp2_with fail
      refine HE.out.mono ?_
      rintro e w2 ⟨rfl, hb⟩
      have hown2 := HOWN.out.below hb
      have hb2 := HB.out.trans (hb.mono HB.out.size)
      clear hb e0 e1 e2 e3 e4 e5 e6 e7 p0 p1 p2 p3 p4 p5 p6 p7
      go_wp2_with (at_builtin; refine wpList_appS rfl (.tmp 13) (.tmp 20) _ rfl W.heap.size el_str _ _ rfl rfl (hown2.alloc _) (ss_new w2 X _) (by simp; omega) (le_alloc hb2.size _) (fun v3 w3 hown3 hg3 hbk3 => ?_); have hb3 := below_appS (hb2.alloc hb2.size _) (hown2.alloc _) hg3 (Nat.le_refl _) (le_alloc hb2.size _); have HOWN3 := hid hown3; have HB3 := hid hb3; clear hown3 hb3 hown2 hb2 hg3 hbk3)
      go_roundw
      case rel => exact ⟨i + 1, rfl, by omega, by rw [HST.out]; exact HOWN3.out, HB3.out⟩
      case measure => simp [intOf]; omega
    · obtain rfl : i = d := by omega
      rw [List.take_of_length_le (by rw [HSL.out]; omega)] at hown
      obtain ⟨wT, hT⟩ : ∃ wT, wr.alloc (.cells #[.string ⟨#[110, 117, 108, 108]⟩, .string ⟨#[98, 111, 111, 108]⟩, .string ⟨#[105, 110, 116]⟩, .string ⟨#[115, 116, 114]⟩, .string ⟨#[114, 101, 99, 111, 114, 100]⟩, .string ⟨#[102, 117, 110, 99, 116, 105, 111, 110]⟩] 9) = wT := ⟨_, rfl⟩
      have hbT : Below wr.heap.size wr wT := by rw [← hT]; exact (Below.refl _ _).alloc (Nat.le_refl _) _
      have htag : wT.heap[wr.heap.size]? = some (.cells #[.string ⟨#[110, 117, 108, 108]⟩, .string ⟨#[98, 111, 111, 108]⟩, .string ⟨#[105, 110, 116]⟩, .string ⟨#[115, 116, 114]⟩, .string ⟨#[114, 101, 99, 111, 114, 100]⟩, .string ⟨#[102, 117, 110, 99, 116, 105, 111, 110]⟩] 9 (0, 0)) := by rw [← hT]; exact heap_alloc_new wr _
      have hbr2 : Below W.heap.size W wT := hbr.trans (hbT.mono hbr.size)
      have hbw : Below w.heap.size w wT := HB1.out.trans (hbr2.mono HB1.out.size)
      have hown := hown.below hbT
      have HBR := hid hbw
      clear p1 p2 p3 p4 p5 p6
      obtain ⟨g0, g1, g2, g3, g4, g5, g6, g7⟩ := t_row8 ((hbr2.block _ (block_lt HBX.out)).trans HBX.out)
      have HTW := hid hT
      clear hT hlt hbr hbr2 HOWN
      have hd0 := HD0.out
      have hsl := HSL.out
      subst hd0
      obtain ⟨s0, rfl⟩ : ∃ s0, S = [s0] := by match S, hsl with | [x], _ => exact ⟨x, rfl⟩
      obtain ⟨g, c, rfl, hgb, hgl, hgc, hgm⟩ := own_form hown.row (by simp)
      simp only [List.length_cons, List.length_nil, Nat.zero_add] at hown hgc ⊢
      have d0 := hown.cell 0 (by simp)
      simp only [List.getElem_cons_zero, List.getElem_cons_succ] at d0
      obtain ⟨t0, rfl⟩ : ∃ t0, ts = [t0] := by
        have ha : ts.length = 1 := by rw [HA.out]; have h1 : (hasD 13).low = 1 := rfl; have h2 : (hasD 13).types = 1 := rfl; omega
        match ts, ha with | [x], _ => exact ⟨x, rfl⟩
      have HT : Hid (nodeS 13 text n [t0] ns [s0] = ([40] : Bt) ++ s0 ++ ([32, 97, 115, 32] : Bt) ++ (joinS [44, 32] ([t0].map showT)) ++ ([41] : Bt)) := hid (by simp [nodeS, cat, joinS])
      rw [HT.out] at hlen
      have HU := hid (fun w1 (h : Below wT.heap.size wT w1) => rtypes_any w1 [t0] A1 c1 xt (by rw [HA.out]; exact Sl.more (Sl.below (Sl.more (Sl.below HTT.out.1 hbw) hbw.size) h) h.size) ((((HTT.out.2.keep hbw).more hbw.size).keep h).more h.size) HTS.out HCT.out)
      rw [HA.out] at HU
      generalize joinS [44, 32] ([t0].map showT) = U at *
      try simp only [List.length_append, List.length_cons, List.length_nil] at hlen
      have hz0 := sv_size s0
      have hz1 := sv_size U
      have q0 : ¬ (9223372036854775807 < 1 + s0.length) := by omega
      have q1 : ¬ (9223372036854775807 < 1 + s0.length + 4) := by omega
      have q2 : ¬ (9223372036854775807 < 1 + s0.length + 4 + U.length) := by omega
      have q3 : ¬ (9223372036854775807 < 1 + s0.length + 4 + U.length + 1) := by omega
      have G1 := hid g1
      have G2 := hid g2
      have G5 := hid g5
      have D0 := hid d0
      have HB0 : Hid (Below wT.heap.size wT wT.drew) := hid (below_drawn wT 1)
      clear g1 g2 g3 g4 g5 g6 g7 hown hbw hlen hbT htag d0
      rw [← HTW.out] at g0
      go_wp2_with fail
      have hT := HTW.out
      rw [hT]
      clear hT
      refine wp_region_held_drew (S := fun w' => Below wT.heap.size wT w') (by kernel_rfl) HB0.out (fun _ => ?_)
      try simp only [Act.put, List.getElem_toArray, List.getElem_cons_zero, List.getElem_cons_succ, List.setIfInBounds_toArray, List.set_cons_zero, List.set_cons_succ]
      refine tk 0 (.slice (some ⟨g, 0, none⟩) 1 c) HB0.out ?_
      refine tk 1 (.pointer (some ⟨g, 0, none⟩)) HB0.out ?_
      refine tkf 2 (sv s0) (kp1 D0.out) HB0.out ?_
      refine tk 3 (.string ((⟨#[40]⟩ : ByteArray) ++ ⟨s0.toArray⟩)) HB0.out ?_
      refine tk 4 (.string ((⟨#[40]⟩ : ByteArray) ++ ⟨s0.toArray⟩ ++ ⟨#[32, 97, 115, 32]⟩)) HB0.out ?_
      refine tk 5 (.pointer (some ⟨w.heap.size, 5, none⟩)) HB0.out ?_
      refine tkf 6 (.slice A1 a c1) (kp1 G5.out) HB0.out ?_
      refine wpAnyH_ready (rs := [7]) (by kernel_rfl) (by simp) ?_
      refine AllReadyH.cons rfl (fun K hK => ?_) (AllReadyH.nil)
      go_simp
      refine (HU.out _ HB0.out).mono ?_
      rintro e wn0 ⟨rfl, hb⟩
      have HB2 := hid (HB0.out.trans (hb.mono HB0.out.size))
      clear hb
      refine hK.out _ _ HB2.out (fun _ => ?_)
      clear hK K
      try simp only [Act.put, List.getElem_toArray, List.getElem_cons_zero, List.getElem_cons_succ, List.setIfInBounds_toArray, List.set_cons_zero, List.set_cons_succ]
      refine tk 8 (.string ((⟨#[40]⟩ : ByteArray) ++ ⟨s0.toArray⟩ ++ ⟨#[32, 97, 115, 32]⟩ ++ ⟨U.toArray⟩)) HB2.out ?_
      refine tk 9 (.string ((⟨#[40]⟩ : ByteArray) ++ ⟨s0.toArray⟩ ++ ⟨#[32, 97, 115, 32]⟩ ++ ⟨U.toArray⟩ ++ ⟨#[41]⟩)) HB2.out ?_
      refine tk 10 (.string ((⟨#[40]⟩ : ByteArray) ++ ⟨s0.toArray⟩ ++ ⟨#[32, 97, 115, 32]⟩ ++ ⟨U.toArray⟩ ++ ⟨#[41]⟩)) HB2.out ?_
      refine wpAnyH_done (by kernel_rfl) ?_ _
      go_wp2_with fail
      go_ret
      refine ⟨?_, HBR.out.trans (HB2.out.mono HBR.out.size)⟩
      rw [HT.out]
      have e : (⟨([40] : Bt).toArray⟩ : ByteArray) ++ ⟨s0.toArray⟩ ++ ⟨([32, 97, 115, 32] : Bt).toArray⟩ ++ ⟨U.toArray⟩ ++ ⟨([41] : Bt).toArray⟩ = ⟨(([40] : Bt) ++ s0 ++ ([32, 97, 115, 32] : Bt) ++ U ++ ([41] : Bt)).toArray⟩ := by
        rw [str_append, str_append, str_append, str_append]
      exact congrArg (fun b => Ending.returned (Value.string b)) e
set_option maxRecDepth 100000 in
set_option maxHeartbeats 8000000 in
theorem rexpr_k8 (text : Bt) (n li co : Int) (ts : List TyD) (ns : List Bt) (ks : List NoD) (ih : ∀ y ∈ ks, RExC y) : RExC (.mk 8 text n li co ts ns ks) := by
  intro w z m hr hok hnd hc
  have hlen := expr_len _ m hnd
  obtain ⟨q, rfl, hk20, hown, hns, hts, hkk⟩ := node_open hnd
  rw [own_kids, Bool.and_eq_true, Bool.and_eq_true, Bool.and_eq_true, Bool.and_eq_true, decide_eq_true_eq, decide_eq_true_eq, decide_eq_true_eq, decide_eq_true_eq] at hown
  obtain ⟨⟨⟨⟨hn0, hn1⟩, htx⟩, hlo, hhi⟩, hkn, hkd⟩ := hown
  have htl := text_len htx
  rw [okN] at hok
  obtain ⟨ok1, ok2, ok3, ok4, ok5, ok6, ok7, ok8⟩ := hok
  obtain ⟨A1, c1, A2, c2, A3, c3, xt, xk, rfl, s1, r1, s2, s3, r3⟩ := hr.parts
  have l1 := (t_sl_len s1).2
  have l2 := (t_sl_len s2).2
  have l3 := (t_sl_len s3).2
  rw [exprS] at hlen ⊢
  rw [cntN] at hc hlen
  have hcT : cntTs ts ≤ 100000 := by omega
  have hcK : cntNs ks ≤ 100000 := by omega
  have hdc : ks.length ≤ 100000 := Nat.le_trans (cntNs_len ks) hcK
  obtain ⟨S, hS⟩ : ∃ S, exprSs ks = S := ⟨_, rfl⟩
  have hSL0 : S.length = ks.length := by rw [← hS, exprSs_length]
  have HSG : Hid (∀ (i : Nat) (h : i < ks.length) (h2 : i < S.length), S[i] = exprS ks[i]) := hid (by
    intro i h h2
    subst hS
    simp [exprSs_map])
  rw [hS] at hlen ⊢
  have HKK := hid (And.intro s3 r3)
  have HTT := hid (And.intro s1 r1)
  have HSS := hid s2
  have HIH := hid ih
  have HOK := hid (okNs_mem.1 ok8)
  have HNK := hid hkk
  have HCK := hid hcK
  have HCT := hid hcT
  have HTS := hid hts
  have HNS := hid hns
  have hn64 := ok3
  clear hr s1 r1 s2 s3 r3 ih ok1 ok2 ok3 ok4 ok5 ok6 ok7 ok8 hkk hts hns hS hnd hk20
  obtain ⟨a, hA⟩ : ∃ a, ts.length = a := ⟨_, rfl⟩
  obtain ⟨b, hB⟩ : ∃ b, ns.length = b := ⟨_, rfl⟩
  obtain ⟨d, hD⟩ : ∃ d, ks.length = d := ⟨_, rfl⟩
  rw [hA] at l1 HTT hlo hhi
  rw [hB] at l2 HSS hkn hkd
  rw [hD] at l3 HKK hkd hdc hSL0
  rw [hA, hB, hD]
  have HA := hid hA
  have HBN := hid hB
  have HD := hid hD
  have HSL := hid hSL0
  clear hA hB hD hSL0
  have hd0 : d = b := by
    have h : (hasD 8).kids = -1 := rfl
    rw [h] at hkd
    unfold kidsOf at hkd
    rw [if_pos (by decide)] at hkd
    omega
  have HDB := hid hd0
  clear hkd hkn hd0
  obtain ⟨W, hW⟩ : ∃ W, w.alloc (.cells #[.int .i64 8, sv text, .int .i64 n, .int .i64 li, .int .i64 co, .slice A1 a c1, .slice A2 b c2, .slice A3 d c3] 26) = W := ⟨_, rfl⟩
  have hb1 : Below w.heap.size w W := by rw [← hW]; exact (Below.refl _ _).alloc (Nat.le_refl _) _
  have HBX : Hid (W.heap[w.heap.size]? = some (.cells #[.int .i64 8, sv text, .int .i64 n, .int .i64 li, .int .i64 co, .slice A1 a c1, .slice A2 b c2, .slice A3 d c3] 26 (0, 0))) := hid (by rw [← hW]; exact heap_alloc_new w _)
  have HB1 := hid hb1
  have HWE := hid hW
  clear hW hb1
  go_enter Tryz.func35, Tryz.ntmps35
  go_wp2_with fail
  have hW := HWE.out
  rw [hW]
  clear hW
  go_loopw [3, 4] (fun v3 v4 wr => ∃ i : Nat, v4 = .int .i64 i ∧ i ≤ d ∧ OwnS wr W.heap.size 9 v3 (S.take i) ∧ Below W.heap.size W wr) (fun v3 v4 _ => d - (intOf v4).toNat)
  case atStart => exact ⟨0, rfl, by omega, OwnS.nil _ _ _, Below.refl _ _⟩
  case round =>
    obtain ⟨i, rfl, hi_, hown, hbr⟩ := hrel
    have HOWN := hid hown
    have HB := hid hbr
    obtain ⟨p0, p1, p2, p3, p4, p5, p6, p7⟩ := t_row8 ((hbr.block _ (block_lt HBX.out)).trans HBX.out)
    by_cases hlt : i < d
    · have hil : i < ks.length := by rw [HD.out]; exact hlt
      have hiS : i < S.length := by rw [HSL.out]; exact hlt
      have hbw := HB1.out.trans (hbr.mono HB1.out.size)
      obtain ⟨b2, o2, kk, ss, y2, y3, y4, A5, n5, c5, A6, n6, c6, A7, n7, c7, hA3, hr1, e0, e1, e2, e3, e4, e5, e6, e7⟩ := node_at (Sl.more (Sl.below HKK.out.1 hbw) hbw.size) ((HKK.out.2.keep hbw).more hbw.size) hil HD.out.symm
      have HE := HIH.out ks[i] (List.getElem_mem hil) wr _ q hr1 (HOK.out _ (List.getElem_mem hil)) (HNK.out _ (List.getElem_mem hil)) (Nat.le_trans (cntN_mem (List.getElem_mem hil)) HCK.out)
      rw [← HSG.out i hil hiS] at HE
      have HE := hid HE
      have HST := hid (t_take hiS)
      obtain ⟨Av, nv, cv, rfl⟩ := t_sl_shape hown.ss
      generalize S[i] = X at *
      generalize ks[i] = kx at *
      clear hbr hr1 hil hown hbw
      subst hA3
      go_wp2_with fail
      refine HE.out.mono ?_
      rintro e w2 ⟨rfl, hb⟩
      have hown2 := HOWN.out.below hb
      have hb2 := HB.out.trans (hb.mono HB.out.size)
      clear hb e0 e1 e2 e3 e4 e5 e6 e7 p0 p1 p2 p3 p4 p5 p6 p7
      go_wp2_with (at_builtin; refine wpList_appS rfl (.tmp 13) (.tmp 20) _ rfl W.heap.size el_str _ _ rfl rfl (hown2.alloc _) (ss_new w2 X _) (by simp; omega) (le_alloc hb2.size _) (fun v3 w3 hown3 hg3 hbk3 => ?_); have hb3 := below_appS (hb2.alloc hb2.size _) (hown2.alloc _) hg3 (Nat.le_refl _) (le_alloc hb2.size _); have HOWN3 := hid hown3; have HB3 := hid hb3; clear hown3 hb3 hown2 hb2 hg3 hbk3)
      go_roundw
      case rel => exact ⟨i + 1, rfl, by omega, by rw [HST.out]; exact HOWN3.out, HB3.out⟩
      case measure => simp [intOf]; omega
    · obtain rfl : i = d := by omega
      rw [List.take_of_length_le (by rw [HSL.out]; omega)] at hown
      obtain ⟨wT, hT⟩ : ∃ wT, wr.alloc (.cells #[.string ⟨#[110, 117, 108, 108]⟩, .string ⟨#[98, 111, 111, 108]⟩, .string ⟨#[105, 110, 116]⟩, .string ⟨#[115, 116, 114]⟩, .string ⟨#[114, 101, 99, 111, 114, 100]⟩, .string ⟨#[102, 117, 110, 99, 116, 105, 111, 110]⟩] 9) = wT := ⟨_, rfl⟩
      have hbT : Below wr.heap.size wr wT := by rw [← hT]; exact (Below.refl _ _).alloc (Nat.le_refl _) _
      have htag : wT.heap[wr.heap.size]? = some (.cells #[.string ⟨#[110, 117, 108, 108]⟩, .string ⟨#[98, 111, 111, 108]⟩, .string ⟨#[105, 110, 116]⟩, .string ⟨#[115, 116, 114]⟩, .string ⟨#[114, 101, 99, 111, 114, 100]⟩, .string ⟨#[102, 117, 110, 99, 116, 105, 111, 110]⟩] 9 (0, 0)) := by rw [← hT]; exact heap_alloc_new wr _
      have hbr2 : Below W.heap.size W wT := hbr.trans (hbT.mono hbr.size)
      have hbw : Below w.heap.size w wT := HB1.out.trans (hbr2.mono HB1.out.size)
      have hown := hown.below hbT
      have HBR := hid hbw
      clear p1 p2 p3 p4 p5 p6
      obtain ⟨g0, g1, g2, g3, g4, g5, g6, g7⟩ := t_row8 ((hbr2.block _ (block_lt HBX.out)).trans HBX.out)
      have HTW := hid hT
      clear hT hlt hbr hbr2 HOWN
      have HT : Hid (nodeS 8 text n ts ns S = ([123] : Bt) ++ (joinS [44, 32] (List.zipWith fieldS ns S)) ++ ([125] : Bt)) := hid (by simp [nodeS, cat])
      rw [HT.out] at hlen
      obtain ⟨Av, cv, rfl⟩ := t_sl_exact hown.ss (by omega) (m := i) (by rw [svs_length, HSL.out]; omega)
      have hF0 : (joinS [44, 32] (List.zipWith fieldS ns S)).length ≤ 1000000000 := by
        simp only [List.length_append, List.length_cons, List.length_nil] at hlen
        omega
      have HF := hid (rfields_any wT A2 b c2 Av i cv ns S (Sl.more (Sl.below HSS.out hbw) hbw.size) hown.ss HBN.out HSL.out HDB.out.symm hF0)
      generalize joinS [44, 32] (List.zipWith fieldS ns S) = F at *
      try simp only [List.length_append, List.length_cons, List.length_nil] at hlen
      have hz0 := sv_size F
      have q0 : ¬ (9223372036854775807 < 1 + F.length) := by omega
      have q1 : ¬ (9223372036854775807 < 1 + F.length + 1) := by omega
      clear hown hbw hlen hbT htag 
      rw [← HTW.out] at g0 g1 g2 g3 g4 g5 g6 g7
      go_wp2_with fail
      have hT := HTW.out
      rw [hT]
      clear hT
      refine HF.out.mono ?_
      rintro e w2 ⟨rfl, hb⟩
      go_wp2_with fail
      go_ret
      refine ⟨?_, HBR.out.trans (hb.mono HBR.out.size)⟩
      rw [HT.out]
      have e : (⟨([123] : Bt).toArray⟩ : ByteArray) ++ ⟨F.toArray⟩ ++ ⟨([125] : Bt).toArray⟩ = ⟨(([123] : Bt) ++ F ++ ([125] : Bt)).toArray⟩ := by
        rw [str_append, str_append]
      exact congrArg (fun b => Ending.returned (Value.string b)) e
end Go.Proofs.YtbpedjkebemhnaaGreatDoor
