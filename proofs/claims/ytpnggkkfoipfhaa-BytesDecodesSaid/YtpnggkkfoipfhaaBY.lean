/- The reference's Encode. -/
import Derived.Test.YtpnggkkfoipfhaaBV
set_option linter.unusedVariables false
namespace Go.Proofs.Ytpnggkkfoipfhaa
open Go.RowKit

set_option maxRecDepth 100000 in
set_option maxHeartbeats 8000000 in
theorem rencode_true (w : World) (x : List Value) (is : List Int) (ss : List Bt) (hs : List (List Bt)) (cs : List CoD) (ps : List ProcD) (mn : Int) (hr : CodeR w w.heap.size x ⟨is, ss, hs, cs, ps, mn, true⟩) (hok : CodeOk ⟨is, ss, hs, cs, ps, mn, true⟩) (hlen : (codeE ⟨is, ss, hs, cs, ps, mn, true⟩).length + 100 ≤ 140737488355000) :
    Calls Try.prog 11 #[.agg x.toArray] w fun e w' => ∃ v', e = .returned v' ∧ OwnB w' w.heap.size 5 v' (codeE ⟨is, ss, hs, cs, ps, mn, true⟩) ∧ Below w.heap.size w w' := by
  have hcl : (codeE ⟨is, ss, hs, cs, ps, mn, true⟩).length = (putL (1 : Int)).length + ((putL mn).length + ((listE putL is).length + ((listE textE ss).length + ((listE (listE textE) hs).length + ((listE coE cs).length + (listE procE ps).length))))) := by
    rw [codeE_eq]; unfold mergeE; simp only [List.length_append]; rfl
  have hle1 : (listE putL is).length = (putL (is.length : Int)).length + (is.flatMap putL).length := by unfold listE; rw [List.length_append]
  have hle3 : (listE (listE textE) hs).length = (putL (hs.length : Int)).length + (hs.flatMap (listE textE)).length := by unfold listE; rw [List.length_append]
  have hle5 : (listE procE ps).length = (putL (ps.length : Int)).length + (ps.flatMap procE).length := by unfold listE; rw [List.length_append]
  obtain ⟨ok1, ok2, ok3, ok4, ok5, ok6⟩ := hok
  simp only at ok1 ok2 ok3 ok4 ok5 ok6
  obtain ⟨vi, vs, vh, vc, vp, xh, xc, xp, rfl, h1, h2, h3, hh, h4, hc, h5, hp⟩ := hr
  simp only at h1 h2 hh hc hp
  have H1 := hid h1
  have H2 := hid h2
  have H3 := hid h3
  have H4 := hid h4
  have H5 := hid h5
  have HH := hid hh
  have HC := hid hc
  have HP := hid hp
  obtain ⟨A1, c1, rfl, _, hc1, _⟩ := Is.open_ h1
  obtain ⟨A2, n2, c2, rfl, _⟩ := h2
  obtain ⟨A3, n3, c3, rfl, hn3, hm3, hc3, _⟩ := h3
  obtain ⟨A4, n4, c4, rfl, _⟩ := h4
  obtain ⟨A5, n5, c5, rfl, hn5, hm5, hc5, _⟩ := h5
  obtain rfl : hs.length = n3 := by have := hh.1; omega
  obtain rfl : ps.length = n5 := by have := hp.1; omega
  unfold maxLen at hc1 hc3 hc5
  clear h1 hh hc hp
  have hb1 : Below w.heap.size w (w.alloc (.cells #[.slice A1 is.length c1, .slice A2 n2 c2, .slice A3 hs.length c3, .slice A4 n4 c4, .slice A5 ps.length c5, .int .i64 mn, .bool true] 28)) := (Below.refl _ _).alloc (Nat.le_refl _) _
  have hx1 := heap_alloc_new w (.cells #[.slice A1 is.length c1, .slice A2 n2 c2, .slice A3 hs.length c3, .slice A4 n4 c4, .slice A5 ps.length c5, .int .i64 mn, .bool true] 28)
  obtain ⟨W1, hW1⟩ : ∃ W1, W1 = w.alloc (.cells #[.slice A1 is.length c1, .slice A2 n2 c2, .slice A3 hs.length c3, .slice A4 n4 c4, .slice A5 ps.length c5, .int .i64 mn, .bool true] 28) := ⟨_, rfl⟩
  rw [← hW1] at hb1 hx1
  have HR1 := hid (show RbAt W1 w.heap.size (fun _ => False) (.slice none 0 0) [] from ⟨⟨0, World.ownsRow_nil _ _ _ _⟩, fun g hg => (by cases hg), fun k hk => hk.elim, hb1.size⟩)
  have HZ := hid hx1
  have HBW := hid hb1
  have hcellc : ∀ (wr : World) (vv : Value) (bb : Bt), RbTo w.heap.size (fun _ => False) W1 wr vv bb → ∀ i, wr.cell? ⟨w.heap.size, i, none⟩ = (#[.slice A1 is.length c1, .slice A2 n2 c2, .slice A3 hs.length c3, .slice A4 n4 c4, .slice A5 ps.length c5, .int .i64 mn, .bool true] : Array Value)[i]? := by
    intro wr vv bb h i
    obtain ⟨F1, _, t1, _⟩ := h
    exact cell_of_row _ _ _ _ _ (0, 0) (block_turn HZ.out t1 id)
  have HCC := hid hcellc
  have HN := hid (rnum_any W1 w.heap.size (fun _ => False) (.slice none 0 0) [] (1 : Int) HR1.out (in64_small _ (by omega)) (by simp only [List.length_nil]; omega))
  have HWE := hid hW1
  rw [hW1] at HN
  clear hcellc hb1 hx1 hW1
  go_enter Try.func11, Try.ntmps11
  go_wp2_with fail
  refine HN.out.mono ?_
  rintro e w2 ⟨v2, rfl, hto⟩
  rw [← HWE.out] at hto
  have HTO1 := hid hto
  have k5 : w2.cell? ⟨w.heap.size, 5, none⟩ = some (.int .i64 mn) := (HCC.out _ _ _ hto 5).trans rfl
  clear hto HN
  obtain ⟨Fx, hrx, tx, nx⟩ := HTO1.out
  have HNx := hid (rnum_any w2 w.heap.size Fx v2 (([] : Bt) ++ putL (1 : Int)) mn hrx ok6 (by simp only [List.length_append, List.length_nil]; omega))
  clear hrx
  go_wp2_with fail
  refine HNx.out.mono ?_
  rintro e w3 ⟨v3, rfl, htox⟩
  have HTO2 := hid (RbTo.more tx nx htox)
  clear htox HNx tx nx
  have kc : w3.cell? ⟨w.heap.size, 0, none⟩ = some (.slice A1 is.length c1) := (HCC.out _ _ _ HTO2.out 0).trans rfl
  obtain ⟨Fx, hrx, tx, nx⟩ := HTO2.out
  have HNx := hid (rnum_any w3 w.heap.size Fx v3 ((([] : Bt) ++ putL (1 : Int)) ++ putL mn) (is.length : Int) hrx ok1.1 (by simp only [List.length_append, List.length_nil]; omega))
  clear hrx
  go_wp2_with fail
  refine HNx.out.mono ?_
  rintro e wl ⟨vl, rfl, htox⟩
  have HTOl := hid (RbTo.more tx nx htox)
  clear htox HNx tx nx
  have hto0 : RbTo w.heap.size (fun _ => False) W1 wl vl (((([] : Bt) ++ putL (1 : Int)) ++ putL mn) ++ (putL (is.length : Int) ++ (is.take 0).flatMap putL)) := by simpa using HTOl.out
  have HTO0 := hid hto0
  have kl : wl.cell? ⟨w.heap.size, 0, none⟩ = some (.slice A1 is.length c1) := (HCC.out _ _ _ hto0 0).trans rfl
  clear hto0 HTOl kc
  go_wp2_with fail
  go_loopw [3, 5] (fun v3 v5 wr => ∃ k : Nat, v5 = .int .i64 k ∧ k ≤ is.length ∧ RbTo w.heap.size (fun _ => False) W1 wr v3 (((([] : Bt) ++ putL (1 : Int)) ++ putL mn) ++ (putL (is.length : Int) ++ (is.take k).flatMap putL))) (fun _ v5 _ => is.length - (intOf v5).toNat)
  case atStart => exact ⟨0, rfl, by omega, HTO0.out⟩
  case round =>
    obtain ⟨k, rfl, hk, hto⟩ := hrel
    have kr : wr.cell? ⟨w.heap.size, 0, none⟩ = some (.slice A1 is.length c1) := (HCC.out _ _ _ hto 0).trans rfl
    by_cases hlt : k < is.length
    · have hbel := (HBW.out.trans (RbTo.bel HR1.out hto))
      obtain ⟨F1, hr1, t1, n1⟩ := hto
      obtain ⟨bx, off, rfl, hcell⟩ := sl_at H1.out hbel rfl hlt (by omega)
      have d1 : wr.cell? ⟨bx, off + k, none⟩ = some (.int .i64 is[k]) := by
        have := hcell 0 (.int .i64 is[k]) (by simp [intsV, hlt])
        simpa using this
      clear hcell
      have hxok := ok1.2 is[k] (List.getElem_mem hlt)
      have hst := enc_take putL hlt
      have hpt := enc_part putL hlt
      generalize is[k] = X at *
      obtain ⟨bk, hbk⟩ : ∃ bk, bk = ((([] : Bt) ++ putL (1 : Int)) ++ putL mn) ++ (putL (is.length : Int) ++ (is.take k).flatMap putL) := ⟨_, rfl⟩
      have hbkl : bk.length = ((([] : Bt) ++ putL (1 : Int)) ++ putL mn).length + ((putL (is.length : Int)).length + ((is.take k).flatMap putL).length) := by rw [hbk]; simp only [List.length_append] <;> omega
      have hbl : bk.length + (putL X).length + 100 ≤ 140737488355000 := by
        rw [hbkl]
        simp only [List.length_append, List.length_nil]
        omega
      rw [← hbk] at hr1
      have fin : ∀ v10 w10, RbTo w.heap.size F1 wr w10 v10 (bk ++ putL X) → ∃ k_1 : Nat, Value.int .i64 ((k : Int) + 1) = .int .i64 k_1 ∧ k_1 ≤ is.length ∧ RbTo w.heap.size (fun _ => False) W1 w10 v10 (((([] : Bt) ++ putL (1 : Int)) ++ putL mn) ++ (putL (is.length : Int) ++ (is.take k_1).flatMap putL)) := by
        intro v10 w10 h10
        refine ⟨k + 1, rfl, by omega, ?_⟩
        rw [hst, ← List.append_assoc (putL (is.length : Int)), ← List.append_assoc ((([] : Bt) ++ putL (1 : Int)) ++ putL mn), ← hbk]
        exact RbTo.more t1 n1 h10
      have FIN := hid fin
      clear fin hst hbk
      have HX := hid (rnum_any wr w.heap.size F1 _ bk X hr1 hxok hbl)
      clear hr1
      go_wp2_with fail
      refine HX.out.mono ?_
      rintro e w10 ⟨v10, rfl, hto10⟩
      have FN := hid (FIN.out v10 w10 hto10)
      clear hto10
      go_wp2_with fail
      go_roundw
      case rel => first | exact FN.out | ((repeat apply Exists.intro); exact ⟨FN.out, rfl⟩)
      case measure => simp [intOf]; omega
    · obtain rfl : k = is.length := by omega
      rw [List.take_length] at hto
      have HTO3 := hid (show RbTo w.heap.size (fun _ => False) W1 wr _ (((([] : Bt) ++ putL (1 : Int)) ++ putL mn) ++ listE putL is) from hto)
      have kt : wr.cell? ⟨w.heap.size, 1, none⟩ = some (.slice A2 n2 c2) := (HCC.out _ _ _ hto 1).trans rfl
      have hbel := (HBW.out.trans (RbTo.bel HR1.out hto))
      clear hto
      obtain ⟨Fx, hrx, tx, nx⟩ := HTO3.out
      have HNx := hid (rtexts_any wr w.heap.size Fx _ (((([] : Bt) ++ putL (1 : Int)) ++ putL mn) ++ listE putL is) (.slice A2 n2 c2) ss hrx (Sl.below H2.out hbel) ok2.1 ok2.2 (by simp only [List.length_append, List.length_nil]; omega))
      clear hrx
      go_wp2_with fail
      refine HNx.out.mono ?_
      rintro e w5 ⟨v5, rfl, htox⟩
      have HTO4 := hid (RbTo.more tx nx htox)
      clear htox HNx tx nx
      clear kt kr hbel
      have kc : w5.cell? ⟨w.heap.size, 2, none⟩ = some (.slice A3 hs.length c3) := (HCC.out _ _ _ HTO4.out 2).trans rfl
      obtain ⟨Fx, hrx, tx, nx⟩ := HTO4.out
      have HNx := hid (rnum_any w5 w.heap.size Fx v5 ((((([] : Bt) ++ putL (1 : Int)) ++ putL mn) ++ listE putL is) ++ listE textE ss) (hs.length : Int) hrx ok3.1 (by simp only [List.length_append, List.length_nil]; omega))
      clear hrx
      go_wp2_with fail
      refine HNx.out.mono ?_
      rintro e wl ⟨vl, rfl, htox⟩
      have HTOl := hid (RbTo.more tx nx htox)
      clear htox HNx tx nx
      have hto0 : RbTo w.heap.size (fun _ => False) W1 wl vl (((((([] : Bt) ++ putL (1 : Int)) ++ putL mn) ++ listE putL is) ++ listE textE ss) ++ (putL (hs.length : Int) ++ (hs.take 0).flatMap (listE textE))) := by simpa using HTOl.out
      have HTO0 := hid hto0
      have kl : wl.cell? ⟨w.heap.size, 2, none⟩ = some (.slice A3 hs.length c3) := (HCC.out _ _ _ hto0 2).trans rfl
      clear hto0 HTOl kc
      go_wp2_with fail
      go_loopw [3, 6] (fun v3 v6 wr => ∃ k : Nat, v6 = .int .i64 k ∧ k ≤ hs.length ∧ RbTo w.heap.size (fun _ => False) W1 wr v3 (((((([] : Bt) ++ putL (1 : Int)) ++ putL mn) ++ listE putL is) ++ listE textE ss) ++ (putL (hs.length : Int) ++ (hs.take k).flatMap (listE textE)))) (fun _ v6 _ => hs.length - (intOf v6).toNat)
      case atStart => exact ⟨0, rfl, by omega, HTO0.out⟩
      case round =>
        obtain ⟨k, rfl, hk, hto⟩ := hrel
        have kr : wr.cell? ⟨w.heap.size, 2, none⟩ = some (.slice A3 hs.length c3) := (HCC.out _ _ _ hto 2).trans rfl
        by_cases hlt : k < hs.length
        · have hbel := (HBW.out.trans (RbTo.bel HR1.out hto))
          obtain ⟨F1, hr1, t1, n1⟩ := hto
          obtain ⟨bx, off, rfl, hcell⟩ := sl_at H3.out hbel rfl hlt (by omega)
          obtain ⟨vk, hvk, hsk⟩ := HH.out.2 k hlt
          have d1 : wr.cell? ⟨bx, off + k, none⟩ = some vk := by
            have := hcell 0 vk (by simpa using hvk)
            simpa using this
          have hsk' := Ss.below hsk hbel
          clear hcell hvk hsk
          have hxok := ok3.2 hs[k] (List.getElem_mem hlt)
          have hst := enc_take (listE textE) hlt
          have hpt := enc_part (listE textE) hlt
          generalize hs[k] = X at *
          obtain ⟨bk, hbk⟩ : ∃ bk, bk = ((((([] : Bt) ++ putL (1 : Int)) ++ putL mn) ++ listE putL is) ++ listE textE ss) ++ (putL (hs.length : Int) ++ (hs.take k).flatMap (listE textE)) := ⟨_, rfl⟩
          have hbkl : bk.length = ((((([] : Bt) ++ putL (1 : Int)) ++ putL mn) ++ listE putL is) ++ listE textE ss).length + ((putL (hs.length : Int)).length + ((hs.take k).flatMap (listE textE)).length) := by rw [hbk]; simp only [List.length_append] <;> omega
          have hbl : bk.length + ((listE textE) X).length + 100 ≤ 140737488355000 := by
            rw [hbkl]
            simp only [List.length_append, List.length_nil]
            omega
          rw [← hbk] at hr1
          have fin : ∀ v10 w10, RbTo w.heap.size F1 wr w10 v10 (bk ++ (listE textE) X) → ∃ k_1 : Nat, Value.int .i64 ((k : Int) + 1) = .int .i64 k_1 ∧ k_1 ≤ hs.length ∧ RbTo w.heap.size (fun _ => False) W1 w10 v10 (((((([] : Bt) ++ putL (1 : Int)) ++ putL mn) ++ listE putL is) ++ listE textE ss) ++ (putL (hs.length : Int) ++ (hs.take k_1).flatMap (listE textE))) := by
            intro v10 w10 h10
            refine ⟨k + 1, rfl, by omega, ?_⟩
            rw [hst, ← List.append_assoc (putL (hs.length : Int)), ← List.append_assoc ((((([] : Bt) ++ putL (1 : Int)) ++ putL mn) ++ listE putL is) ++ listE textE ss), ← hbk]
            exact RbTo.more t1 n1 h10
          have FIN := hid fin
          clear fin hst hbk
          have HX := hid (rtexts_any wr w.heap.size F1 _ bk vk X hr1 hsk' hxok.1 hxok.2 hbl)
          clear hr1 hsk'
          go_wp2_with fail
          refine HX.out.mono ?_
          rintro e w10 ⟨v10, rfl, hto10⟩
          have FN := hid (FIN.out v10 w10 hto10)
          clear hto10
          go_wp2_with fail
          go_roundw
          case rel => first | exact FN.out | ((repeat apply Exists.intro); exact ⟨FN.out, rfl⟩)
          case measure => simp [intOf]; omega
        · obtain rfl : k = hs.length := by omega
          rw [List.take_length] at hto
          have HTO5 := hid (show RbTo w.heap.size (fun _ => False) W1 wr _ (((((([] : Bt) ++ putL (1 : Int)) ++ putL mn) ++ listE putL is) ++ listE textE ss) ++ listE (listE textE) hs) from hto)
          have kt : wr.cell? ⟨w.heap.size, 3, none⟩ = some (.slice A4 n4 c4) := (HCC.out _ _ _ hto 3).trans rfl
          have hbel := (HBW.out.trans (RbTo.bel HR1.out hto))
          clear hto
          obtain ⟨Fx, hrx, tx, nx⟩ := HTO5.out
          have HNx := hid (rcos_any wr w.heap.size Fx _ (((((([] : Bt) ++ putL (1 : Int)) ++ putL mn) ++ listE putL is) ++ listE textE ss) ++ listE (listE textE) hs) (.slice A4 n4 c4) cs hrx _ (HC.out.keep hbel) (fun x _ => rco_any x) (H4.out.below hbel) ok4.1 ok4.2 (by simp only [List.length_append, List.length_nil]; omega))
          clear hrx
          go_wp2_with fail
          refine HNx.out.mono ?_
          rintro e w7 ⟨v7, rfl, htox⟩
          have HTO6 := hid (RbTo.more tx nx htox)
          clear htox HNx tx nx
          clear kt kr hbel
          have kc : w7.cell? ⟨w.heap.size, 4, none⟩ = some (.slice A5 ps.length c5) := (HCC.out _ _ _ HTO6.out 4).trans rfl
          obtain ⟨Fx, hrx, tx, nx⟩ := HTO6.out
          have HNx := hid (rnum_any w7 w.heap.size Fx v7 ((((((([] : Bt) ++ putL (1 : Int)) ++ putL mn) ++ listE putL is) ++ listE textE ss) ++ listE (listE textE) hs) ++ listE coE cs) (ps.length : Int) hrx ok5.1 (by simp only [List.length_append, List.length_nil]; omega))
          clear hrx
          go_wp2_with fail
          refine HNx.out.mono ?_
          rintro e wl ⟨vl, rfl, htox⟩
          have HTOl := hid (RbTo.more tx nx htox)
          clear htox HNx tx nx
          have hto0 : RbTo w.heap.size (fun _ => False) W1 wl vl (((((((([] : Bt) ++ putL (1 : Int)) ++ putL mn) ++ listE putL is) ++ listE textE ss) ++ listE (listE textE) hs) ++ listE coE cs) ++ (putL (ps.length : Int) ++ (ps.take 0).flatMap procE)) := by simpa using HTOl.out
          have HTO0 := hid hto0
          have kl : wl.cell? ⟨w.heap.size, 4, none⟩ = some (.slice A5 ps.length c5) := (HCC.out _ _ _ hto0 4).trans rfl
          clear hto0 HTOl kc
          go_wp2_with fail
          go_loopw [3, 7, 8, 9] (fun v3 v7 v8 v9 wr => ∃ k : Nat, v7 = .int .i64 k ∧ k ≤ ps.length ∧ RbTo w.heap.size (fun _ => False) W1 wr v3 (((((((([] : Bt) ++ putL (1 : Int)) ++ putL mn) ++ listE putL is) ++ listE textE ss) ++ listE (listE textE) hs) ++ listE coE cs) ++ (putL (ps.length : Int) ++ (ps.take k).flatMap procE))) (fun _ v7 _ _ _ => ps.length - (intOf v7).toNat)
          case atStart => exact ⟨0, rfl, by omega, HTO0.out⟩
          case round =>
            obtain ⟨k, rfl, hk, hto⟩ := hrel
            have kr : wr.cell? ⟨w.heap.size, 4, none⟩ = some (.slice A5 ps.length c5) := (HCC.out _ _ _ hto 4).trans rfl
            by_cases hlt : k < ps.length
            · have hbel := (HBW.out.trans (RbTo.bel HR1.out hto))
              obtain ⟨F1, hr1, t1, n1⟩ := hto
              obtain ⟨bx, off, rfl, hcell⟩ := sl_at H5.out hbel rfl hlt (by omega)
              obtain ⟨vk, hvk, hsk⟩ := HP.out.2 k hlt
              have hsk2 := hsk
              obtain ⟨Ak, nk, ck, rfl, hlk, hmk, hckm, _⟩ := hsk2
              unfold maxLen at hckm
              have d1 : wr.cell? ⟨bx, off + k * 3, none⟩ = some (.int .i64 ps[k].caps) := by
                have := hcell 0 _ (part_get hvk (by omega : 0 < 3))
                simpa using this
              have d2 : wr.cell? ⟨bx, off + k * 3 + 1, none⟩ = some (.int .i64 ps[k].regs) := by
                have := hcell 1 _ (part_get hvk (by omega : 1 < 3))
                simpa [Nat.add_assoc] using this
              have d3 : wr.cell? ⟨bx, off + k * 3 + 2, none⟩ = some (.slice Ak nk ck) := by
                have := hcell 2 _ (part_get hvk (by omega : 2 < 3))
                simpa [Nat.add_assoc] using this
              have hsk' := hsk.below hbel
              have HSK := hid hsk'
              clear hcell hvk hsk hsk'
              have hxok := ok5.2 ps[k] (List.getElem_mem hlt)
              have hst := enc_take procE hlt
              have hpt := enc_part procE hlt
              generalize ps[k] = X at *
              obtain ⟨bk, hbk⟩ : ∃ bk, bk = ((((((([] : Bt) ++ putL (1 : Int)) ++ putL mn) ++ listE putL is) ++ listE textE ss) ++ listE (listE textE) hs) ++ listE coE cs) ++ (putL (ps.length : Int) ++ (ps.take k).flatMap procE) := ⟨_, rfl⟩
              have hbkl : bk.length = ((((((([] : Bt) ++ putL (1 : Int)) ++ putL mn) ++ listE putL is) ++ listE textE ss) ++ listE (listE textE) hs) ++ listE coE cs).length + ((putL (ps.length : Int)).length + ((ps.take k).flatMap procE).length) := by rw [hbk]; simp only [List.length_append] <;> omega
              have hbl : bk.length + (procE X).length + 100 ≤ 140737488355000 := by
                rw [hbkl]
                simp only [List.length_append, List.length_nil]
                omega
              rw [← hbk] at hr1
              have fin : ∀ v10 w10, RbTo w.heap.size F1 wr w10 v10 (bk ++ procE X) → ∃ k_1 : Nat, Value.int .i64 ((k : Int) + 1) = .int .i64 k_1 ∧ k_1 ≤ ps.length ∧ RbTo w.heap.size (fun _ => False) W1 w10 v10 (((((((([] : Bt) ++ putL (1 : Int)) ++ putL mn) ++ listE putL is) ++ listE textE ss) ++ listE (listE textE) hs) ++ listE coE cs) ++ (putL (ps.length : Int) ++ (ps.take k_1).flatMap procE)) := by
                intro v10 w10 h10
                refine ⟨k + 1, rfl, by omega, ?_⟩
                rw [hst, ← List.append_assoc (putL (ps.length : Int)), ← List.append_assoc ((((((([] : Bt) ++ putL (1 : Int)) ++ putL mn) ++ listE putL is) ++ listE textE ss) ++ listE (listE textE) hs) ++ listE coE cs), ← hbk]
                exact RbTo.more t1 n1 h10
              have FIN := hid fin
              clear fin hst hbk
              obtain ⟨X1, X2, X3⟩ := X
              simp only at d1 d2 d3 HSK hlk
              have hvl : ∀ m : List (Int × Int × Int × Int), (instrsV m).length = m.length * 4 := by
                intro m
                induction m with
                | nil => rfl
                | cons x m ih =>
                  have e : instrsV (x :: m) = [.int .i64 x.1, .int .i64 x.2.1, .int .i64 x.2.2.1, .int .i64 x.2.2.2] ++ instrsV m := rfl
                  rw [e, List.length_append, ih, List.length_cons]; simp; omega
              rw [hvl] at hlk
              obtain rfl : X3.length = nk := by omega
              clear hvl
              have hpe : (procE ⟨X1, X2, X3⟩).length = (putL X1).length + ((putL X2).length + ((putL (X3.length : Int)).length + (X3.flatMap instrE).length)) := by unfold procE listE; simp only [List.length_append]
              have hba : Below wr.heap.size wr (wr.alloc (.cells #[.int .i64 X1, .int .i64 X2, .slice Ak X3.length ck] 47)) := (Below.refl _ _).alloc (Nat.le_refl _) _
              have hxp := heap_alloc_new wr (.cells #[.int .i64 X1, .int .i64 X2, .slice Ak X3.length ck] 47)
              obtain ⟨W2, hW2⟩ : ∃ W2, W2 = wr.alloc (.cells #[.int .i64 X1, .int .i64 X2, .slice Ak X3.length ck] 47) := ⟨_, rfl⟩
              rw [← hW2] at hba hxp
              have hbs := hr1.2.2.2
              have hFF := hr1.2.2.1
              have HR2 := hid (hr1.below hba)
              have HBA := hid hba
              have HSK2 := hid (HSK.out.below (hba.mono hbs))
              have hcellp : ∀ (wz : World) (vv : Value) (bb : Bt), RbTo w.heap.size F1 W2 wz vv bb → ∀ i, wz.cell? ⟨wr.heap.size, i, none⟩ = (#[.int .i64 X1, .int .i64 X2, .slice Ak X3.length ck] : Array Value)[i]? := by
                intro wz vv bb h i
                obtain ⟨F3, _, t3, _⟩ := h
                exact cell_of_row _ _ _ _ _ (0, 0) (block_turn hxp t3 (fun h => by have := (hFF _ h).2; omega))
              have HCP := hid hcellp
              have HX := hid (rnum_any W2 w.heap.size F1 _ bk X1 HR2.out hxok.1 (by omega))
              rw [hW2] at HX
              have HW2 := hid hW2
              clear hr1 hcellp hxp hba hW2
              go_wp2_with fail
              refine HX.out.mono ?_
              rintro e w20 ⟨v20, rfl, htoz⟩
              rw [← HW2.out] at htoz
              have HQ1 := hid htoz
              have e1 : w20.cell? ⟨wr.heap.size, 1, none⟩ = some (.int .i64 X2) := (HCP.out _ _ _ htoz 1).trans rfl
              clear htoz HX
              obtain ⟨Fx, hrx, tx, nx⟩ := HQ1.out
              have HNx := hid (rnum_any w20 w.heap.size Fx v20 (bk ++ putL X1) X2 hrx hxok.2.1 (by rw [List.length_append]; omega))
              clear hrx
              go_wp2_with fail
              refine HNx.out.mono ?_
              rintro e w21 ⟨v21, rfl, htox⟩
              have HQ2 := hid (RbTo.more tx nx htox)
              clear htox HNx tx nx
              have e2 : w21.cell? ⟨wr.heap.size, 2, none⟩ = some (.slice Ak X3.length ck) := (HCP.out _ _ _ HQ2.out 2).trans rfl
              obtain ⟨Fx, hrx, tx, nx⟩ := HQ2.out
              have HNx := hid (rnum_any w21 w.heap.size Fx v21 (bk ++ putL X1 ++ putL X2) (X3.length : Int) hrx hxok.2.2.1 (by rw [List.length_append, List.length_append]; omega))
              clear hrx
              go_wp2_with fail
              refine HNx.out.mono ?_
              rintro e w22 ⟨v22, rfl, htox⟩
              have HQ3 := hid (RbTo.more tx nx htox)
              clear htox HNx tx nx
              have hto00 : RbTo w.heap.size F1 W2 w22 v22 ((bk ++ putL X1 ++ putL X2) ++ (putL (X3.length : Int) ++ (X3.take 0).flatMap instrE)) := by simpa using HQ3.out
              have HQ0 := hid hto00
              have e3 : w22.cell? ⟨wr.heap.size, 2, none⟩ = some (.slice Ak X3.length ck) := (HCP.out _ _ _ hto00 2).trans rfl
              clear hto00 HQ3 e1 e2
              obtain ⟨bp, hbp⟩ : ∃ bp, bp = wr.heap.size := ⟨_, rfl⟩
              rw [← hbp] at HCP e3
              rw [← hbp]
              have HFIN2 := hid (fun v10 w10 h => FIN.out v10 w10 (RbTo.first HBA.out h))
              clear FIN hbp kr
              go_wp2_with fail
              go_loopw [3, 9] (fun v3 v9 wr => ∃ q : Nat, v9 = .int .i64 q ∧ q ≤ X3.length ∧ RbTo w.heap.size F1 W2 wr v3 ((bk ++ putL X1 ++ putL X2) ++ (putL (X3.length : Int) ++ (X3.take q).flatMap instrE))) (fun _ v9 _ => X3.length - (intOf v9).toNat)
              case atStart => exact ⟨0, rfl, by omega, HQ0.out⟩
              case round =>
                obtain ⟨q, rfl, hq, hto⟩ := hrel
                have kp : wr.cell? ⟨bp, 2, none⟩ = some (.slice Ak X3.length ck) := (HCP.out _ _ _ hto 2).trans rfl
                by_cases hlq : q < X3.length
                · have hbel2 := RbTo.bel HR2.out hto
                  have dd : ∀ wz, Below w.heap.size W2 wz → ∃ by_ oy, Ak = some ⟨by_, oy, none⟩ ∧ wz.cell? ⟨by_, oy + q * 4, none⟩ = some (.int .i64 X3[q].1) ∧ wz.cell? ⟨by_, oy + q * 4 + 1, none⟩ = some (.int .i64 X3[q].2.1) ∧ wz.cell? ⟨by_, oy + q * 4 + 2, none⟩ = some (.int .i64 X3[q].2.2.1) ∧ wz.cell? ⟨by_, oy + q * 4 + 3, none⟩ = some (.int .i64 X3[q].2.2.2) := by
                    intro wz hwz
                    obtain ⟨by_, oy, hA, hcell⟩ := sl_at HSK2.out hwz rfl hlq (by omega)
                    refine ⟨by_, oy, hA, ?_, ?_, ?_, ?_⟩
                    · have := hcell 0 (.int .i64 X3[q].1) (by rw [instrsV, flat_some (k := 4) (fun _ => rfl) X3 q hlq 0 (by omega)]; rfl)
                      simpa using this
                    · have := hcell 1 (.int .i64 X3[q].2.1) (by rw [instrsV, flat_some (k := 4) (fun _ => rfl) X3 q hlq 1 (by omega)]; rfl)
                      simpa [Nat.add_assoc] using this
                    · have := hcell 2 (.int .i64 X3[q].2.2.1) (by rw [instrsV, flat_some (k := 4) (fun _ => rfl) X3 q hlq 2 (by omega)]; rfl)
                      simpa [Nat.add_assoc] using this
                    · have := hcell 3 (.int .i64 X3[q].2.2.2) (by rw [instrsV, flat_some (k := 4) (fun _ => rfl) X3 q hlq 3 (by omega)]; rfl)
                      simpa [Nat.add_assoc] using this
                  have hyok := hxok.2.2.2 X3[q] (List.getElem_mem hlq)
                  have hst := enc_take instrE hlq
                  have hpt2 := enc_part instrE hlq
                  generalize X3[q] = Y at *
                  obtain ⟨Y1, Y2, Y3, Y4⟩ := Y
                  unfold InstrOk at hyok
                  simp only at dd hyok
                  have hie : (instrE (Y1, Y2, Y3, Y4)).length = (putL Y1).length + ((putL Y2).length + ((putL Y3).length + (putL Y4).length)) := by unfold instrE; simp only [List.length_append]
                  obtain ⟨by_, oy, rfl, f1, f2, f3, f4⟩ := dd wr hbel2
                  have DD : ∀ wz, Below w.heap.size W2 wz → wz.cell? ⟨by_, oy + q * 4 + 1, none⟩ = some (.int .i64 Y2) ∧ wz.cell? ⟨by_, oy + q * 4 + 2, none⟩ = some (.int .i64 Y3) ∧ wz.cell? ⟨by_, oy + q * 4 + 3, none⟩ = some (.int .i64 Y4) := by
                    intro wz hwz
                    obtain ⟨b2, o2, hA, _, g2, g3, g4⟩ := dd wz hwz
                    injection hA with hA
                    simp only [Addr.mk.injEq] at hA
                    obtain ⟨rfl, rfl, _⟩ := hA
                    exact ⟨g2, g3, g4⟩
                  have HDD := hid DD
                  clear dd DD f2 f3 f4
                  obtain ⟨bq, hbq⟩ : ∃ bq, bq = (bk ++ putL X1 ++ putL X2) ++ (putL (X3.length : Int) ++ (X3.take q).flatMap instrE) := ⟨_, rfl⟩
                  have hbql : bq.length = bk.length + (putL X1).length + (putL X2).length + ((putL (X3.length : Int)).length + ((X3.take q).flatMap instrE).length) := by rw [hbq]; simp only [List.length_append]
                  rw [← hbq] at hto
                  have fin2 : ∀ v10 w10, RbTo w.heap.size F1 W2 w10 v10 (bq ++ putL Y1 ++ putL Y2 ++ putL Y3 ++ putL Y4) → ∃ q_1 : Nat, Value.int .i64 ((q : Int) + 1) = .int .i64 q_1 ∧ q_1 ≤ X3.length ∧ RbTo w.heap.size F1 W2 w10 v10 ((bk ++ putL X1 ++ putL X2) ++ (putL (X3.length : Int) ++ (X3.take q_1).flatMap instrE)) := by
                    intro v10 w10 h10
                    refine ⟨q + 1, rfl, by omega, ?_⟩
                    have he : (bk ++ putL X1 ++ putL X2) ++ (putL (X3.length : Int) ++ (X3.take (q + 1)).flatMap instrE) = bq ++ putL Y1 ++ putL Y2 ++ putL Y3 ++ putL Y4 := by
                      rw [hst, hbq]; unfold instrE; simp only [List.append_assoc]
                    rw [he]; exact h10
                  have FIN2 := hid fin2
                  have HS0 := hid hto
                  clear fin2 hst hbq hto
                  obtain ⟨Fx, hrx, tx, nx⟩ := HS0.out
                  have HNx := hid (rnum_any wr w.heap.size Fx _ (bq) Y1 hrx hyok.1 (by (try simp only [List.length_append]); omega))
                  clear hrx
                  go_wp2_with fail
                  refine HNx.out.mono ?_
                  rintro e w31 ⟨v31, rfl, htox⟩
                  have HS1 := hid (RbTo.more tx nx htox)
                  clear htox HNx tx nx
                  have e5 : w31.cell? ⟨bp, 2, none⟩ = some (.slice (some ⟨by_, oy, none⟩) X3.length ck) := (HCP.out _ _ _ HS1.out 2).trans rfl
                  have f2 := (HDD.out w31 (RbTo.bel HR2.out HS1.out)).1
                  obtain ⟨Fx, hrx, tx, nx⟩ := HS1.out
                  have HNx := hid (rnum_any w31 w.heap.size Fx v31 (bq ++ putL Y1) Y2 hrx hyok.2.1 (by (try simp only [List.length_append]); omega))
                  clear hrx
                  go_wp2_with fail
                  refine HNx.out.mono ?_
                  rintro e w32 ⟨v32, rfl, htox⟩
                  have HS2 := hid (RbTo.more tx nx htox)
                  clear htox HNx tx nx
                  have e6 : w32.cell? ⟨bp, 2, none⟩ = some (.slice (some ⟨by_, oy, none⟩) X3.length ck) := (HCP.out _ _ _ HS2.out 2).trans rfl
                  have f3 := (HDD.out w32 (RbTo.bel HR2.out HS2.out)).2.1
                  obtain ⟨Fx, hrx, tx, nx⟩ := HS2.out
                  have HNx := hid (rnum_any w32 w.heap.size Fx v32 (bq ++ putL Y1 ++ putL Y2) Y3 hrx hyok.2.2.1 (by (try simp only [List.length_append]); omega))
                  clear hrx
                  go_wp2_with fail
                  refine HNx.out.mono ?_
                  rintro e w33 ⟨v33, rfl, htox⟩
                  have HS3 := hid (RbTo.more tx nx htox)
                  clear htox HNx tx nx
                  have e7 : w33.cell? ⟨bp, 2, none⟩ = some (.slice (some ⟨by_, oy, none⟩) X3.length ck) := (HCP.out _ _ _ HS3.out 2).trans rfl
                  have f4 := (HDD.out w33 (RbTo.bel HR2.out HS3.out)).2.2
                  obtain ⟨Fx, hrx, tx, nx⟩ := HS3.out
                  have HNx := hid (rnum_any w33 w.heap.size Fx v33 (bq ++ putL Y1 ++ putL Y2 ++ putL Y3) Y4 hrx hyok.2.2.2 (by (try simp only [List.length_append]); omega))
                  clear hrx
                  go_wp2_with fail
                  refine HNx.out.mono ?_
                  rintro e w34 ⟨v34, rfl, htox⟩
                  have HS4 := hid (RbTo.more tx nx htox)
                  clear htox HNx tx nx
                  have hto10 := HS4.out
                  have FN := hid (FIN2.out v34 w34 hto10)
                  clear hto10
                  go_wp2_with fail
                  go_roundw
                  case rel => first | exact FN.out | ((repeat apply Exists.intro); exact ⟨FN.out, rfl⟩)
                  case measure => simp [intOf]; omega
                · obtain rfl : q = X3.length := by omega
                  rw [List.take_length] at hto
                  have he : (bk ++ putL X1 ++ putL X2) ++ (putL (X3.length : Int) ++ X3.flatMap instrE) = bk ++ procE ⟨X1, X2, X3⟩ := by unfold procE listE; simp only [List.append_assoc]
                  rw [he] at hto
                  have hto10 := hto
                  clear he hto
                  have FN := hid (HFIN2.out _ wr hto10)
                  clear hto10
                  go_wp2_with fail
                  go_roundw
                  case rel => first | exact FN.out | ((repeat apply Exists.intro); exact ⟨FN.out, rfl⟩)
                  case measure => simp [intOf]; omega
            · obtain rfl : k = ps.length := by omega
              rw [List.take_length] at hto
              have hto7 : RbTo w.heap.size (fun _ => False) W1 wr _ (((((((([] : Bt) ++ putL (1 : Int)) ++ putL mn) ++ listE putL is) ++ listE textE ss) ++ listE (listE textE) hs) ++ listE coE cs) ++ listE procE ps) := hto
              have hbel := HBW.out.trans (RbTo.bel HR1.out hto7)
              obtain ⟨F7, ⟨g1, g2, g3, g4⟩, _, _⟩ := hto7
              have G1 := hid g1
              have G2 := hid g2
              have G3 := hid g3
              clear hto g1 g2 g3 g4
              go_wp2_with fail
              go_ret
              refine ⟨_, rfl, ?_, hbel⟩
              obtain ⟨n, g1⟩ := G1.out
              have hbb : codeE ⟨is, ss, hs, cs, ps, mn, true⟩ = (((((((([] : Bt) ++ putL (1 : Int)) ++ putL mn) ++ listE putL is) ++ listE textE ss) ++ listE (listE textE) hs) ++ listE coE cs) ++ listE procE ps) := by
                rw [codeE_eq]; unfold mergeE; simp
              rw [hbb]
              exact ⟨n, own_lift g1 (fun g hg => (G3.out g (G2.out g hg)).1)⟩

set_option maxRecDepth 100000 in
set_option maxHeartbeats 8000000 in
theorem rencode_false (w : World) (x : List Value) (is : List Int) (ss : List Bt) (hs : List (List Bt)) (cs : List CoD) (ps : List ProcD) (mn : Int) (hr : CodeR w w.heap.size x ⟨is, ss, hs, cs, ps, mn, false⟩) (hok : CodeOk ⟨is, ss, hs, cs, ps, mn, false⟩) (hlen : (codeE ⟨is, ss, hs, cs, ps, mn, false⟩).length + 100 ≤ 140737488355000) :
    Calls Try.prog 11 #[.agg x.toArray] w fun e w' => ∃ v', e = .returned v' ∧ OwnB w' w.heap.size 5 v' (codeE ⟨is, ss, hs, cs, ps, mn, false⟩) ∧ Below w.heap.size w w' := by
  have hcl : (codeE ⟨is, ss, hs, cs, ps, mn, false⟩).length = (putL (0 : Int)).length + ((putL mn).length + ((listE putL is).length + ((listE textE ss).length + ((listE (listE textE) hs).length + ((listE coE cs).length + (listE procE ps).length))))) := by
    rw [codeE_eq]; unfold mergeE; simp only [List.length_append]; rfl
  have hle1 : (listE putL is).length = (putL (is.length : Int)).length + (is.flatMap putL).length := by unfold listE; rw [List.length_append]
  have hle3 : (listE (listE textE) hs).length = (putL (hs.length : Int)).length + (hs.flatMap (listE textE)).length := by unfold listE; rw [List.length_append]
  have hle5 : (listE procE ps).length = (putL (ps.length : Int)).length + (ps.flatMap procE).length := by unfold listE; rw [List.length_append]
  obtain ⟨ok1, ok2, ok3, ok4, ok5, ok6⟩ := hok
  simp only at ok1 ok2 ok3 ok4 ok5 ok6
  obtain ⟨vi, vs, vh, vc, vp, xh, xc, xp, rfl, h1, h2, h3, hh, h4, hc, h5, hp⟩ := hr
  simp only at h1 h2 hh hc hp
  have H1 := hid h1
  have H2 := hid h2
  have H3 := hid h3
  have H4 := hid h4
  have H5 := hid h5
  have HH := hid hh
  have HC := hid hc
  have HP := hid hp
  obtain ⟨A1, c1, rfl, _, hc1, _⟩ := Is.open_ h1
  obtain ⟨A2, n2, c2, rfl, _⟩ := h2
  obtain ⟨A3, n3, c3, rfl, hn3, hm3, hc3, _⟩ := h3
  obtain ⟨A4, n4, c4, rfl, _⟩ := h4
  obtain ⟨A5, n5, c5, rfl, hn5, hm5, hc5, _⟩ := h5
  obtain rfl : hs.length = n3 := by have := hh.1; omega
  obtain rfl : ps.length = n5 := by have := hp.1; omega
  unfold maxLen at hc1 hc3 hc5
  clear h1 hh hc hp
  have hb1 : Below w.heap.size w (w.alloc (.cells #[.slice A1 is.length c1, .slice A2 n2 c2, .slice A3 hs.length c3, .slice A4 n4 c4, .slice A5 ps.length c5, .int .i64 mn, .bool false] 28)) := (Below.refl _ _).alloc (Nat.le_refl _) _
  have hx1 := heap_alloc_new w (.cells #[.slice A1 is.length c1, .slice A2 n2 c2, .slice A3 hs.length c3, .slice A4 n4 c4, .slice A5 ps.length c5, .int .i64 mn, .bool false] 28)
  obtain ⟨W1, hW1⟩ : ∃ W1, W1 = w.alloc (.cells #[.slice A1 is.length c1, .slice A2 n2 c2, .slice A3 hs.length c3, .slice A4 n4 c4, .slice A5 ps.length c5, .int .i64 mn, .bool false] 28) := ⟨_, rfl⟩
  rw [← hW1] at hb1 hx1
  have HR1 := hid (show RbAt W1 w.heap.size (fun _ => False) (.slice none 0 0) [] from ⟨⟨0, World.ownsRow_nil _ _ _ _⟩, fun g hg => (by cases hg), fun k hk => hk.elim, hb1.size⟩)
  have HZ := hid hx1
  have HBW := hid hb1
  have hcellc : ∀ (wr : World) (vv : Value) (bb : Bt), RbTo w.heap.size (fun _ => False) W1 wr vv bb → ∀ i, wr.cell? ⟨w.heap.size, i, none⟩ = (#[.slice A1 is.length c1, .slice A2 n2 c2, .slice A3 hs.length c3, .slice A4 n4 c4, .slice A5 ps.length c5, .int .i64 mn, .bool false] : Array Value)[i]? := by
    intro wr vv bb h i
    obtain ⟨F1, _, t1, _⟩ := h
    exact cell_of_row _ _ _ _ _ (0, 0) (block_turn HZ.out t1 id)
  have HCC := hid hcellc
  have HN := hid (rnum_any W1 w.heap.size (fun _ => False) (.slice none 0 0) [] (0 : Int) HR1.out (in64_small _ (by omega)) (by simp only [List.length_nil]; omega))
  have HWE := hid hW1
  rw [hW1] at HN
  clear hcellc hb1 hx1 hW1
  go_enter Try.func11, Try.ntmps11
  go_wp2_with fail
  refine HN.out.mono ?_
  rintro e w2 ⟨v2, rfl, hto⟩
  rw [← HWE.out] at hto
  have HTO1 := hid hto
  have k5 : w2.cell? ⟨w.heap.size, 5, none⟩ = some (.int .i64 mn) := (HCC.out _ _ _ hto 5).trans rfl
  clear hto HN
  obtain ⟨Fx, hrx, tx, nx⟩ := HTO1.out
  have HNx := hid (rnum_any w2 w.heap.size Fx v2 (([] : Bt) ++ putL (0 : Int)) mn hrx ok6 (by simp only [List.length_append, List.length_nil]; omega))
  clear hrx
  go_wp2_with fail
  refine HNx.out.mono ?_
  rintro e w3 ⟨v3, rfl, htox⟩
  have HTO2 := hid (RbTo.more tx nx htox)
  clear htox HNx tx nx
  have kc : w3.cell? ⟨w.heap.size, 0, none⟩ = some (.slice A1 is.length c1) := (HCC.out _ _ _ HTO2.out 0).trans rfl
  obtain ⟨Fx, hrx, tx, nx⟩ := HTO2.out
  have HNx := hid (rnum_any w3 w.heap.size Fx v3 ((([] : Bt) ++ putL (0 : Int)) ++ putL mn) (is.length : Int) hrx ok1.1 (by simp only [List.length_append, List.length_nil]; omega))
  clear hrx
  go_wp2_with fail
  refine HNx.out.mono ?_
  rintro e wl ⟨vl, rfl, htox⟩
  have HTOl := hid (RbTo.more tx nx htox)
  clear htox HNx tx nx
  have hto0 : RbTo w.heap.size (fun _ => False) W1 wl vl (((([] : Bt) ++ putL (0 : Int)) ++ putL mn) ++ (putL (is.length : Int) ++ (is.take 0).flatMap putL)) := by simpa using HTOl.out
  have HTO0 := hid hto0
  have kl : wl.cell? ⟨w.heap.size, 0, none⟩ = some (.slice A1 is.length c1) := (HCC.out _ _ _ hto0 0).trans rfl
  clear hto0 HTOl kc
  go_wp2_with fail
  go_loopw [3, 5] (fun v3 v5 wr => ∃ k : Nat, v5 = .int .i64 k ∧ k ≤ is.length ∧ RbTo w.heap.size (fun _ => False) W1 wr v3 (((([] : Bt) ++ putL (0 : Int)) ++ putL mn) ++ (putL (is.length : Int) ++ (is.take k).flatMap putL))) (fun _ v5 _ => is.length - (intOf v5).toNat)
  case atStart => exact ⟨0, rfl, by omega, HTO0.out⟩
  case round =>
    obtain ⟨k, rfl, hk, hto⟩ := hrel
    have kr : wr.cell? ⟨w.heap.size, 0, none⟩ = some (.slice A1 is.length c1) := (HCC.out _ _ _ hto 0).trans rfl
    by_cases hlt : k < is.length
    · have hbel := (HBW.out.trans (RbTo.bel HR1.out hto))
      obtain ⟨F1, hr1, t1, n1⟩ := hto
      obtain ⟨bx, off, rfl, hcell⟩ := sl_at H1.out hbel rfl hlt (by omega)
      have d1 : wr.cell? ⟨bx, off + k, none⟩ = some (.int .i64 is[k]) := by
        have := hcell 0 (.int .i64 is[k]) (by simp [intsV, hlt])
        simpa using this
      clear hcell
      have hxok := ok1.2 is[k] (List.getElem_mem hlt)
      have hst := enc_take putL hlt
      have hpt := enc_part putL hlt
      generalize is[k] = X at *
      obtain ⟨bk, hbk⟩ : ∃ bk, bk = ((([] : Bt) ++ putL (0 : Int)) ++ putL mn) ++ (putL (is.length : Int) ++ (is.take k).flatMap putL) := ⟨_, rfl⟩
      have hbkl : bk.length = ((([] : Bt) ++ putL (0 : Int)) ++ putL mn).length + ((putL (is.length : Int)).length + ((is.take k).flatMap putL).length) := by rw [hbk]; simp only [List.length_append] <;> omega
      have hbl : bk.length + (putL X).length + 100 ≤ 140737488355000 := by
        rw [hbkl]
        simp only [List.length_append, List.length_nil]
        omega
      rw [← hbk] at hr1
      have fin : ∀ v10 w10, RbTo w.heap.size F1 wr w10 v10 (bk ++ putL X) → ∃ k_1 : Nat, Value.int .i64 ((k : Int) + 1) = .int .i64 k_1 ∧ k_1 ≤ is.length ∧ RbTo w.heap.size (fun _ => False) W1 w10 v10 (((([] : Bt) ++ putL (0 : Int)) ++ putL mn) ++ (putL (is.length : Int) ++ (is.take k_1).flatMap putL)) := by
        intro v10 w10 h10
        refine ⟨k + 1, rfl, by omega, ?_⟩
        rw [hst, ← List.append_assoc (putL (is.length : Int)), ← List.append_assoc ((([] : Bt) ++ putL (0 : Int)) ++ putL mn), ← hbk]
        exact RbTo.more t1 n1 h10
      have FIN := hid fin
      clear fin hst hbk
      have HX := hid (rnum_any wr w.heap.size F1 _ bk X hr1 hxok hbl)
      clear hr1
      go_wp2_with fail
      refine HX.out.mono ?_
      rintro e w10 ⟨v10, rfl, hto10⟩
      have FN := hid (FIN.out v10 w10 hto10)
      clear hto10
      go_wp2_with fail
      go_roundw
      case rel => first | exact FN.out | ((repeat apply Exists.intro); exact ⟨FN.out, rfl⟩)
      case measure => simp [intOf]; omega
    · obtain rfl : k = is.length := by omega
      rw [List.take_length] at hto
      have HTO3 := hid (show RbTo w.heap.size (fun _ => False) W1 wr _ (((([] : Bt) ++ putL (0 : Int)) ++ putL mn) ++ listE putL is) from hto)
      have kt : wr.cell? ⟨w.heap.size, 1, none⟩ = some (.slice A2 n2 c2) := (HCC.out _ _ _ hto 1).trans rfl
      have hbel := (HBW.out.trans (RbTo.bel HR1.out hto))
      clear hto
      obtain ⟨Fx, hrx, tx, nx⟩ := HTO3.out
      have HNx := hid (rtexts_any wr w.heap.size Fx _ (((([] : Bt) ++ putL (0 : Int)) ++ putL mn) ++ listE putL is) (.slice A2 n2 c2) ss hrx (Sl.below H2.out hbel) ok2.1 ok2.2 (by simp only [List.length_append, List.length_nil]; omega))
      clear hrx
      go_wp2_with fail
      refine HNx.out.mono ?_
      rintro e w5 ⟨v5, rfl, htox⟩
      have HTO4 := hid (RbTo.more tx nx htox)
      clear htox HNx tx nx
      clear kt kr hbel
      have kc : w5.cell? ⟨w.heap.size, 2, none⟩ = some (.slice A3 hs.length c3) := (HCC.out _ _ _ HTO4.out 2).trans rfl
      obtain ⟨Fx, hrx, tx, nx⟩ := HTO4.out
      have HNx := hid (rnum_any w5 w.heap.size Fx v5 ((((([] : Bt) ++ putL (0 : Int)) ++ putL mn) ++ listE putL is) ++ listE textE ss) (hs.length : Int) hrx ok3.1 (by simp only [List.length_append, List.length_nil]; omega))
      clear hrx
      go_wp2_with fail
      refine HNx.out.mono ?_
      rintro e wl ⟨vl, rfl, htox⟩
      have HTOl := hid (RbTo.more tx nx htox)
      clear htox HNx tx nx
      have hto0 : RbTo w.heap.size (fun _ => False) W1 wl vl (((((([] : Bt) ++ putL (0 : Int)) ++ putL mn) ++ listE putL is) ++ listE textE ss) ++ (putL (hs.length : Int) ++ (hs.take 0).flatMap (listE textE))) := by simpa using HTOl.out
      have HTO0 := hid hto0
      have kl : wl.cell? ⟨w.heap.size, 2, none⟩ = some (.slice A3 hs.length c3) := (HCC.out _ _ _ hto0 2).trans rfl
      clear hto0 HTOl kc
      go_wp2_with fail
      go_loopw [3, 6] (fun v3 v6 wr => ∃ k : Nat, v6 = .int .i64 k ∧ k ≤ hs.length ∧ RbTo w.heap.size (fun _ => False) W1 wr v3 (((((([] : Bt) ++ putL (0 : Int)) ++ putL mn) ++ listE putL is) ++ listE textE ss) ++ (putL (hs.length : Int) ++ (hs.take k).flatMap (listE textE)))) (fun _ v6 _ => hs.length - (intOf v6).toNat)
      case atStart => exact ⟨0, rfl, by omega, HTO0.out⟩
      case round =>
        obtain ⟨k, rfl, hk, hto⟩ := hrel
        have kr : wr.cell? ⟨w.heap.size, 2, none⟩ = some (.slice A3 hs.length c3) := (HCC.out _ _ _ hto 2).trans rfl
        by_cases hlt : k < hs.length
        · have hbel := (HBW.out.trans (RbTo.bel HR1.out hto))
          obtain ⟨F1, hr1, t1, n1⟩ := hto
          obtain ⟨bx, off, rfl, hcell⟩ := sl_at H3.out hbel rfl hlt (by omega)
          obtain ⟨vk, hvk, hsk⟩ := HH.out.2 k hlt
          have d1 : wr.cell? ⟨bx, off + k, none⟩ = some vk := by
            have := hcell 0 vk (by simpa using hvk)
            simpa using this
          have hsk' := Ss.below hsk hbel
          clear hcell hvk hsk
          have hxok := ok3.2 hs[k] (List.getElem_mem hlt)
          have hst := enc_take (listE textE) hlt
          have hpt := enc_part (listE textE) hlt
          generalize hs[k] = X at *
          obtain ⟨bk, hbk⟩ : ∃ bk, bk = ((((([] : Bt) ++ putL (0 : Int)) ++ putL mn) ++ listE putL is) ++ listE textE ss) ++ (putL (hs.length : Int) ++ (hs.take k).flatMap (listE textE)) := ⟨_, rfl⟩
          have hbkl : bk.length = ((((([] : Bt) ++ putL (0 : Int)) ++ putL mn) ++ listE putL is) ++ listE textE ss).length + ((putL (hs.length : Int)).length + ((hs.take k).flatMap (listE textE)).length) := by rw [hbk]; simp only [List.length_append] <;> omega
          have hbl : bk.length + ((listE textE) X).length + 100 ≤ 140737488355000 := by
            rw [hbkl]
            simp only [List.length_append, List.length_nil]
            omega
          rw [← hbk] at hr1
          have fin : ∀ v10 w10, RbTo w.heap.size F1 wr w10 v10 (bk ++ (listE textE) X) → ∃ k_1 : Nat, Value.int .i64 ((k : Int) + 1) = .int .i64 k_1 ∧ k_1 ≤ hs.length ∧ RbTo w.heap.size (fun _ => False) W1 w10 v10 (((((([] : Bt) ++ putL (0 : Int)) ++ putL mn) ++ listE putL is) ++ listE textE ss) ++ (putL (hs.length : Int) ++ (hs.take k_1).flatMap (listE textE))) := by
            intro v10 w10 h10
            refine ⟨k + 1, rfl, by omega, ?_⟩
            rw [hst, ← List.append_assoc (putL (hs.length : Int)), ← List.append_assoc ((((([] : Bt) ++ putL (0 : Int)) ++ putL mn) ++ listE putL is) ++ listE textE ss), ← hbk]
            exact RbTo.more t1 n1 h10
          have FIN := hid fin
          clear fin hst hbk
          have HX := hid (rtexts_any wr w.heap.size F1 _ bk vk X hr1 hsk' hxok.1 hxok.2 hbl)
          clear hr1 hsk'
          go_wp2_with fail
          refine HX.out.mono ?_
          rintro e w10 ⟨v10, rfl, hto10⟩
          have FN := hid (FIN.out v10 w10 hto10)
          clear hto10
          go_wp2_with fail
          go_roundw
          case rel => first | exact FN.out | ((repeat apply Exists.intro); exact ⟨FN.out, rfl⟩)
          case measure => simp [intOf]; omega
        · obtain rfl : k = hs.length := by omega
          rw [List.take_length] at hto
          have HTO5 := hid (show RbTo w.heap.size (fun _ => False) W1 wr _ (((((([] : Bt) ++ putL (0 : Int)) ++ putL mn) ++ listE putL is) ++ listE textE ss) ++ listE (listE textE) hs) from hto)
          have kt : wr.cell? ⟨w.heap.size, 3, none⟩ = some (.slice A4 n4 c4) := (HCC.out _ _ _ hto 3).trans rfl
          have hbel := (HBW.out.trans (RbTo.bel HR1.out hto))
          clear hto
          obtain ⟨Fx, hrx, tx, nx⟩ := HTO5.out
          have HNx := hid (rcos_any wr w.heap.size Fx _ (((((([] : Bt) ++ putL (0 : Int)) ++ putL mn) ++ listE putL is) ++ listE textE ss) ++ listE (listE textE) hs) (.slice A4 n4 c4) cs hrx _ (HC.out.keep hbel) (fun x _ => rco_any x) (H4.out.below hbel) ok4.1 ok4.2 (by simp only [List.length_append, List.length_nil]; omega))
          clear hrx
          go_wp2_with fail
          refine HNx.out.mono ?_
          rintro e w7 ⟨v7, rfl, htox⟩
          have HTO6 := hid (RbTo.more tx nx htox)
          clear htox HNx tx nx
          clear kt kr hbel
          have kc : w7.cell? ⟨w.heap.size, 4, none⟩ = some (.slice A5 ps.length c5) := (HCC.out _ _ _ HTO6.out 4).trans rfl
          obtain ⟨Fx, hrx, tx, nx⟩ := HTO6.out
          have HNx := hid (rnum_any w7 w.heap.size Fx v7 ((((((([] : Bt) ++ putL (0 : Int)) ++ putL mn) ++ listE putL is) ++ listE textE ss) ++ listE (listE textE) hs) ++ listE coE cs) (ps.length : Int) hrx ok5.1 (by simp only [List.length_append, List.length_nil]; omega))
          clear hrx
          go_wp2_with fail
          refine HNx.out.mono ?_
          rintro e wl ⟨vl, rfl, htox⟩
          have HTOl := hid (RbTo.more tx nx htox)
          clear htox HNx tx nx
          have hto0 : RbTo w.heap.size (fun _ => False) W1 wl vl (((((((([] : Bt) ++ putL (0 : Int)) ++ putL mn) ++ listE putL is) ++ listE textE ss) ++ listE (listE textE) hs) ++ listE coE cs) ++ (putL (ps.length : Int) ++ (ps.take 0).flatMap procE)) := by simpa using HTOl.out
          have HTO0 := hid hto0
          have kl : wl.cell? ⟨w.heap.size, 4, none⟩ = some (.slice A5 ps.length c5) := (HCC.out _ _ _ hto0 4).trans rfl
          clear hto0 HTOl kc
          go_wp2_with fail
          go_loopw [3, 7, 8, 9] (fun v3 v7 v8 v9 wr => ∃ k : Nat, v7 = .int .i64 k ∧ k ≤ ps.length ∧ RbTo w.heap.size (fun _ => False) W1 wr v3 (((((((([] : Bt) ++ putL (0 : Int)) ++ putL mn) ++ listE putL is) ++ listE textE ss) ++ listE (listE textE) hs) ++ listE coE cs) ++ (putL (ps.length : Int) ++ (ps.take k).flatMap procE))) (fun _ v7 _ _ _ => ps.length - (intOf v7).toNat)
          case atStart => exact ⟨0, rfl, by omega, HTO0.out⟩
          case round =>
            obtain ⟨k, rfl, hk, hto⟩ := hrel
            have kr : wr.cell? ⟨w.heap.size, 4, none⟩ = some (.slice A5 ps.length c5) := (HCC.out _ _ _ hto 4).trans rfl
            by_cases hlt : k < ps.length
            · have hbel := (HBW.out.trans (RbTo.bel HR1.out hto))
              obtain ⟨F1, hr1, t1, n1⟩ := hto
              obtain ⟨bx, off, rfl, hcell⟩ := sl_at H5.out hbel rfl hlt (by omega)
              obtain ⟨vk, hvk, hsk⟩ := HP.out.2 k hlt
              have hsk2 := hsk
              obtain ⟨Ak, nk, ck, rfl, hlk, hmk, hckm, _⟩ := hsk2
              unfold maxLen at hckm
              have d1 : wr.cell? ⟨bx, off + k * 3, none⟩ = some (.int .i64 ps[k].caps) := by
                have := hcell 0 _ (part_get hvk (by omega : 0 < 3))
                simpa using this
              have d2 : wr.cell? ⟨bx, off + k * 3 + 1, none⟩ = some (.int .i64 ps[k].regs) := by
                have := hcell 1 _ (part_get hvk (by omega : 1 < 3))
                simpa [Nat.add_assoc] using this
              have d3 : wr.cell? ⟨bx, off + k * 3 + 2, none⟩ = some (.slice Ak nk ck) := by
                have := hcell 2 _ (part_get hvk (by omega : 2 < 3))
                simpa [Nat.add_assoc] using this
              have hsk' := hsk.below hbel
              have HSK := hid hsk'
              clear hcell hvk hsk hsk'
              have hxok := ok5.2 ps[k] (List.getElem_mem hlt)
              have hst := enc_take procE hlt
              have hpt := enc_part procE hlt
              generalize ps[k] = X at *
              obtain ⟨bk, hbk⟩ : ∃ bk, bk = ((((((([] : Bt) ++ putL (0 : Int)) ++ putL mn) ++ listE putL is) ++ listE textE ss) ++ listE (listE textE) hs) ++ listE coE cs) ++ (putL (ps.length : Int) ++ (ps.take k).flatMap procE) := ⟨_, rfl⟩
              have hbkl : bk.length = ((((((([] : Bt) ++ putL (0 : Int)) ++ putL mn) ++ listE putL is) ++ listE textE ss) ++ listE (listE textE) hs) ++ listE coE cs).length + ((putL (ps.length : Int)).length + ((ps.take k).flatMap procE).length) := by rw [hbk]; simp only [List.length_append] <;> omega
              have hbl : bk.length + (procE X).length + 100 ≤ 140737488355000 := by
                rw [hbkl]
                simp only [List.length_append, List.length_nil]
                omega
              rw [← hbk] at hr1
              have fin : ∀ v10 w10, RbTo w.heap.size F1 wr w10 v10 (bk ++ procE X) → ∃ k_1 : Nat, Value.int .i64 ((k : Int) + 1) = .int .i64 k_1 ∧ k_1 ≤ ps.length ∧ RbTo w.heap.size (fun _ => False) W1 w10 v10 (((((((([] : Bt) ++ putL (0 : Int)) ++ putL mn) ++ listE putL is) ++ listE textE ss) ++ listE (listE textE) hs) ++ listE coE cs) ++ (putL (ps.length : Int) ++ (ps.take k_1).flatMap procE)) := by
                intro v10 w10 h10
                refine ⟨k + 1, rfl, by omega, ?_⟩
                rw [hst, ← List.append_assoc (putL (ps.length : Int)), ← List.append_assoc ((((((([] : Bt) ++ putL (0 : Int)) ++ putL mn) ++ listE putL is) ++ listE textE ss) ++ listE (listE textE) hs) ++ listE coE cs), ← hbk]
                exact RbTo.more t1 n1 h10
              have FIN := hid fin
              clear fin hst hbk
              obtain ⟨X1, X2, X3⟩ := X
              simp only at d1 d2 d3 HSK hlk
              have hvl : ∀ m : List (Int × Int × Int × Int), (instrsV m).length = m.length * 4 := by
                intro m
                induction m with
                | nil => rfl
                | cons x m ih =>
                  have e : instrsV (x :: m) = [.int .i64 x.1, .int .i64 x.2.1, .int .i64 x.2.2.1, .int .i64 x.2.2.2] ++ instrsV m := rfl
                  rw [e, List.length_append, ih, List.length_cons]; simp; omega
              rw [hvl] at hlk
              obtain rfl : X3.length = nk := by omega
              clear hvl
              have hpe : (procE ⟨X1, X2, X3⟩).length = (putL X1).length + ((putL X2).length + ((putL (X3.length : Int)).length + (X3.flatMap instrE).length)) := by unfold procE listE; simp only [List.length_append]
              have hba : Below wr.heap.size wr (wr.alloc (.cells #[.int .i64 X1, .int .i64 X2, .slice Ak X3.length ck] 47)) := (Below.refl _ _).alloc (Nat.le_refl _) _
              have hxp := heap_alloc_new wr (.cells #[.int .i64 X1, .int .i64 X2, .slice Ak X3.length ck] 47)
              obtain ⟨W2, hW2⟩ : ∃ W2, W2 = wr.alloc (.cells #[.int .i64 X1, .int .i64 X2, .slice Ak X3.length ck] 47) := ⟨_, rfl⟩
              rw [← hW2] at hba hxp
              have hbs := hr1.2.2.2
              have hFF := hr1.2.2.1
              have HR2 := hid (hr1.below hba)
              have HBA := hid hba
              have HSK2 := hid (HSK.out.below (hba.mono hbs))
              have hcellp : ∀ (wz : World) (vv : Value) (bb : Bt), RbTo w.heap.size F1 W2 wz vv bb → ∀ i, wz.cell? ⟨wr.heap.size, i, none⟩ = (#[.int .i64 X1, .int .i64 X2, .slice Ak X3.length ck] : Array Value)[i]? := by
                intro wz vv bb h i
                obtain ⟨F3, _, t3, _⟩ := h
                exact cell_of_row _ _ _ _ _ (0, 0) (block_turn hxp t3 (fun h => by have := (hFF _ h).2; omega))
              have HCP := hid hcellp
              have HX := hid (rnum_any W2 w.heap.size F1 _ bk X1 HR2.out hxok.1 (by omega))
              rw [hW2] at HX
              have HW2 := hid hW2
              clear hr1 hcellp hxp hba hW2
              go_wp2_with fail
              refine HX.out.mono ?_
              rintro e w20 ⟨v20, rfl, htoz⟩
              rw [← HW2.out] at htoz
              have HQ1 := hid htoz
              have e1 : w20.cell? ⟨wr.heap.size, 1, none⟩ = some (.int .i64 X2) := (HCP.out _ _ _ htoz 1).trans rfl
              clear htoz HX
              obtain ⟨Fx, hrx, tx, nx⟩ := HQ1.out
              have HNx := hid (rnum_any w20 w.heap.size Fx v20 (bk ++ putL X1) X2 hrx hxok.2.1 (by rw [List.length_append]; omega))
              clear hrx
              go_wp2_with fail
              refine HNx.out.mono ?_
              rintro e w21 ⟨v21, rfl, htox⟩
              have HQ2 := hid (RbTo.more tx nx htox)
              clear htox HNx tx nx
              have e2 : w21.cell? ⟨wr.heap.size, 2, none⟩ = some (.slice Ak X3.length ck) := (HCP.out _ _ _ HQ2.out 2).trans rfl
              obtain ⟨Fx, hrx, tx, nx⟩ := HQ2.out
              have HNx := hid (rnum_any w21 w.heap.size Fx v21 (bk ++ putL X1 ++ putL X2) (X3.length : Int) hrx hxok.2.2.1 (by rw [List.length_append, List.length_append]; omega))
              clear hrx
              go_wp2_with fail
              refine HNx.out.mono ?_
              rintro e w22 ⟨v22, rfl, htox⟩
              have HQ3 := hid (RbTo.more tx nx htox)
              clear htox HNx tx nx
              have hto00 : RbTo w.heap.size F1 W2 w22 v22 ((bk ++ putL X1 ++ putL X2) ++ (putL (X3.length : Int) ++ (X3.take 0).flatMap instrE)) := by simpa using HQ3.out
              have HQ0 := hid hto00
              have e3 : w22.cell? ⟨wr.heap.size, 2, none⟩ = some (.slice Ak X3.length ck) := (HCP.out _ _ _ hto00 2).trans rfl
              clear hto00 HQ3 e1 e2
              obtain ⟨bp, hbp⟩ : ∃ bp, bp = wr.heap.size := ⟨_, rfl⟩
              rw [← hbp] at HCP e3
              rw [← hbp]
              have HFIN2 := hid (fun v10 w10 h => FIN.out v10 w10 (RbTo.first HBA.out h))
              clear FIN hbp kr
              go_wp2_with fail
              go_loopw [3, 9] (fun v3 v9 wr => ∃ q : Nat, v9 = .int .i64 q ∧ q ≤ X3.length ∧ RbTo w.heap.size F1 W2 wr v3 ((bk ++ putL X1 ++ putL X2) ++ (putL (X3.length : Int) ++ (X3.take q).flatMap instrE))) (fun _ v9 _ => X3.length - (intOf v9).toNat)
              case atStart => exact ⟨0, rfl, by omega, HQ0.out⟩
              case round =>
                obtain ⟨q, rfl, hq, hto⟩ := hrel
                have kp : wr.cell? ⟨bp, 2, none⟩ = some (.slice Ak X3.length ck) := (HCP.out _ _ _ hto 2).trans rfl
                by_cases hlq : q < X3.length
                · have hbel2 := RbTo.bel HR2.out hto
                  have dd : ∀ wz, Below w.heap.size W2 wz → ∃ by_ oy, Ak = some ⟨by_, oy, none⟩ ∧ wz.cell? ⟨by_, oy + q * 4, none⟩ = some (.int .i64 X3[q].1) ∧ wz.cell? ⟨by_, oy + q * 4 + 1, none⟩ = some (.int .i64 X3[q].2.1) ∧ wz.cell? ⟨by_, oy + q * 4 + 2, none⟩ = some (.int .i64 X3[q].2.2.1) ∧ wz.cell? ⟨by_, oy + q * 4 + 3, none⟩ = some (.int .i64 X3[q].2.2.2) := by
                    intro wz hwz
                    obtain ⟨by_, oy, hA, hcell⟩ := sl_at HSK2.out hwz rfl hlq (by omega)
                    refine ⟨by_, oy, hA, ?_, ?_, ?_, ?_⟩
                    · have := hcell 0 (.int .i64 X3[q].1) (by rw [instrsV, flat_some (k := 4) (fun _ => rfl) X3 q hlq 0 (by omega)]; rfl)
                      simpa using this
                    · have := hcell 1 (.int .i64 X3[q].2.1) (by rw [instrsV, flat_some (k := 4) (fun _ => rfl) X3 q hlq 1 (by omega)]; rfl)
                      simpa [Nat.add_assoc] using this
                    · have := hcell 2 (.int .i64 X3[q].2.2.1) (by rw [instrsV, flat_some (k := 4) (fun _ => rfl) X3 q hlq 2 (by omega)]; rfl)
                      simpa [Nat.add_assoc] using this
                    · have := hcell 3 (.int .i64 X3[q].2.2.2) (by rw [instrsV, flat_some (k := 4) (fun _ => rfl) X3 q hlq 3 (by omega)]; rfl)
                      simpa [Nat.add_assoc] using this
                  have hyok := hxok.2.2.2 X3[q] (List.getElem_mem hlq)
                  have hst := enc_take instrE hlq
                  have hpt2 := enc_part instrE hlq
                  generalize X3[q] = Y at *
                  obtain ⟨Y1, Y2, Y3, Y4⟩ := Y
                  unfold InstrOk at hyok
                  simp only at dd hyok
                  have hie : (instrE (Y1, Y2, Y3, Y4)).length = (putL Y1).length + ((putL Y2).length + ((putL Y3).length + (putL Y4).length)) := by unfold instrE; simp only [List.length_append]
                  obtain ⟨by_, oy, rfl, f1, f2, f3, f4⟩ := dd wr hbel2
                  have DD : ∀ wz, Below w.heap.size W2 wz → wz.cell? ⟨by_, oy + q * 4 + 1, none⟩ = some (.int .i64 Y2) ∧ wz.cell? ⟨by_, oy + q * 4 + 2, none⟩ = some (.int .i64 Y3) ∧ wz.cell? ⟨by_, oy + q * 4 + 3, none⟩ = some (.int .i64 Y4) := by
                    intro wz hwz
                    obtain ⟨b2, o2, hA, _, g2, g3, g4⟩ := dd wz hwz
                    injection hA with hA
                    simp only [Addr.mk.injEq] at hA
                    obtain ⟨rfl, rfl, _⟩ := hA
                    exact ⟨g2, g3, g4⟩
                  have HDD := hid DD
                  clear dd DD f2 f3 f4
                  obtain ⟨bq, hbq⟩ : ∃ bq, bq = (bk ++ putL X1 ++ putL X2) ++ (putL (X3.length : Int) ++ (X3.take q).flatMap instrE) := ⟨_, rfl⟩
                  have hbql : bq.length = bk.length + (putL X1).length + (putL X2).length + ((putL (X3.length : Int)).length + ((X3.take q).flatMap instrE).length) := by rw [hbq]; simp only [List.length_append]
                  rw [← hbq] at hto
                  have fin2 : ∀ v10 w10, RbTo w.heap.size F1 W2 w10 v10 (bq ++ putL Y1 ++ putL Y2 ++ putL Y3 ++ putL Y4) → ∃ q_1 : Nat, Value.int .i64 ((q : Int) + 1) = .int .i64 q_1 ∧ q_1 ≤ X3.length ∧ RbTo w.heap.size F1 W2 w10 v10 ((bk ++ putL X1 ++ putL X2) ++ (putL (X3.length : Int) ++ (X3.take q_1).flatMap instrE)) := by
                    intro v10 w10 h10
                    refine ⟨q + 1, rfl, by omega, ?_⟩
                    have he : (bk ++ putL X1 ++ putL X2) ++ (putL (X3.length : Int) ++ (X3.take (q + 1)).flatMap instrE) = bq ++ putL Y1 ++ putL Y2 ++ putL Y3 ++ putL Y4 := by
                      rw [hst, hbq]; unfold instrE; simp only [List.append_assoc]
                    rw [he]; exact h10
                  have FIN2 := hid fin2
                  have HS0 := hid hto
                  clear fin2 hst hbq hto
                  obtain ⟨Fx, hrx, tx, nx⟩ := HS0.out
                  have HNx := hid (rnum_any wr w.heap.size Fx _ (bq) Y1 hrx hyok.1 (by (try simp only [List.length_append]); omega))
                  clear hrx
                  go_wp2_with fail
                  refine HNx.out.mono ?_
                  rintro e w31 ⟨v31, rfl, htox⟩
                  have HS1 := hid (RbTo.more tx nx htox)
                  clear htox HNx tx nx
                  have e5 : w31.cell? ⟨bp, 2, none⟩ = some (.slice (some ⟨by_, oy, none⟩) X3.length ck) := (HCP.out _ _ _ HS1.out 2).trans rfl
                  have f2 := (HDD.out w31 (RbTo.bel HR2.out HS1.out)).1
                  obtain ⟨Fx, hrx, tx, nx⟩ := HS1.out
                  have HNx := hid (rnum_any w31 w.heap.size Fx v31 (bq ++ putL Y1) Y2 hrx hyok.2.1 (by (try simp only [List.length_append]); omega))
                  clear hrx
                  go_wp2_with fail
                  refine HNx.out.mono ?_
                  rintro e w32 ⟨v32, rfl, htox⟩
                  have HS2 := hid (RbTo.more tx nx htox)
                  clear htox HNx tx nx
                  have e6 : w32.cell? ⟨bp, 2, none⟩ = some (.slice (some ⟨by_, oy, none⟩) X3.length ck) := (HCP.out _ _ _ HS2.out 2).trans rfl
                  have f3 := (HDD.out w32 (RbTo.bel HR2.out HS2.out)).2.1
                  obtain ⟨Fx, hrx, tx, nx⟩ := HS2.out
                  have HNx := hid (rnum_any w32 w.heap.size Fx v32 (bq ++ putL Y1 ++ putL Y2) Y3 hrx hyok.2.2.1 (by (try simp only [List.length_append]); omega))
                  clear hrx
                  go_wp2_with fail
                  refine HNx.out.mono ?_
                  rintro e w33 ⟨v33, rfl, htox⟩
                  have HS3 := hid (RbTo.more tx nx htox)
                  clear htox HNx tx nx
                  have e7 : w33.cell? ⟨bp, 2, none⟩ = some (.slice (some ⟨by_, oy, none⟩) X3.length ck) := (HCP.out _ _ _ HS3.out 2).trans rfl
                  have f4 := (HDD.out w33 (RbTo.bel HR2.out HS3.out)).2.2
                  obtain ⟨Fx, hrx, tx, nx⟩ := HS3.out
                  have HNx := hid (rnum_any w33 w.heap.size Fx v33 (bq ++ putL Y1 ++ putL Y2 ++ putL Y3) Y4 hrx hyok.2.2.2 (by (try simp only [List.length_append]); omega))
                  clear hrx
                  go_wp2_with fail
                  refine HNx.out.mono ?_
                  rintro e w34 ⟨v34, rfl, htox⟩
                  have HS4 := hid (RbTo.more tx nx htox)
                  clear htox HNx tx nx
                  have hto10 := HS4.out
                  have FN := hid (FIN2.out v34 w34 hto10)
                  clear hto10
                  go_wp2_with fail
                  go_roundw
                  case rel => first | exact FN.out | ((repeat apply Exists.intro); exact ⟨FN.out, rfl⟩)
                  case measure => simp [intOf]; omega
                · obtain rfl : q = X3.length := by omega
                  rw [List.take_length] at hto
                  have he : (bk ++ putL X1 ++ putL X2) ++ (putL (X3.length : Int) ++ X3.flatMap instrE) = bk ++ procE ⟨X1, X2, X3⟩ := by unfold procE listE; simp only [List.append_assoc]
                  rw [he] at hto
                  have hto10 := hto
                  clear he hto
                  have FN := hid (HFIN2.out _ wr hto10)
                  clear hto10
                  go_wp2_with fail
                  go_roundw
                  case rel => first | exact FN.out | ((repeat apply Exists.intro); exact ⟨FN.out, rfl⟩)
                  case measure => simp [intOf]; omega
            · obtain rfl : k = ps.length := by omega
              rw [List.take_length] at hto
              have hto7 : RbTo w.heap.size (fun _ => False) W1 wr _ (((((((([] : Bt) ++ putL (0 : Int)) ++ putL mn) ++ listE putL is) ++ listE textE ss) ++ listE (listE textE) hs) ++ listE coE cs) ++ listE procE ps) := hto
              have hbel := HBW.out.trans (RbTo.bel HR1.out hto7)
              obtain ⟨F7, ⟨g1, g2, g3, g4⟩, _, _⟩ := hto7
              have G1 := hid g1
              have G2 := hid g2
              have G3 := hid g3
              clear hto g1 g2 g3 g4
              go_wp2_with fail
              go_ret
              refine ⟨_, rfl, ?_, hbel⟩
              obtain ⟨n, g1⟩ := G1.out
              have hbb : codeE ⟨is, ss, hs, cs, ps, mn, false⟩ = (((((((([] : Bt) ++ putL (0 : Int)) ++ putL mn) ++ listE putL is) ++ listE textE ss) ++ listE (listE textE) hs) ++ listE coE cs) ++ listE procE ps) := by
                rw [codeE_eq]; unfold mergeE; simp
              rw [hbb]
              exact ⟨n, own_lift g1 (fun g hg => (G3.out g (G2.out g hg)).1)⟩

theorem rencode_any (w : World) (x : List Value) (c : CodeD) (hr : CodeR w w.heap.size x c) (hok : CodeOk c) (hlen : (codeE c).length + 100 ≤ 140737488355000) :
    Calls Try.prog 11 #[.agg x.toArray] w fun e w' => ∃ v', e = .returned v' ∧ OwnB w' w.heap.size 5 v' (codeE c) ∧ Below w.heap.size w w' := by
  obtain ⟨is, ss, hs, cs, ps, mn, mg⟩ := c
  cases mg with
  | true => exact rencode_true w x is ss hs cs ps mn hr hok hlen
  | false => exact rencode_false w x is ss hs cs ps mn hr hok hlen
end Go.Proofs.Ytpnggkkfoipfhaa
