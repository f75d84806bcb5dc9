/- The reference's writing of coercions. -/
import Derived.Test.YtpnggkkfoipfhaaBU
set_option linter.unusedVariables false
namespace Go.Proofs.Ytpnggkkfoipfhaa
open Go.RowKit

/-- The contract of the reference's writing of this coercion. -/
def RcC (c : CoD) : Prop := ∀ (w : World) (base : Nat) (F : Nat → Prop) (v0 : Value) (b : Bt) (x : List Value), RbAt w base F v0 b → CoR w base x c → coOk c → b.length + (coE c).length + 100 ≤ 140737488355000 →
    Calls Try.prog 49 #[v0, .agg x.toArray] w fun e w' => ∃ v', e = .returned v' ∧ RbTo base F w w' v' (b ++ coE c)

set_option maxRecDepth 100000 in
set_option maxHeartbeats 2000000 in
theorem rcos_any (w : World) (base : Nat) (F : Nat → Prop) (v0 : Value) (b : Bt) (v : Value) (l : List CoD) (hR : RbAt w base F v0 b) (xc : List Value) (hr : CosR w base xc l) (hC : ∀ x ∈ l, RcC x) (hv : Sl w base 5 v xc) (hll : In64 (l.length : Int)) (hok : ∀ x ∈ l, coOk x) (hlen : b.length + (listE coE l).length + 100 ≤ 140737488355000) :
    Calls Try.prog 28 #[v0, v] w fun e w' => ∃ v', e = .returned v' ∧ RbTo base F w w' v' (b ++ listE coE l) := by
  have hle : (listE coE l).length = (putL (l.length : Int)).length + (l.flatMap coE).length := by unfold listE; rw [List.length_append]
  have HN := hid (rnum_any w base F v0 b (l.length : Int) hR hll (by omega))
  have HV := hid hv
  have HCR := hid hr
  have HC := hid hC
  obtain ⟨A, n0, c, rfl, hnl, hn, hc, _⟩ := hv
  obtain rfl : l.length = n0 := by have := hr.length; omega
  unfold maxLen at hc
  clear hr hC
  have HR := hid hR
  have HOK := hid hok
  clear hR hok
  go_enter Try.func28, Try.ntmps28
  go_wp2_with fail
  refine HN.out.mono ?_
  rintro e w2 ⟨v2, rfl, hto⟩
  have hto0 : RbTo base F w w2 v2 (b ++ (putL (l.length : Int) ++ (l.take 0).flatMap coE)) := by simpa using hto
  have HTO0 := hid hto0
  clear hto hto0 HN
  go_wp2_with fail
  go_loopw [0, 5] (fun v0 v5 wr => ∃ k : Nat, v5 = .int .i64 k ∧ k ≤ l.length ∧ RbTo base F w wr v0 (b ++ (putL (l.length : Int) ++ (l.take k).flatMap coE))) (fun _ v5 _ => l.length - (intOf v5).toNat)
  case atStart => exact ⟨0, rfl, by omega, HTO0.out⟩
  case round =>
    obtain ⟨k, rfl, hk, hto⟩ := hrel
    by_cases hlt : k < l.length
    · have hbel := RbTo.bel HR.out hto
      obtain ⟨F1, hr1, t1, n1⟩ := hto
      obtain ⟨bx, off, rfl, hcell⟩ := sl_at HV.out hbel rfl hlt (by omega)
      have hck := HC.out l[k] (List.getElem_mem hlt)
      have hrk := (HCR.out.at k hlt).keep hbel
      obtain ⟨A1, n1_, c1, A2, n2, c2, A3, n3, c3, A4, n4, c4, A5, n5, c5, hvk⟩ := hrk.slices
      rw [hvk] at hrk
      have d1 : wr.cell? ⟨bx, off + k * 5, none⟩ = some (.slice A1 n1_ c1) := by
        have := hcell 0 _ (part_get hvk (by omega : 0 < 5))
        simpa using this
      have d2 : wr.cell? ⟨bx, off + k * 5 + 1, none⟩ = some (.slice A2 n2 c2) := by
        have := hcell 1 _ (part_get hvk (by omega : 1 < 5))
        simpa [Nat.add_assoc] using this
      have d3 : wr.cell? ⟨bx, off + k * 5 + 2, none⟩ = some (.slice A3 n3 c3) := by
        have := hcell 2 _ (part_get hvk (by omega : 2 < 5))
        simpa [Nat.add_assoc] using this
      have d4 : wr.cell? ⟨bx, off + k * 5 + 3, none⟩ = some (.slice A4 n4 c4) := by
        have := hcell 3 _ (part_get hvk (by omega : 3 < 5))
        simpa [Nat.add_assoc] using this
      have d5 : wr.cell? ⟨bx, off + k * 5 + 4, none⟩ = some (.slice A5 n5 c5) := by
        have := hcell 4 _ (part_get hvk (by omega : 4 < 5))
        simpa [Nat.add_assoc] using this
      have HRK := hid hrk
      have HCK := hid hck
      clear hcell hvk hrk hck
      have hxok := HOK.out l[k] (List.getElem_mem hlt)
      have hst := enc_take coE hlt
      have hpt := enc_part coE hlt
      generalize l[k] = X at *
      obtain ⟨bk, hbk⟩ : ∃ bk, bk = b ++ (putL (l.length : Int) ++ (l.take k).flatMap coE) := ⟨_, rfl⟩
      have hbkl : bk.length = b.length + ((putL (l.length : Int)).length + ((l.take k).flatMap coE).length) := by rw [hbk, List.length_append, List.length_append]
      rw [← hbk] at hr1
      have fin : ∀ v10 w10, RbTo base F1 wr w10 v10 (bk ++ coE X) → ∃ k_1 : Nat, Value.int .i64 ((k : Int) + 1) = .int .i64 k_1 ∧ k_1 ≤ l.length ∧ RbTo base F w w10 v10 (b ++ (putL (l.length : Int) ++ (l.take k_1).flatMap coE)) := by
        intro v10 w10 h10
        refine ⟨k + 1, rfl, by omega, ?_⟩
        rw [hst, ← List.append_assoc (putL (l.length : Int)), ← List.append_assoc b, ← hbk]
        exact RbTo.more t1 n1 h10
      have FIN := hid fin
      clear fin hbk hst
      have HP := hid (HCK.out wr base F1 _ bk [.slice A1 n1_ c1, .slice A2 n2 c2, .slice A3 n3 c3, .slice A4 n4 c4, .slice A5 n5 c5] hr1 HRK.out hxok (by omega))
      go_wp2_with fail
      refine HP.out.mono ?_
      rintro e w10 ⟨v10, rfl, hto10⟩
      have FN := hid (FIN.out v10 w10 hto10)
      clear hto10
      go_wp2_with fail
      go_roundw
      case rel => exact FN.out
      case measure => simp [intOf]; omega
    · obtain rfl : k = l.length := by omega
      rw [List.take_length] at hto
      go_wp2_with fail
      go_ret
      exact ⟨_, rfl, hto⟩

set_option maxRecDepth 100000 in
set_option maxHeartbeats 4000000 in
theorem rco_step (t : List Int) (n : List (Bt × Int)) (m : List Bt) (f u : List CoD) (Hf : ∀ x ∈ f, RcC x) (Hu : ∀ x ∈ u, RcC x) : RcC (.mk t n m f u) := by
  intro w base F v0 b x hR hr hok hlen
  have hcl : (coE (.mk t n m f u)).length = (listE putL t).length + ((listE needE n).length + ((listE textE m).length + ((listE coE f).length + (listE coE u).length))) := by
    rw [coE_eq]; simp only [List.length_append]
  have hle1 : (listE putL t).length = (putL (t.length : Int)).length + (t.flatMap putL).length := by unfold listE; rw [List.length_append]
  have hle2 : (listE needE n).length = (putL (n.length : Int)).length + (n.flatMap needE).length := by unfold listE; rw [List.length_append]
  rw [coOk] at hok
  obtain ⟨ok1, ok2, ok3, ok4, ok5⟩ := hok
  have hbase := hR.2.2.2
  have hF := hR.2.2.1
  cases hr with
  | mk h1 h2 h3 h4 h4c h5 h5c =>
    have H1 := hid h1
    have H2 := hid h2
    have H3 := hid h3
    have H4 := hid h4
    have H5 := hid h5
    have HC4 := hid h4c
    have HC5 := hid h5c
    obtain ⟨A1, c1, rfl, _, hc1, _⟩ := Is.open_ h1
    obtain ⟨A2, n2, c2, rfl, hnl2, hn2, hc2, _⟩ := h2
    obtain ⟨A3, n3, c3, rfl, _⟩ := h3
    obtain ⟨A4, n4, c4, rfl, _⟩ := h4
    obtain ⟨A5, n5, c5, rfl, _⟩ := h5
    have hvl2 : (needsV n).length = n.length * 2 := by
      have : ∀ m : List (Bt × Int), (needsV m).length = m.length * 2 := by
        intro m
        induction m with
        | nil => rfl
        | cons x m ih =>
          have e : needsV (x :: m) = [sv x.1, .int .i64 x.2] ++ needsV m := rfl
          rw [e, List.length_append, ih, List.length_cons]; simp; omega
      exact this n
    obtain rfl : n.length = n2 := by omega
    unfold maxLen at hc1 hc2
    clear h1 h4c h5c
    have hb1 : Below w.heap.size w (w.alloc (.cells #[.slice A1 t.length c1, .slice A2 n.length c2, .slice A3 n3 c3, .slice A4 n4 c4, .slice A5 n5 c5] 42)) := (Below.refl _ _).alloc (Nat.le_refl _) _
    have hx1 := heap_alloc_new w (.cells #[.slice A1 t.length c1, .slice A2 n.length c2, .slice A3 n3 c3, .slice A4 n4 c4, .slice A5 n5 c5] 42)
    obtain ⟨W1, hW1⟩ : ∃ W1, W1 = w.alloc (.cells #[.slice A1 t.length c1, .slice A2 n.length c2, .slice A3 n3 c3, .slice A4 n4 c4, .slice A5 n5 c5] 42) := ⟨_, rfl⟩
    rw [← hW1] at hb1 hx1
    have HR1 := hid (hR.below hb1)
    have HZ := hid hx1
    have HB := hid hb1
    have HBW := hid (hb1.mono hbase)
    have HF := hid hF
    have HN := hid (rnum_any W1 base F v0 b (t.length : Int) HR1.out ok1.1 (by omega))
    have HWE := hid hW1
    rw [hW1] at HN
    clear hR hb1 hx1 hF hW1
    go_enter Try.func49, Try.ntmps49
    go_wp2_with fail
    refine HN.out.mono ?_
    rintro e w2 ⟨v2, rfl, hto⟩
    rw [← HWE.out] at hto
    have hto0 : RbTo base F W1 w2 v2 (b ++ (putL (t.length : Int) ++ (t.take 0).flatMap putL)) := by simpa using hto
    have HTO0 := hid hto0
    have hcellc : ∀ (wr : World) (vv : Value) (bb : Bt), RbTo base F W1 wr vv bb → ∀ i, wr.cell? ⟨w.heap.size, i, none⟩ = (#[.slice A1 t.length c1, .slice A2 n.length c2, .slice A3 n3 c3, .slice A4 n4 c4, .slice A5 n5 c5] : Array Value)[i]? := by
      intro wr vv bb h i
      obtain ⟨F1, _, t1, _⟩ := h
      exact cell_of_row _ _ _ _ _ (0, 0) (block_turn HZ.out t1 (fun h => by have := (HF.out _ h).2; omega))
    have HCC := hid hcellc
    have q0 := (HCC.out _ _ _ HTO0.out 0).trans rfl
    have k0 : w2.cell? ⟨w.heap.size, 0, none⟩ = some (.slice A1 t.length c1) := q0
    clear hto hto0 HN hcellc q0
    go_wp2_with fail
    go_loopw [0, 5] (fun v0 v5 wr => ∃ k : Nat, v5 = .int .i64 k ∧ k ≤ t.length ∧ RbTo base F W1 wr v0 (b ++ (putL (t.length : Int) ++ (t.take k).flatMap putL))) (fun _ v5 _ => t.length - (intOf v5).toNat)
    case atStart => exact ⟨0, rfl, by omega, HTO0.out⟩
    case round =>
      obtain ⟨k, rfl, hk, hto⟩ := hrel
      have k1 : wr.cell? ⟨w.heap.size, 0, none⟩ = some (.slice A1 t.length c1) := (HCC.out _ _ _ hto 0).trans rfl
      by_cases hlt : k < t.length
      · have hbel := HBW.out.trans (RbTo.bel HR1.out hto)
        obtain ⟨F1, hr1, t1, n1⟩ := hto
        obtain ⟨bx, off, rfl, hcell⟩ := sl_at H1.out hbel rfl hlt (by omega)
        have d1 : wr.cell? ⟨bx, off + k, none⟩ = some (.int .i64 t[k]) := by
          have := hcell 0 (.int .i64 t[k]) (by simp [intsV, hlt])
          simpa using this
        have hxok := ok1.2 t[k] (List.getElem_mem hlt)
        have hst := enc_take putL hlt
        have hpt := enc_part putL hlt
        clear hcell
        generalize t[k] = X at *
        have hlk : (b ++ (putL (t.length : Int) ++ (t.take k).flatMap putL)).length = b.length + ((putL (t.length : Int)).length + ((t.take k).flatMap putL).length) := by rw [List.length_append, List.length_append]
        have fin : ∀ v10 w10, RbTo base F1 wr w10 v10 (b ++ (putL (t.length : Int) ++ (t.take k).flatMap putL) ++ putL X) → ∃ k_1 : Nat, Value.int .i64 ((k : Int) + 1) = .int .i64 k_1 ∧ k_1 ≤ t.length ∧ RbTo base F W1 w10 v10 (b ++ (putL (t.length : Int) ++ (t.take k_1).flatMap putL)) := by
          intro v10 w10 h10
          refine ⟨k + 1, rfl, by omega, ?_⟩
          rw [hst, ← List.append_assoc (putL (t.length : Int)), ← List.append_assoc b]
          exact RbTo.more t1 n1 h10
        have FIN := hid fin
        have HX := hid (rnum_any wr base F1 _ _ X hr1 hxok (by omega))
        clear fin hst hr1
        go_wp2_with fail
        refine HX.out.mono ?_
        rintro e w10 ⟨v10, rfl, hto10⟩
        have FN := hid (FIN.out v10 w10 hto10)
        clear hto10
        go_wp2_with fail
        go_roundw
        case rel => exact FN.out
        case measure => simp [intOf]; omega
      · obtain rfl : k = t.length := by omega
        rw [List.take_length] at hto
        have hto : RbTo base F W1 wr _ (b ++ listE putL t) := hto
        have j1 : wr.cell? ⟨w.heap.size, 1, none⟩ = some (.slice A2 n.length c2) := (HCC.out _ _ _ hto 1).trans rfl
        obtain ⟨F1, hr1, t1, n1⟩ := hto
        have HN2 := hid (rnum_any wr base F1 _ (b ++ listE putL t) (n.length : Int) hr1 ok2.1 (by rw [List.length_append]; omega))
        clear hr1 k0
        go_wp2_with fail
        refine HN2.out.mono ?_
        rintro e w3 ⟨v3, rfl, hto3⟩
        have hto3 := RbTo.more t1 n1 hto3
        have hto0 : RbTo base F W1 w3 v3 ((b ++ listE putL t) ++ (putL (n.length : Int) ++ (n.take 0).flatMap needE)) := by simpa using hto3
        have HTO3 := hid hto0
        have j2 : w3.cell? ⟨w.heap.size, 1, none⟩ = some (.slice A2 n.length c2) := (HCC.out _ _ _ hto0 1).trans rfl
        clear hto3 hto0 HN2 k1 j1
        go_wp2_with fail
        go_loopw [0, 6] (fun v0 v6 wr => ∃ k : Nat, v6 = .int .i64 k ∧ k ≤ n.length ∧ RbTo base F W1 wr v0 ((b ++ listE putL t) ++ (putL (n.length : Int) ++ (n.take k).flatMap needE))) (fun _ v6 _ => n.length - (intOf v6).toNat)
        case atStart => exact ⟨0, rfl, by omega, HTO3.out⟩
        case round =>
          obtain ⟨k, rfl, hk, hto⟩ := hrel
          have k1 : wr.cell? ⟨w.heap.size, 1, none⟩ = some (.slice A2 n.length c2) := (HCC.out _ _ _ hto 1).trans rfl
          by_cases hlt : k < n.length
          · have hbel := HBW.out.trans (RbTo.bel HR1.out hto)
            obtain ⟨F1, hr1, t1, n1⟩ := hto
            obtain ⟨bx, off, rfl, hcell⟩ := sl_at H2.out hbel rfl hlt (by omega)
            have d1 : ∀ wz, Below base wr wz → wz.cell? ⟨bx, off + k * 2, none⟩ = some (sv n[k].1) ∧ wz.cell? ⟨bx, off + k * 2 + 1, none⟩ = some (.int .i64 n[k].2) := by
              intro wz hwz
              obtain ⟨bx', off', hA, hcell'⟩ := sl_at H2.out (hbel.trans hwz) rfl hlt (by omega)
              injection hA with hA
              simp only [Addr.mk.injEq] at hA
              obtain ⟨rfl, rfl, _⟩ := hA
              constructor
              · have := hcell' 0 (sv n[k].1) (by rw [needsV, flat_some (k := 2) (fun _ => rfl) n k hlt 0 (by omega)]; rfl)
                simpa using this
              · have := hcell' 1 (.int .i64 n[k].2) (by rw [needsV, flat_some (k := 2) (fun _ => rfl) n k hlt 1 (by omega)]; rfl)
                simpa [Nat.add_assoc] using this
            have hxok := ok2.2 n[k] (List.getElem_mem hlt)
            have hst := enc_take needE hlt
            have hpt := enc_part needE hlt
            clear hcell
            generalize n[k] = X at *
            obtain ⟨X1, X2⟩ := X
            have hnd : (needE (X1, X2)).length = (textE X1).length + (putL X2).length := by unfold needE; rw [List.length_append]
            simp only at d1 hxok
            have dd := (d1 wr (Below.refl _ _)).1
            have hlk : ((b ++ listE putL t) ++ (putL (n.length : Int) ++ (n.take k).flatMap needE)).length = b.length + (listE putL t).length + ((putL (n.length : Int)).length + ((n.take k).flatMap needE).length) := by rw [List.length_append, List.length_append, List.length_append]
            have fin : ∀ v10 w10, RbTo base F1 wr w10 v10 ((b ++ listE putL t) ++ (putL (n.length : Int) ++ (n.take k).flatMap needE) ++ textE X1 ++ putL X2) → ∃ k_1 : Nat, Value.int .i64 ((k : Int) + 1) = .int .i64 k_1 ∧ k_1 ≤ n.length ∧ RbTo base F W1 w10 v10 ((b ++ listE putL t) ++ (putL (n.length : Int) ++ (n.take k_1).flatMap needE)) := by
              intro v10 w10 h10
              refine ⟨k + 1, rfl, by omega, ?_⟩
              rw [hst, ← List.append_assoc (putL (n.length : Int)), ← List.append_assoc (b ++ listE putL t)]
              unfold needE at *
              rw [← List.append_assoc ((b ++ listE putL t) ++ _)]
              exact RbTo.more t1 n1 h10
            have FIN := hid fin
            have HX := hid (rtext_any wr base F1 _ _ X1 hr1 hxok.1 (by omega))
            have HR9 := hid hr1
            have HD := hid d1
            have HT1 := hid t1
            have HN1 := hid n1
            clear fin hst hr1 d1
            go_wp2_with fail
            refine HX.out.mono ?_
            rintro e w9 ⟨v9, rfl, hto9⟩
            have d2 := (HD.out w9 (RbTo.bel HR9.out hto9)).2
            have hto91 := RbTo.more HT1.out HN1.out hto9
            have k2 : w9.cell? ⟨w.heap.size, 1, none⟩ = some (.slice (some ⟨bx, off, none⟩) n.length c2) := (HCC.out _ _ _ hto91 1).trans rfl
            obtain ⟨F9, hr9, t9, n9⟩ := hto9
            have HX2 := hid (rnum_any w9 base F9 v9 _ X2 hr9 hxok.2 (by rw [List.length_append]; omega))
            clear hr9 hto91 HX
            go_wp2_with fail
            refine HX2.out.mono ?_
            rintro e w10 ⟨v10, rfl, hto10⟩
            have FN := hid (FIN.out v10 w10 (RbTo.more t9 n9 hto10))
            clear hto10
            go_wp2_with fail
            go_roundw
            case rel => exact FN.out
            case measure => simp [intOf]; omega
          · obtain rfl : k = n.length := by omega
            rw [List.take_length] at hto
            have hto : RbTo base F W1 wr _ ((b ++ listE putL t) ++ listE needE n) := hto
            have hbel := HBW.out.trans (RbTo.bel HR1.out hto)
            have j1 : wr.cell? ⟨w.heap.size, 2, none⟩ = some (.slice A3 n3 c3) := (HCC.out _ _ _ hto 2).trans rfl
            obtain ⟨F1, hr1, t1, n1⟩ := hto
            have HT := hid (rtexts_any wr base F1 _ ((b ++ listE putL t) ++ listE needE n) (.slice A3 n3 c3) m hr1 (Sl.below H3.out hbel) ok3.1 ok3.2 (by simp only [List.length_append]; omega))
            clear hr1 hbel
            go_wp2_with fail
            refine HT.out.mono ?_
            rintro e w4 ⟨v4, rfl, hto4⟩
            have hto4 := RbTo.more t1 n1 hto4
            have hbel4 := HBW.out.trans (RbTo.bel HR1.out hto4)
            have j4 : w4.cell? ⟨w.heap.size, 3, none⟩ = some (.slice A4 n4 c4) := (HCC.out _ _ _ hto4 3).trans rfl
            obtain ⟨F4, hr4, t4, n4_⟩ := hto4
            have HT4 := hid (rcos_any w4 base F4 v4 (((b ++ listE putL t) ++ listE needE n) ++ listE textE m) (.slice A4 n4 c4) f hr4 _ (HC4.out.keep hbel4) Hf (H4.out.below hbel4) ok4.1 (cosOk_mem.1 ok4.2) (by simp only [List.length_append]; omega))
            clear hr4 hbel4 HT j1
            go_wp2_with fail
            refine HT4.out.mono ?_
            rintro e w5 ⟨v5, rfl, hto5⟩
            have hto5 := RbTo.more t4 n4_ hto5
            have hbel5 := HBW.out.trans (RbTo.bel HR1.out hto5)
            have j5 : w5.cell? ⟨w.heap.size, 4, none⟩ = some (.slice A5 n5 c5) := (HCC.out _ _ _ hto5 4).trans rfl
            obtain ⟨F5, hr5, t5, n5_⟩ := hto5
            have HT5 := hid (rcos_any w5 base F5 v5 ((((b ++ listE putL t) ++ listE needE n) ++ listE textE m) ++ listE coE f) (.slice A5 n5 c5) u hr5 _ (HC5.out.keep hbel5) Hu (H5.out.below hbel5) ok5.1 (cosOk_mem.1 ok5.2) (by simp only [List.length_append]; omega))
            clear hr5 hbel5 HT4 j4
            go_wp2_with fail
            refine HT5.out.mono ?_
            rintro e w6 ⟨v6, rfl, hto6⟩
            have hto6 := RbTo.first HB.out (RbTo.more t5 n5_ hto6)
            have hcee := coE_eq t n m f u
            have H6 := hid hto6
            have HCE := hid hcee
            clear hto6 hcee
            go_wp2_with fail
            go_ret
            refine ⟨v6, rfl, ?_⟩
            have h6 := H6.out
            rw [HCE.out]
            simp only [List.append_assoc] at h6 ⊢
            exact h6
theorem rco_all : ∀ (k : Nat) (c : CoD), SizeOf.sizeOf c < k → RcC c
  | 0, c, h => absurd h (by omega)
  | k + 1, .mk t n m f u, h => by
    simp only [CoD.mk.sizeOf_spec] at h
    exact rco_step t n m f u (fun x hx => rco_all k x (by have := List.sizeOf_lt_of_mem hx; omega)) (fun x hx => rco_all k x (by have := List.sizeOf_lt_of_mem hx; omega))
theorem rco_any (c : CoD) : RcC c := rco_all _ c (Nat.lt_succ_self _)
end Go.Proofs.Ytpnggkkfoipfhaa
