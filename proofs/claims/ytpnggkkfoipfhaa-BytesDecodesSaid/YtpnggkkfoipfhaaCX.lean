/- The reference's Decode. -/
import Derived.Test.YtpnggkkfoipfhaaCW
set_option linter.unusedVariables false
namespace Go.Proofs.Ytpnggkkfoipfhaa
open Go.RowKit

theorem soco_all : ∀ d : Nat, d ≤ 41 → CoS d
  | 0, _ => soco_zero
  | d + 1, h => soco_succ d (by omega) (soco_all d (by omega))
theorem results_cell_tmp {P : Program} {fn : Func} {t u : Tmp} {T : TypeId} {tmps : Array Value} {w : World} {b : Nat} {cs : Array Value} {x : Value} {S : TypeId} {d : TypeDesc} (h : fn.results = #[.cell t T, .tmp u]) (ht : tmps.getD t undef = .pointer (some ⟨b, 0, none⟩)) (hx : tmps.getD u undef = x) (hb : w.heap[b]? = some (.cells cs S (0, 0)))
    (hu : P.underlying T = some d) (hd : (match d with | .struct _ | .array _ _ => true | _ => false) = true) (hi : (P.info? T).map (·.size) = some cs.size) : (results fn tmps).run P w = .ok (.tuple #[.agg cs, x]) w := by
  have h1 := run_loadVar_row (P := P) w b S T cs (0, 0) d hb hu hd hi
  have e : tmps[t]?.getD undef = .pointer (some ⟨b, 0, none⟩) := by simpa using ht
  have e' : tmps[u]?.getD undef = x := by simpa using hx
  have h2 : (asAddr (.pointer (some ⟨b, 0, none⟩))).run P w = .ok ⟨b, 0, none⟩ w := rfl
  simp [results, h, e, e', h1, h2]
theorem merge_ok {l : Bt} {qm : Option (Int × Bt)} {xm : Int} (h : numD l = qm) (hx : ∀ x r, qm = some (x, r) → xm = x) (h0 : ¬ xm < 0) (h1 : ¬ 1 < xm) : (mergeD l).map (·.2) = qm.map (·.2) ∧ ∀ g r, mergeD l = some (g, r) → g = decide (xm = 1) := by
  unfold mergeD
  rw [h]
  rcases qm with _ | ⟨x, r⟩
  · exact ⟨rfl, fun g r h => by cases h⟩
  · obtain rfl := hx _ _ rfl
    have h2 : xm = 0 ∨ xm = 1 := by omega
    simp only [h2, if_true]
    exact ⟨rfl, fun g r' h => by injection h with h; injection h with h _; exact h.symm⟩
theorem merge_bad {l : Bt} {qm : Option (Int × Bt)} {xm : Int} (h : numD l = qm) (hx : ∀ x r, qm = some (x, r) → xm = x) (h0 : xm < 0 ∨ 1 < xm) : mergeD l = none := by
  unfold mergeD
  rw [h]
  rcases qm with _ | ⟨x, r⟩
  · rfl
  · obtain rfl := hx _ _ rfl
    simp only
    rw [if_neg (by omega)]
theorem code_chain {l : Bt} {qg : Option (Bool × Bt)} {qn : Option (Int × Bt)} {qi : Option (List Int × Bt)} {qs : Option (List Bt × Bt)} {qh : Option (List (List Bt) × Bt)} {qc : Option (List CoD × Bt)} {qp : Option (List ProcD × Bt)} (hg : mergeD l = qg) (hn : (qg.map (·.2)).bind numD = qn) (hi : (qn.map (·.2)).bind (allD numD) = qi) (hs : (qi.map (·.2)).bind (allD textD) = qs)
    (hh : (qs.map (·.2)).bind (allD (allD textD)) = qh) (hc : (qh.map (·.2)).bind (allD (coD 40)) = qc) (hp : (qc.map (·.2)).bind (allD procD) = qp) :
    (∃ g r1 n r2 i r3 s r4 h r5 c r6 p r7, qg = some (g, r1) ∧ qn = some (n, r2) ∧ qi = some (i, r3) ∧ qs = some (s, r4) ∧ qh = some (h, r5) ∧ qc = some (c, r6) ∧ qp = some (p, r7) ∧ codeD l = some (⟨i, s, h, c, p, n, g⟩, r7)) ∨ (codeD l = none ∧ qp = none) := by
  rcases qg with _ | ⟨g, r1⟩
  · subst hn; subst hi; subst hs; subst hh; subst hc; subst hp; exact .inr ⟨by simp only [codeD, mapD, andD, hg], rfl⟩
  replace hn : numD r1 = qn := hn
  rcases qn with _ | ⟨n, r2⟩
  · subst hi; subst hs; subst hh; subst hc; subst hp; exact .inr ⟨by simp only [codeD, mapD, andD, hg, hn], rfl⟩
  replace hi : allD numD r2 = qi := hi
  rcases qi with _ | ⟨i, r3⟩
  · subst hs; subst hh; subst hc; subst hp; exact .inr ⟨by simp only [codeD, mapD, andD, hg, hn, hi], rfl⟩
  replace hs : allD textD r3 = qs := hs
  rcases qs with _ | ⟨s, r4⟩
  · subst hh; subst hc; subst hp; exact .inr ⟨by simp only [codeD, mapD, andD, hg, hn, hi, hs], rfl⟩
  replace hh : allD (allD textD) r4 = qh := hh
  rcases qh with _ | ⟨h, r5⟩
  · subst hc; subst hp; exact .inr ⟨by simp only [codeD, mapD, andD, hg, hn, hi, hs, hh], rfl⟩
  replace hc : allD (coD 40) r5 = qc := hc
  rcases qc with _ | ⟨c, r6⟩
  · subst hp; exact .inr ⟨by simp only [codeD, mapD, andD, hg, hn, hi, hs, hh, hc], rfl⟩
  replace hp : allD procD r6 = qp := hp
  rcases qp with _ | ⟨p, r7⟩
  · exact .inr ⟨by simp only [codeD, mapD, andD, hg, hn, hi, hs, hh, hc, hp], rfl⟩
  exact .inl ⟨g, r1, n, r2, i, r3, s, r4, h, r5, c, r6, p, r7, rfl, rfl, rfl, rfl, rfl, rfl, rfl, by simp only [codeD, mapD, andD, hg, hn, hi, hs, hh, hc, hp]⟩
theorem dec_bad {l : Bt} (hl : l.length ≤ 1048576) (h : codeD l = none) : decE l = 20 ∧ decC l = noCode := by
  have hw : wholeD l = none := by unfold wholeD; rw [h]
  constructor
  · exact dec_none hw hl
  · unfold decC; rw [if_neg (by omega), hw]; rfl
theorem dec_left {l r : Bt} {c : CodeD} (hl : l.length ≤ 1048576) (h : codeD l = some (c, r)) (hr : r ≠ []) : decE l = 20 ∧ decC l = noCode := by
  have hw : wholeD l = none := by
    unfold wholeD; rw [h]
    cases r with
    | nil => exact absurd rfl hr
    | cons => rfl
  constructor
  · exact dec_none hw hl
  · unfold decC; rw [if_neg (by omega), hw]; rfl
theorem dec_good {l : Bt} {c : CodeD} (hl : l.length ≤ 1048576) (h : codeD l = some (c, [])) : decE l = 0 ∧ decC l = c := by
  have hw : wholeD l = some c := by unfold wholeD; rw [h]
  constructor
  · unfold decE; rw [if_neg (by omega), hw]; rfl
  · unfold decC; rw [if_neg (by omega), hw]; rfl
set_option maxRecDepth 100000 in
set_option maxHeartbeats 40000000 in
theorem rdecode_any (v : Value) (l : Bt) (w : World) (hv : Bs w w.heap.size v l) :
    Calls Try.prog 13 #[v] w fun e w' => Below w.heap.size w w' ∧ ∃ z : List Value, e = .returned (.tuple #[.agg z.toArray, .int .i64 (decE l)]) ∧ CodeR w' w'.heap.size z (decC l) := by
  have hv0 := hv
  obtain ⟨A, c, rfl, hn, hc, _⟩ := hv.open_
  unfold maxLen at hc
  clear hv
  by_cases hlong : 1048576 < l.length
  · have hE : decE l = 2 := by unfold decE; rw [if_pos hlong]
    have hC : decC l = noCode := by unfold decC; rw [if_pos hlong]
    rw [hE, hC]
    have hg : decide ((1048576 : Int) < (l.length : Int)) = true := by simp; omega
    go_enter Try.func13, Try.ntmps13
    go_wp2_with fail
    have hb2 : Below w.heap.size w (w.alloc (.cells #[.slice none 0 0, .slice none 0 0, .slice none 0 0, .slice none 0 0, .slice none 0 0, .int .i64 0, .bool false] 28)) := (Below.refl _ _).alloc (Nat.le_refl _) _
    refine bodyPost_ret (results_cell_tmp rfl rfl rfl (heap_alloc_new w _) Try.underlying28 rfl (by kernel_rfl)) rfl ?_
    exact ⟨hb2, _, rfl, noCode_reads _ _⟩
  have hL : l.length ≤ 1048576 := by omega
  have HL := hid hL
  have hg : decide ((1048576 : Int) < (l.length : Int)) = false := by simp; omega
  obtain ⟨W3, hW3⟩ : ∃ W3, ((w.alloc (.cells #[.slice none 0 0, .slice none 0 0, .slice none 0 0, .slice none 0 0, .slice none 0 0, .int .i64 0, .bool false] 28)).alloc (.cells #[.slice A l.length c, .bool false] 74)).alloc (.cells #[.slice none 0 0, .slice none 0 0, .slice none 0 0, .slice none 0 0, .slice none 0 0, .int .i64 0, .bool false] 28) = W3 := ⟨_, rfl⟩
  have hb3 : Below w.heap.size w W3 := by
    rw [← hW3]
    exact (((Below.refl _ _).alloc (Nat.le_refl _) _).alloc (by simp) _).alloc (by simp; omega) _
  have hs3 : W3.heap.size = w.heap.size + 3 := by rw [← hW3]; simp
  have p1 : W3.heap[w.heap.size]? = some (.cells #[.slice none 0 0, .slice none 0 0, .slice none 0 0, .slice none 0 0, .slice none 0 0, .int .i64 0, .bool false] 28 (0, 0)) := by
    rw [← hW3]; exact block_turn (two_new w _ _).1 (Turn.alloc (fun _ => False) _ _) id
  have p2 : W3.heap[w.heap.size + 1]? = some (.cells #[.slice A l.length c, .bool false] 74 (0, 0)) := by
    rw [← hW3]; exact block_turn (two_new w _ _).2 (Turn.alloc (fun _ => False) _ _) id
  have p3 : W3.heap[w.heap.size + 1 + 1]? = some (.cells #[.slice none 0 0, .slice none 0 0, .slice none 0 0, .slice none 0 0, .slice none 0 0, .int .i64 0, .bool false] 28 (0, 0)) := by
    have h := heap_alloc_new ((w.alloc (.cells #[.slice none 0 0, .slice none 0 0, .slice none 0 0, .slice none 0 0, .slice none 0 0, .int .i64 0, .bool false] 28)).alloc (.cells #[.slice A l.length c, .bool false] 74)) (.cells #[.slice none 0 0, .slice none 0 0, .slice none 0 0, .slice none 0 0, .slice none 0 0, .int .i64 0, .bool false] 28)
    rw [hW3] at h
    simpa using h
  have FX : Hid (Fix w (fun _ => False) (w.heap.size + 1) w.heap.size w.heap.size (w.heap.size + 1 + 1) (w.heap.size + 3)) := hid ⟨Nat.le_refl _, by omega, by omega, by omega, by omega, .inr (by omega), Nat.le_refl _, by omega, by omega, by omega, by omega⟩
  have hs0 : SoAt 28 #[.slice none 0 0, .slice none 0 0, .slice none 0 0, .slice none 0 0, .slice none 0 0, .int .i64 0, .bool false] w (fun _ => False) (w.heap.size + 1) w.heap.size w.heap.size (w.heap.size + 1 + 1) (w.heap.size + 3) W3 #[.slice none 0 0, .slice none 0 0, .slice none 0 0, .slice none 0 0, .slice none 0 0, .int .i64 0, .bool false] (some l) :=
    ⟨Turn.of_below hb3, by omega, ⟨by omega, hL, _, p2, hv0.below hb3⟩, p1, p3⟩
  have S0 := hid hs0
  have HC40 := hid (soco_all 40 (by omega))
  have HM := hid (sonum_any W3 (w.heap.size + 1) w.heap.size _ S0.out.rd)
  rw [← hW3] at HM
  have HW := hid hW3
  clear hv0 hb3 hs3 p1 p2 p3 hs0 hW3 hlong
  go_enter Try.func13, Try.ntmps13
  go_wp2_with fail
  clear hg
  refine HM.out.mono ?_
  rintro e wm ⟨vm, rfl, h2⟩
  rw [HW.out] at h2
  obtain ⟨qm, hq⟩ : ∃ qm, numD l = qm := ⟨_, rfl⟩
  rw [show (some l).bind numD = qm from hq] at h2
  have HQm := hid hq
  obtain ⟨xm, rfl⟩ : ∃ x, vm = .int .i64 x := h2.shape (fun _ x h => ⟨_, h⟩) (fun h => ⟨_, h⟩)
  have HXm : Hid (∀ x r, qm = some (x, r) → xm = x) := hid (fun x r hx => by have := (h2.some_ hx).1 _ (Turn.refl _ _); injection this)
  have Sm := hid (S0.out.call FX.out h2.1 h2.rs)
  obtain ⟨mg, hmg⟩ : ∃ mg : Bool, (xm == 1) = mg := ⟨_, rfl⟩
  obtain ⟨qg, hqg⟩ : ∃ qg, mergeD l = qg := ⟨_, rfl⟩
  have HQg := hid hqg
  have HMG := hid hmg
  obtain ⟨lr, br, hr, _⟩ := Sm.out.rd.open_
  have HRS := hid hr
  obtain ⟨Ar, cr, hnr, hcr, hLr, hBr, hbsr, hbr, dr1, dr2, zr1, zr2⟩ := hr.parts
  clear h2 hq HM HW S0 hqg hr hbsr hbr dr1 zr1
  have e0 : wm.cell? ⟨w.heap.size + 1 + 1, 0, none⟩ = some (.slice none 0 0) := Sm.out.cell 0
  have e1 : wm.cell? ⟨w.heap.size + 1 + 1, 1, none⟩ = some (.slice none 0 0) := Sm.out.cell 1
  have e2 : wm.cell? ⟨w.heap.size + 1 + 1, 2, none⟩ = some (.slice none 0 0) := Sm.out.cell 2
  have e3 : wm.cell? ⟨w.heap.size + 1 + 1, 3, none⟩ = some (.slice none 0 0) := Sm.out.cell 3
  have e4 : wm.cell? ⟨w.heap.size + 1 + 1, 4, none⟩ = some (.slice none 0 0) := Sm.out.cell 4
  have e5 : wm.cell? ⟨w.heap.size + 1 + 1, 5, none⟩ = some (.int .i64 0) := Sm.out.cell 5
  have e6 : wm.cell? ⟨w.heap.size + 1 + 1, 6, none⟩ = some (.bool false) := Sm.out.cell 6
  have z0 := Sm.out.free
  by_cases hm : xm < 0
  · have hm1 : decide (xm < 0) = true := by simpa using hm
    have hno : qg = none := HQg.out.symm.trans (merge_bad HQm.out HXm.out (.inl hm))
    have HGG : Hid (∀ g r, qg = some (g, r) → mg = g) := hid (fun g r h => by rw [hno] at h; cases h)
    have Sg : Hid (SoAt 28 #[.slice none 0 0, .slice none 0 0, .slice none 0 0, .slice none 0 0, .slice none 0 0, .int .i64 0, .bool false] w (fun _ => False) (w.heap.size + 1) w.heap.size w.heap.size (w.heap.size + 1 + 1) (w.heap.size + 3) (wm.setCell ⟨w.heap.size + 1, 1, none⟩ (.bool true)) #[.slice none 0 0, .slice none 0 0, .slice none 0 0, .slice none 0 0, .slice none 0 0, .int .i64 0, .bool false] (qg.map (·.2))) := hid (by rw [hno]; exact Sm.out.call FX.out (turn_set _ _ 1 _) ⟨lr, HRS.out.spoil⟩)
    clear hno hm
    have Sg9 := hid (Sg.out.set FX.out 6 (.bool mg))
    have Cn := hid (sonum_any ((wm.setCell ⟨w.heap.size + 1, 1, none⟩ (.bool true)).setCell ⟨w.heap.size + 1 + 1, 6, none⟩ (.bool mg)) (w.heap.size + 1) w.heap.size _ Sg9.out.rd)
    go_wp2_with fail
    refine Cn.out.mono ?_
    rintro e wn ⟨vn, rfl, h2⟩
    obtain ⟨qn, hq⟩ : ∃ qn, (qg.map (·.2)).bind numD = qn := ⟨_, rfl⟩
    rw [hq] at h2
    have HQn := hid hq
    obtain ⟨xn, rfl⟩ : ∃ x, vn = .int .i64 x := h2.shape (fun _ x h => ⟨_, h⟩) (fun h => ⟨_, h⟩)
    have HXn : Hid (∀ x r, qn = some (x, r) → xn = x) := hid (fun x r hx => by have := (h2.some_ hx).1 _ (Turn.refl _ _); injection this)
    have Sn := hid (Sg9.out.call FX.out h2.1 h2.rs)
    have e0 : wn.cell? ⟨w.heap.size + 1 + 1, 0, none⟩ = some (.slice none 0 0) := Sn.out.cell 0
    have e1 : wn.cell? ⟨w.heap.size + 1 + 1, 1, none⟩ = some (.slice none 0 0) := Sn.out.cell 1
    have e2 : wn.cell? ⟨w.heap.size + 1 + 1, 2, none⟩ = some (.slice none 0 0) := Sn.out.cell 2
    have e3 : wn.cell? ⟨w.heap.size + 1 + 1, 3, none⟩ = some (.slice none 0 0) := Sn.out.cell 3
    have e4 : wn.cell? ⟨w.heap.size + 1 + 1, 4, none⟩ = some (.slice none 0 0) := Sn.out.cell 4
    have e5 : wn.cell? ⟨w.heap.size + 1 + 1, 5, none⟩ = some (.int .i64 0) := Sn.out.cell 5
    have e6 : wn.cell? ⟨w.heap.size + 1 + 1, 6, none⟩ = some (.bool mg) := Sn.out.cell 6
    have z0 := Sn.out.free
    clear h2 hq Cn
    have Sn9 := hid (Sn.out.set FX.out 5 (.int .i64 xn))
    have Ci := hid (sonums_any (wn.setCell ⟨w.heap.size + 1 + 1, 5, none⟩ (.int .i64 xn)) (w.heap.size + 1) w.heap.size _ Sn9.out.rd)
    go_wp2_with fail
    refine Ci.out.mono ?_
    rintro e wi ⟨vi, rfl, h2⟩
    obtain ⟨qi, hq⟩ : ∃ qi, (qn.map (·.2)).bind (allD numD) = qi := ⟨_, rfl⟩
    rw [hq] at h2
    have HQi := hid hq
    obtain ⟨Ai, ni, ci, rfl⟩ : IsSlice vi := h2.shape (fun _ _ h => list_shape h) (fun h => h)
    have Si := hid (Sn9.out.call FX.out h2.1 h2.rs)
    have Ki0 := hid (h2.held (M := w.heap.size + 3) Sn9.out.size)
    have e0 : wi.cell? ⟨w.heap.size + 1 + 1, 0, none⟩ = some (.slice none 0 0) := Si.out.cell 0
    have e1 : wi.cell? ⟨w.heap.size + 1 + 1, 1, none⟩ = some (.slice none 0 0) := Si.out.cell 1
    have e2 : wi.cell? ⟨w.heap.size + 1 + 1, 2, none⟩ = some (.slice none 0 0) := Si.out.cell 2
    have e3 : wi.cell? ⟨w.heap.size + 1 + 1, 3, none⟩ = some (.slice none 0 0) := Si.out.cell 3
    have e4 : wi.cell? ⟨w.heap.size + 1 + 1, 4, none⟩ = some (.slice none 0 0) := Si.out.cell 4
    have e5 : wi.cell? ⟨w.heap.size + 1 + 1, 5, none⟩ = some (.int .i64 xn) := Si.out.cell 5
    have e6 : wi.cell? ⟨w.heap.size + 1 + 1, 6, none⟩ = some (.bool mg) := Si.out.cell 6
    have z0 := Si.out.free
    clear h2 hq Ci
    have Si9 := hid (Si.out.set FX.out 0 (.slice Ai ni ci))
    have Ki := hid (Ki0.out.set FX.out 0 (.slice Ai ni ci))
    have Cs := hid (sotexts_any (wi.setCell ⟨w.heap.size + 1 + 1, 0, none⟩ (.slice Ai ni ci)) (w.heap.size + 1) w.heap.size _ Si9.out.rd)
    go_wp2_with fail
    refine Cs.out.mono ?_
    rintro e ws ⟨vs, rfl, h2⟩
    obtain ⟨qs, hq⟩ : ∃ qs, (qi.map (·.2)).bind (allD textD) = qs := ⟨_, rfl⟩
    rw [hq] at h2
    have HQs := hid hq
    obtain ⟨As, ns, cs, rfl⟩ : IsSlice vs := h2.shape (fun _ _ h => list_shape h) (fun h => h)
    have Ss := hid (Si9.out.call FX.out h2.1 h2.rs)
    have Ki_s := hid (Ki.out.call FX.out h2.1)
    have Ks0 := hid (h2.held (M := w.heap.size + 3) Si9.out.size)
    have e0 : ws.cell? ⟨w.heap.size + 1 + 1, 0, none⟩ = some (.slice Ai ni ci) := Ss.out.cell 0
    have e1 : ws.cell? ⟨w.heap.size + 1 + 1, 1, none⟩ = some (.slice none 0 0) := Ss.out.cell 1
    have e2 : ws.cell? ⟨w.heap.size + 1 + 1, 2, none⟩ = some (.slice none 0 0) := Ss.out.cell 2
    have e3 : ws.cell? ⟨w.heap.size + 1 + 1, 3, none⟩ = some (.slice none 0 0) := Ss.out.cell 3
    have e4 : ws.cell? ⟨w.heap.size + 1 + 1, 4, none⟩ = some (.slice none 0 0) := Ss.out.cell 4
    have e5 : ws.cell? ⟨w.heap.size + 1 + 1, 5, none⟩ = some (.int .i64 xn) := Ss.out.cell 5
    have e6 : ws.cell? ⟨w.heap.size + 1 + 1, 6, none⟩ = some (.bool mg) := Ss.out.cell 6
    have z0 := Ss.out.free
    clear h2 hq Cs
    have Ss9 := hid (Ss.out.set FX.out 1 (.slice As ns cs))
    have Ki_s9 := hid (Ki_s.out.set FX.out 1 (.slice As ns cs))
    have Ks := hid (Ks0.out.set FX.out 1 (.slice As ns cs))
    have Cn := hid (somany_any (ws.setCell ⟨w.heap.size + 1 + 1, 1, none⟩ (.slice As ns cs)) (w.heap.size + 1) w.heap.size _ Ss9.out.rd)
    go_wp2_with fail
    clear e0 e1 e2 e3 e4 e5 e6 z0
    refine Cn.out.mono ?_
    rintro e wn ⟨vn, rfl, h2⟩
    obtain ⟨Wh, hW⟩ : ∃ Wh, (ws.setCell ⟨w.heap.size + 1 + 1, 1, none⟩ (.slice As ns cs)) = Wh := ⟨_, rfl⟩
    rw [hW] at h2 Ss9 Ki_s9 Ks
    clear hW Cn
    obtain ⟨mh, rfl, hn0, hst⟩ := lo_start (k := 1) (T := 23) (R := RTexts) (d1 := (allD textD)) (F := (fun k => k = (w.heap.size + 1) ∨ k = w.heap.size + 1 + 1)) h2 (h2.1.mono fun j _ hj => .inl hj)
    obtain ⟨qh, hq⟩ : ∃ qh, (qs.map (·.2)).bind (allD (allD textD)) = qh := ⟨_, rfl⟩
    rw [hq] at hst
    have HQh := hid hq
    have HST := hid hst
    have HAR := hid (Ss9.out.call FX.out h2.1 h2.rs).arr
    have HFS : Hid (∀ j, (j = (w.heap.size + 1) ∨ j = w.heap.size + 1 + 1) → j < Wh.heap.size) := hid (fun j hj => by have := Ss9.out.size; have := FX.out.km; have := FX.out.vm; rcases hj with rfl | rfl <;> omega)
    clear h2 hst hq
    go_wp2_with fail
    go_loopw [8] (fun v8 wr => ∃ (i : Nat) (v : Value), v8 = .int .i64 (i : Int) ∧ i ≤ mh ∧ LoS 1 23 RTexts (allD textD) (fun k => k = (w.heap.size + 1) ∨ k = w.heap.size + 1 + 1) Wh (w.heap.size + 1) w.heap.size mh qh wr v i ∧ wr.heap[w.heap.size + 1 + 1]? = some (.cells #[.slice Ai ni ci, .slice As ns cs, v, .slice none 0 0, .slice none 0 0, .int .i64 xn, .bool mg] 28 (0, 0))) (fun v8 _ => mh - (intOf v8).toNat)
    case atStart => exact ⟨0, _, rfl, by omega, HST.out, HAR.out⟩
    case round =>
      obtain ⟨i, v, rfl, hi, hat, har⟩ := hrel
      obtain ⟨Ah, nh, ch, rfl⟩ := hat.shape
      have HARR := hid har
      clear har
      by_cases hlt : i < mh
      · have hlt1 := hlt
        rcases hat with ⟨ys, xs, r, hat⟩ | hat
        · obtain ⟨A, c, hn1, hc1, hL1, hB1, hbs, hb, d1, d2, z1, z2⟩ := hat.rd.parts
          have HAT := hid hat
          clear hat hbs hb d1 z1 z2
          have HN := hid (sotexts_any wr (w.heap.size + 1) w.heap.size (some r) HAT.out.rd)
          go_wp2_with fail
          refine HN.out.mono ?_
          rintro e w5 ⟨vs, rfl, h45⟩
          have h45 : SobR _ _ (w.heap.size + 1) w.heap.size wr (allD textD r) vs w5 := h45
          obtain ⟨At, nt, ct, rfl⟩ : IsSlice vs := h45.shape (fun _ _ h => list_shape h) (fun h => h)
          clear HN d2
          have H45 := hid h45
          have hsz5 : Wh.heap.size ≤ (w5).heap.size := Nat.le_trans HAT.out.turn.size h45.1.size
          have HROW5 := hid (own_turn HAT.out.row h45.1 (fun g hg e => by have := (HAT.out.row.lt g hg).1; have := HFS.out _ (.inl e); omega))
          have harr5 := block_turn HARR.out h45.1 (Ne.symm FX.out.kv)
          have HARR5 := hid harr5
          have k1 : w5.cell? ⟨w.heap.size + 1 + 1, 2, none⟩ = some (.slice Ah nh ch) := (cell_of_row _ _ _ _ _ _ harr5).trans rfl
          have hbv5 : w.heap.size + 1 + 1 < w5.heap.size := block_lt harr5
          have HIL := HAT.out.row.1
          have H1 : Hid (∀ u ∈ ([Value.slice At nt ct] : List Value), u.oneCell' = true) := hid (by intro u hu; simp only [List.mem_cons, List.not_mem_nil, or_false] at hu; subst hu; rfl)
          clear h45 harr5
          go_wp2_with (at_builtin; go_must (refine wpList_app rfl _ _ _ rfl Wh.heap.size el_rd_texts _ _ rfl rfl (HROW5.out.alloc _) (sl_new w5 _ _ 1 1 rfl (by decide)) H1.out (by simp [maxLen]; omega) (by simp; omega) (le_alloc hsz5 _) (fun v9 w9 n9 hown9 hg9 hbk9 => ?_)); have HS9 := hid (lo_next HAT.out HFS.out (.inl rfl) hlt1 H45.out (z := [Value.slice At nt ct]) rfl (fun w x h => ⟨_, rfl, list_texts h⟩) ((Below.refl _ _).alloc (Nat.le_refl _) _) hg9 (by have h9 := hown9.1; simp at h9 HIL; omega) hown9 hbk9); obtain ⟨A9, m9, c9, rfl⟩ := sl_shape (Sl.of_own hown9); have har9 := block_turn HARR5.out ((Turn.of_below (F := fun k => Value.ownBlock (.slice Ah nh ch) = some k) ((Below.refl w5.heap.size w5).alloc (Nat.le_refl _) _)).trans (Turn.of_grown hg9 (fun j hj => hj)) (fun _ _ h => h)) (fun e => by have := (HAT.out.row.lt _ e).1; have := HFS.out _ (.inr rfl); omega); have k9 : w9.cell? ⟨w.heap.size + 1 + 1, 2, none⟩ = some (.slice Ah nh ch) := (cell_of_row _ _ _ _ _ _ har9).trans rfl; have f9 := block_free har9 2; have HAR9 := hid har9; clear hown9 hg9 hbk9 har9)
          refine ⟨⟨i + 1, _, rfl, by omega, lo_set HS9.out (.inr rfl) FX.out.kv FX.out.bb (HFS.out _ (.inr rfl)), heap_setCell_same _ _ 2 _ _ _ HAR9.out⟩, ?_⟩
          simp [intOf]; omega
        · obtain ⟨l8, hl⟩ := hat.rd
          obtain ⟨A, c, hn1, hc1, hL1, hB1, hbs, hb, d1, d2, z1, z2⟩ := hl.parts
          have hb2 := LoB.done (k := 1) (R := RTexts) hat
          have HQN := hid hat.eq
          clear hat hbs hb d1 z1 z2 hl
          have Sh := hid (Ss9.out.loop FX.out hb2.1 hb2.rs HARR.out)
          have Ki_s9_h := hid (Ki_s9.out.loop FX.out hb2.1)
          have Ks_h := hid (Ks.out.loop FX.out hb2.1)
          have Kh := hid (hb2.held (M := w.heap.size + 3) Ss9.out.size)
          clear hb2
          have Cc := hid (socos_any 40 wr (w.heap.size + 1) w.heap.size _ Sh.out.rd HC40.out)
          go_wp2_with fail
          refine Cc.out.mono ?_
          rintro e wc ⟨vc, rfl, h2⟩
          obtain ⟨qc, hq⟩ : ∃ qc, (qh.map (·.2)).bind (allD (coD 40)) = qc := ⟨_, rfl⟩
          rw [hq] at h2
          have HQc := hid hq
          obtain ⟨Ac, nc, cc, rfl⟩ : IsSlice vc := h2.shape (fun _ _ h => list_shape h) (fun h => h)
          have Sc := hid (Sh.out.call FX.out h2.1 h2.rs)
          have Ki_s9_h_c := hid (Ki_s9_h.out.call FX.out h2.1)
          have Ks_h_c := hid (Ks_h.out.call FX.out h2.1)
          have Kh_c := hid (Kh.out.call FX.out h2.1)
          have Kc0 := hid (h2.held (M := w.heap.size + 3) Sh.out.size)
          have e0 : wc.cell? ⟨w.heap.size + 1 + 1, 0, none⟩ = some (.slice Ai ni ci) := Sc.out.cell 0
          have e1 : wc.cell? ⟨w.heap.size + 1 + 1, 1, none⟩ = some (.slice As ns cs) := Sc.out.cell 1
          have e2 : wc.cell? ⟨w.heap.size + 1 + 1, 2, none⟩ = some (.slice Ah nh ch) := Sc.out.cell 2
          have e3 : wc.cell? ⟨w.heap.size + 1 + 1, 3, none⟩ = some (.slice none 0 0) := Sc.out.cell 3
          have e4 : wc.cell? ⟨w.heap.size + 1 + 1, 4, none⟩ = some (.slice none 0 0) := Sc.out.cell 4
          have e5 : wc.cell? ⟨w.heap.size + 1 + 1, 5, none⟩ = some (.int .i64 xn) := Sc.out.cell 5
          have e6 : wc.cell? ⟨w.heap.size + 1 + 1, 6, none⟩ = some (.bool mg) := Sc.out.cell 6
          have z0 := Sc.out.free
          clear h2 hq Cc
          have Sc9 := hid (Sc.out.set FX.out 3 (.slice Ac nc cc))
          have Ki_s9_h_c9 := hid (Ki_s9_h_c.out.set FX.out 3 (.slice Ac nc cc))
          have Ks_h_c9 := hid (Ks_h_c.out.set FX.out 3 (.slice Ac nc cc))
          have Kh_c9 := hid (Kh_c.out.set FX.out 3 (.slice Ac nc cc))
          have Kc := hid (Kc0.out.set FX.out 3 (.slice Ac nc cc))
          have Cn := hid (somany_any (wc.setCell ⟨w.heap.size + 1 + 1, 3, none⟩ (.slice Ac nc cc)) (w.heap.size + 1) w.heap.size _ Sc9.out.rd)
          go_wp2_with fail
          clear e0 e1 e2 e3 e4 e5 e6 z0
          refine Cn.out.mono ?_
          rintro e wn ⟨vn, rfl, h2⟩
          obtain ⟨Wp, hW⟩ : ∃ Wp, (wc.setCell ⟨w.heap.size + 1 + 1, 3, none⟩ (.slice Ac nc cc)) = Wp := ⟨_, rfl⟩
          rw [hW] at h2 Sc9 Ki_s9_h_c9 Ks_h_c9 Kh_c9 Kc
          clear hW Cn
          obtain ⟨mp, rfl, hn0, hst⟩ := lo_start (k := 3) (T := 47) (R := RProc) (d1 := procD) (F := (fun k => k = (w.heap.size + 1) ∨ k = w.heap.size + 1 + 1)) h2 (h2.1.mono fun j _ hj => .inl hj)
          obtain ⟨qp, hq⟩ : ∃ qp, (qc.map (·.2)).bind (allD procD) = qp := ⟨_, rfl⟩
          rw [hq] at hst
          have HQp := hid hq
          have HST := hid hst
          have HAR := hid (Sc9.out.call FX.out h2.1 h2.rs).arr
          have HFS : Hid (∀ j, (j = (w.heap.size + 1) ∨ j = w.heap.size + 1 + 1) → j < Wp.heap.size) := hid (fun j hj => by have := Sc9.out.size; have := FX.out.km; have := FX.out.vm; rcases hj with rfl | rfl <;> omega)
          clear h2 hst hq
          go_wp2_with fail
          go_loopw [10] (fun v10 wr => ∃ (i : Nat) (v : Value), v10 = .int .i64 (i : Int) ∧ i ≤ mp ∧ LoS 3 47 RProc procD (fun k => k = (w.heap.size + 1) ∨ k = w.heap.size + 1 + 1) Wp (w.heap.size + 1) w.heap.size mp qp wr v i ∧ wr.heap[w.heap.size + 1 + 1]? = some (.cells #[.slice Ai ni ci, .slice As ns cs, .slice Ah nh ch, .slice Ac nc cc, v, .int .i64 xn, .bool mg] 28 (0, 0))) (fun v10 _ => mp - (intOf v10).toNat)
          case atStart => exact ⟨0, _, rfl, by omega, HST.out, HAR.out⟩
          case round =>
            obtain ⟨i, v, rfl, hi, hat, har⟩ := hrel
            obtain ⟨Ap, np, cp, rfl⟩ := hat.shape
            have HARR := hid har
            clear har
            by_cases hlt : i < mp
            · have hlt1 := hlt
              rcases hat with ⟨ys, xs, r, hat⟩ | hat
              · obtain ⟨A, c, hn1, hc1, hL1, hB1, hbs, hb, d1, d2, z1, z2⟩ := hat.rd.parts
                have HAT := hid hat
                clear hat hbs hb d1 z1 z2
                have HN := hid (soproc_any wr (w.heap.size + 1) w.heap.size (some r) HAT.out.rd)
                go_wp2_with fail
                refine HN.out.mono ?_
                rintro e w5 ⟨vs, rfl, h45⟩
                have h45 : SobR _ _ (w.heap.size + 1) w.heap.size wr (procD r) vs w5 := h45
                obtain ⟨xa, xb, At, nt, ct, rfl⟩ : IsProc vs := h45.shape (fun _ _ h => proc_of h) (fun h => h)
                clear HN d2
                have H45 := hid h45
                have hsz5 : Wp.heap.size ≤ (w5).heap.size := Nat.le_trans HAT.out.turn.size h45.1.size
                have HROW5 := hid (own_turn HAT.out.row h45.1 (fun g hg e => by have := (HAT.out.row.lt g hg).1; have := HFS.out _ (.inl e); omega))
                have harr5 := block_turn HARR.out h45.1 (Ne.symm FX.out.kv)
                have HARR5 := hid harr5
                have k1 : w5.cell? ⟨w.heap.size + 1 + 1, 4, none⟩ = some (.slice Ap np cp) := (cell_of_row _ _ _ _ _ _ harr5).trans rfl
                have hbv5 : w.heap.size + 1 + 1 < w5.heap.size := block_lt harr5
                have HIL := HAT.out.row.1
                have H1 : Hid (∀ u ∈ ([Value.int .i64 xa, .int .i64 xb, .slice At nt ct] : List Value), u.oneCell' = true) := hid (by intro u hu; simp only [List.mem_cons, List.not_mem_nil, or_false] at hu; rcases hu with rfl | rfl | rfl <;> rfl)
                clear h45 harr5
                go_wp2_with (at_builtin; go_must (refine wpList_app rfl _ _ _ rfl Wp.heap.size el_rd_proc _ _ rfl rfl ((HROW5.out.alloc _).alloc _) (sl_new2 w5 _ _ _ 3 1 rfl (by decide)) H1.out (by simp [maxLen]; omega) (by simp; omega) (le_alloc (le_alloc hsz5 _) _) (fun v9 w9 n9 hown9 hg9 hbk9 => ?_)); have HS9 := hid (lo_next HAT.out HFS.out (.inl rfl) hlt1 H45.out (z := [Value.int .i64 xa, .int .i64 xb, .slice At nt ct]) rfl (fun w x h => elk_cells h) (((Below.refl _ _).alloc (Nat.le_refl _) _).alloc (le_alloc (Nat.le_refl _) _) _) hg9 (by have h9 := hown9.1; simp at h9 HIL; omega) hown9 hbk9); obtain ⟨A9, m9, c9, rfl⟩ := sl_shape (Sl.of_own hown9); have har9 := block_turn HARR5.out ((Turn.of_below (F := fun k => Value.ownBlock (.slice Ap np cp) = some k) (((Below.refl w5.heap.size w5).alloc (Nat.le_refl _) _).alloc (le_alloc (Nat.le_refl _) _) _)).trans (Turn.of_grown hg9 (fun j hj => hj)) (fun _ _ h => h)) (fun e => by have := (HAT.out.row.lt _ e).1; have := HFS.out _ (.inr rfl); omega); have k9 : w9.cell? ⟨w.heap.size + 1 + 1, 4, none⟩ = some (.slice Ap np cp) := (cell_of_row _ _ _ _ _ _ har9).trans rfl; have f9 := block_free har9 4; have HAR9 := hid har9; clear hown9 hg9 hbk9 har9)
                refine ⟨⟨i + 1, _, rfl, by omega, lo_set HS9.out (.inr rfl) FX.out.kv FX.out.bb (HFS.out _ (.inr rfl)), heap_setCell_same _ _ 4 _ _ _ HAR9.out⟩, ?_⟩
                simp [intOf]; omega
              · obtain ⟨l8, hl⟩ := hat.rd
                obtain ⟨A, c, hn1, hc1, hL1, hB1, hbs, hb, d1, d2, z1, z2⟩ := hl.parts
                have hb2 := LoB.done (k := 3) (R := RProc) hat
                have HQN := hid hat.eq
                clear hat hbs hb d1 z1 z2 hl
                have Sp := hid (Sc9.out.loop FX.out hb2.1 hb2.rs HARR.out)
                have Ki_s9_h_c9_p := hid (Ki_s9_h_c9.out.loop FX.out hb2.1)
                have Ks_h_c9_p := hid (Ks_h_c9.out.loop FX.out hb2.1)
                have Kh_c9_p := hid (Kh_c9.out.loop FX.out hb2.1)
                have Kc_p := hid (Kc.out.loop FX.out hb2.1)
                have Kp := hid (hb2.held (M := w.heap.size + 3) Sc9.out.size)
                clear hb2
                have e0 : wr.cell? ⟨w.heap.size + 1 + 1, 0, none⟩ = some (.slice Ai ni ci) := Sp.out.cell 0
                have e1 : wr.cell? ⟨w.heap.size + 1 + 1, 1, none⟩ = some (.slice As ns cs) := Sp.out.cell 1
                have e2 : wr.cell? ⟨w.heap.size + 1 + 1, 2, none⟩ = some (.slice Ah nh ch) := Sp.out.cell 2
                have e3 : wr.cell? ⟨w.heap.size + 1 + 1, 3, none⟩ = some (.slice Ac nc cc) := Sp.out.cell 3
                have e4 : wr.cell? ⟨w.heap.size + 1 + 1, 4, none⟩ = some (.slice Ap np cp) := Sp.out.cell 4
                have e5 : wr.cell? ⟨w.heap.size + 1 + 1, 5, none⟩ = some (.int .i64 xn) := Sp.out.cell 5
                have e6 : wr.cell? ⟨w.heap.size + 1 + 1, 6, none⟩ = some (.bool mg) := Sp.out.cell 6
                have y0 : wr.cell? ⟨w.heap.size, 0, none⟩ = some (.slice none 0 0) := Sp.out.cell0 0
                have y1 : wr.cell? ⟨w.heap.size, 1, none⟩ = some (.slice none 0 0) := Sp.out.cell0 1
                have y2 : wr.cell? ⟨w.heap.size, 2, none⟩ = some (.slice none 0 0) := Sp.out.cell0 2
                have y3 : wr.cell? ⟨w.heap.size, 3, none⟩ = some (.slice none 0 0) := Sp.out.cell0 3
                have y4 : wr.cell? ⟨w.heap.size, 4, none⟩ = some (.slice none 0 0) := Sp.out.cell0 4
                have y5 : wr.cell? ⟨w.heap.size, 5, none⟩ = some (.int .i64 0) := Sp.out.cell0 5
                have y6 : wr.cell? ⟨w.heap.size, 6, none⟩ = some (.bool false) := Sp.out.cell0 6
                have y9 := Sp.out.free0
                go_wp2_with fail
                have HE9 : decE l = 20 ∧ decC l = noCode := by
                  rcases code_chain HQg.out HQn.out HQi.out HQs.out HQh.out HQc.out HQp.out with ⟨gg, r1, nn, r2, ii, r3, ss, r4, hh, r5, cc, r6, pp, r7, eg, en, ei, es, eh, ec2, ep, hq⟩ | ⟨hq, ep⟩
                  · have h9 := HQN.out
                    rw [ep] at h9
                    cases h9
                  · exact dec_bad HL.out hq
                have ec := (heap_setCell_same _ _ 6 _ _ (.bool false) (heap_setCell_same _ _ 5 _ _ (.int .i64 0) (heap_setCell_same _ _ 4 _ _ (.slice none 0 0) (heap_setCell_same _ _ 3 _ _ (.slice none 0 0) (heap_setCell_same _ _ 2 _ _ (.slice none 0 0) (heap_setCell_same _ _ 1 _ _ (.slice none 0 0) (heap_setCell_same _ _ 0 _ _ (.slice none 0 0) Sp.out.res)))))))
                have tc := ((turn_set wr w.heap.size 0 (.slice none 0 0)).trans ((turn_set _ w.heap.size 1 (.slice none 0 0)).trans ((turn_set _ w.heap.size 2 (.slice none 0 0)).trans ((turn_set _ w.heap.size 3 (.slice none 0 0)).trans ((turn_set _ w.heap.size 4 (.slice none 0 0)).trans ((turn_set _ w.heap.size 5 (.int .i64 0)).trans (turn_set _ w.heap.size 6 (.bool false)) (fun _ _ h => h)) (fun _ _ h => h)) (fun _ _ h => h)) (fun _ _ h => h)) (fun _ _ h => h)) (fun _ _ h => h))
                have tt0 := Sp.out.turn
                have hsz := Sp.out.turn.size
                refine bodyPost_ret (results_cell_tmp rfl rfl rfl ec Try.underlying28 rfl (by kernel_rfl)) rfl ?_
                obtain ⟨hE, hC⟩ := HE9
                rw [hE, hC]
                exact ⟨(tt0.below (Nat.le_refl _) (fun _ _ h => h.elim)).trans (tc.below hsz (fun j hj e => by omega)), _, rfl, noCode_reads _ _⟩
            · obtain rfl : i = mp := by omega
              have hb2 := hat.done
              clear hat
              have Sp := hid (Sc9.out.loop FX.out hb2.1 hb2.rs HARR.out)
              have Ki_s9_h_c9_p := hid (Ki_s9_h_c9.out.loop FX.out hb2.1)
              have Ks_h_c9_p := hid (Ks_h_c9.out.loop FX.out hb2.1)
              have Kh_c9_p := hid (Kh_c9.out.loop FX.out hb2.1)
              have Kc_p := hid (Kc.out.loop FX.out hb2.1)
              have Kp := hid (hb2.held (M := w.heap.size + 3) Sc9.out.size)
              clear hb2
              have e0 : wr.cell? ⟨w.heap.size + 1 + 1, 0, none⟩ = some (.slice Ai ni ci) := Sp.out.cell 0
              have e1 : wr.cell? ⟨w.heap.size + 1 + 1, 1, none⟩ = some (.slice As ns cs) := Sp.out.cell 1
              have e2 : wr.cell? ⟨w.heap.size + 1 + 1, 2, none⟩ = some (.slice Ah nh ch) := Sp.out.cell 2
              have e3 : wr.cell? ⟨w.heap.size + 1 + 1, 3, none⟩ = some (.slice Ac nc cc) := Sp.out.cell 3
              have e4 : wr.cell? ⟨w.heap.size + 1 + 1, 4, none⟩ = some (.slice Ap np cp) := Sp.out.cell 4
              have e5 : wr.cell? ⟨w.heap.size + 1 + 1, 5, none⟩ = some (.int .i64 xn) := Sp.out.cell 5
              have e6 : wr.cell? ⟨w.heap.size + 1 + 1, 6, none⟩ = some (.bool mg) := Sp.out.cell 6
              have y0 : wr.cell? ⟨w.heap.size, 0, none⟩ = some (.slice none 0 0) := Sp.out.cell0 0
              have y1 : wr.cell? ⟨w.heap.size, 1, none⟩ = some (.slice none 0 0) := Sp.out.cell0 1
              have y2 : wr.cell? ⟨w.heap.size, 2, none⟩ = some (.slice none 0 0) := Sp.out.cell0 2
              have y3 : wr.cell? ⟨w.heap.size, 3, none⟩ = some (.slice none 0 0) := Sp.out.cell0 3
              have y4 : wr.cell? ⟨w.heap.size, 4, none⟩ = some (.slice none 0 0) := Sp.out.cell0 4
              have y5 : wr.cell? ⟨w.heap.size, 5, none⟩ = some (.int .i64 0) := Sp.out.cell0 5
              have y6 : wr.cell? ⟨w.heap.size, 6, none⟩ = some (.bool false) := Sp.out.cell0 6
              have y9 := Sp.out.free0
              obtain ⟨lz, bz, hrz, hσ⟩ := Sp.out.rd.open_
              obtain ⟨Az, cz, hnz, hcz, hLz, hBz, hbsz, hbz, dz1, dz2, zz1, zz2⟩ := hrz.parts
              clear hrz hbsz hbz zz1 zz2
              rcases hσ with ⟨rfl, hσ⟩ | ⟨rfl, hσ⟩
              · cases lz with
                | nil =>
                  have HS9 := hid hσ
                  clear hσ
                  simp only [List.length_nil] at dz1
                  go_wp2_with fail
                  have ec := (heap_setCell_same _ _ 6 _ _ (.bool mg) (heap_setCell_same _ _ 5 _ _ (.int .i64 xn) (heap_setCell_same _ _ 4 _ _ (.slice Ap np cp) (heap_setCell_same _ _ 3 _ _ (.slice Ac nc cc) (heap_setCell_same _ _ 2 _ _ (.slice Ah nh ch) (heap_setCell_same _ _ 1 _ _ (.slice As ns cs) (heap_setCell_same _ _ 0 _ _ (.slice Ai ni ci) Sp.out.res)))))))
                  have tc := ((turn_set wr w.heap.size 0 (.slice Ai ni ci)).trans ((turn_set _ w.heap.size 1 (.slice As ns cs)).trans ((turn_set _ w.heap.size 2 (.slice Ah nh ch)).trans ((turn_set _ w.heap.size 3 (.slice Ac nc cc)).trans ((turn_set _ w.heap.size 4 (.slice Ap np cp)).trans ((turn_set _ w.heap.size 5 (.int .i64 xn)).trans (turn_set _ w.heap.size 6 (.bool mg)) (fun _ _ h => h)) (fun _ _ h => h)) (fun _ _ h => h)) (fun _ _ h => h)) (fun _ _ h => h)) (fun _ _ h => h))
                  have tt0 := Sp.out.turn
                  have hsz := Sp.out.turn.size
                  refine bodyPost_ret (results_cell_tmp rfl rfl rfl ec Try.underlying28 rfl (by kernel_rfl)) rfl ?_
                  rcases code_chain HQg.out HQn.out HQi.out HQs.out HQh.out HQc.out HQp.out with ⟨gg, r1, nn, r2, ii, r3, ss, r4, hh, r5, cc, r6, pp, r7, eg, en, ei, es, eh, ec2, ep, hq⟩ | ⟨hq, ep⟩
                  · have h9 := HS9.out
                    rw [ep] at h9
                    obtain rfl : r7 = [] := by injection h9
                    obtain ⟨hE, hC⟩ := dec_good HL.out hq
                    rw [hE, hC]
                    obtain rfl := HXn.out _ _ en
                    have hmgg : mg = gg := HGG.out _ _ eg
                    subst hmgg
                    refine ⟨(tt0.below (Nat.le_refl _) (fun _ _ h => h.elim)).trans (tc.below hsz (fun j hj e => by omega)), _, rfl, ?_⟩
                    have tm := tc.mono (G := fun k => k < w.heap.size + 3) (fun j _ hj => by omega)
                    have li := Ki_s9_h_c9_p.out _ tm _ _ ei
                    have ls := Ks_h_c9_p.out _ tm _ _ es
                    have lh := Kh_c9_p.out _ tm _ _ eh
                    have lc := Kc_p.out _ tm _ _ ec2
                    have lp := Kp.out _ tm _ _ ep
                    obtain ⟨zh, sh, rh⟩ := lh
                    obtain ⟨zc, sc, rc⟩ := lc
                    obtain ⟨zp, sp, rp⟩ := lp
                    exact ⟨_, _, _, _, _, zh, zc, zp, rfl, list_ints li, list_texts ls, sh, row_shapes rh, sc, row_cos rc, sp, row_procs rp⟩
                  · have h9 := HS9.out
                    rw [ep] at h9
                    cases h9
                | cons y lz =>
                  have HS9 := hid hσ
                  have hpos : 0 < (y :: lz).length := by simp
                  clear hσ
                  generalize (y :: lz).length = Lz at *
                  go_wp2_with fail
                  have HE9 : decE l = 20 ∧ decC l = noCode := by
                    rcases code_chain HQg.out HQn.out HQi.out HQs.out HQh.out HQc.out HQp.out with ⟨gg, r1, nn, r2, ii, r3, ss, r4, hh, r5, cc, r6, pp, r7, eg, en, ei, es, eh, ec2, ep, hq⟩ | ⟨hq, ep⟩
                    · have h9 := HS9.out
                      rw [ep] at h9
                      obtain rfl : r7 = y :: lz := by injection h9
                      exact dec_left HL.out hq (by simp)
                    · exact dec_bad HL.out hq
                  have ec := (heap_setCell_same _ _ 6 _ _ (.bool false) (heap_setCell_same _ _ 5 _ _ (.int .i64 0) (heap_setCell_same _ _ 4 _ _ (.slice none 0 0) (heap_setCell_same _ _ 3 _ _ (.slice none 0 0) (heap_setCell_same _ _ 2 _ _ (.slice none 0 0) (heap_setCell_same _ _ 1 _ _ (.slice none 0 0) (heap_setCell_same _ _ 0 _ _ (.slice none 0 0) Sp.out.res)))))))
                  have tc := ((turn_set wr w.heap.size 0 (.slice none 0 0)).trans ((turn_set _ w.heap.size 1 (.slice none 0 0)).trans ((turn_set _ w.heap.size 2 (.slice none 0 0)).trans ((turn_set _ w.heap.size 3 (.slice none 0 0)).trans ((turn_set _ w.heap.size 4 (.slice none 0 0)).trans ((turn_set _ w.heap.size 5 (.int .i64 0)).trans (turn_set _ w.heap.size 6 (.bool false)) (fun _ _ h => h)) (fun _ _ h => h)) (fun _ _ h => h)) (fun _ _ h => h)) (fun _ _ h => h)) (fun _ _ h => h))
                  have tt0 := Sp.out.turn
                  have hsz := Sp.out.turn.size
                  refine bodyPost_ret (results_cell_tmp rfl rfl rfl ec Try.underlying28 rfl (by kernel_rfl)) rfl ?_
                  obtain ⟨hE, hC⟩ := HE9
                  rw [hE, hC]
                  exact ⟨(tt0.below (Nat.le_refl _) (fun _ _ h => h.elim)).trans (tc.below hsz (fun j hj e => by omega)), _, rfl, noCode_reads _ _⟩
              · have HS9 := hid hσ
                clear hσ
                go_wp2_with fail
                have HE9 : decE l = 20 ∧ decC l = noCode := by
                  rcases code_chain HQg.out HQn.out HQi.out HQs.out HQh.out HQc.out HQp.out with ⟨gg, r1, nn, r2, ii, r3, ss, r4, hh, r5, cc, r6, pp, r7, eg, en, ei, es, eh, ec2, ep, hq⟩ | ⟨hq, ep⟩
                  · have h9 := HS9.out
                    rw [ep] at h9
                    cases h9
                  · exact dec_bad HL.out hq
                have ec := (heap_setCell_same _ _ 6 _ _ (.bool false) (heap_setCell_same _ _ 5 _ _ (.int .i64 0) (heap_setCell_same _ _ 4 _ _ (.slice none 0 0) (heap_setCell_same _ _ 3 _ _ (.slice none 0 0) (heap_setCell_same _ _ 2 _ _ (.slice none 0 0) (heap_setCell_same _ _ 1 _ _ (.slice none 0 0) (heap_setCell_same _ _ 0 _ _ (.slice none 0 0) Sp.out.res)))))))
                have tc := ((turn_set wr w.heap.size 0 (.slice none 0 0)).trans ((turn_set _ w.heap.size 1 (.slice none 0 0)).trans ((turn_set _ w.heap.size 2 (.slice none 0 0)).trans ((turn_set _ w.heap.size 3 (.slice none 0 0)).trans ((turn_set _ w.heap.size 4 (.slice none 0 0)).trans ((turn_set _ w.heap.size 5 (.int .i64 0)).trans (turn_set _ w.heap.size 6 (.bool false)) (fun _ _ h => h)) (fun _ _ h => h)) (fun _ _ h => h)) (fun _ _ h => h)) (fun _ _ h => h)) (fun _ _ h => h))
                have tt0 := Sp.out.turn
                have hsz := Sp.out.turn.size
                refine bodyPost_ret (results_cell_tmp rfl rfl rfl ec Try.underlying28 rfl (by kernel_rfl)) rfl ?_
                obtain ⟨hE, hC⟩ := HE9
                rw [hE, hC]
                exact ⟨(tt0.below (Nat.le_refl _) (fun _ _ h => h.elim)).trans (tc.below hsz (fun j hj e => by omega)), _, rfl, noCode_reads _ _⟩
      · obtain rfl : i = mh := by omega
        have hb2 := hat.done
        clear hat
        have Sh := hid (Ss9.out.loop FX.out hb2.1 hb2.rs HARR.out)
        have Ki_s9_h := hid (Ki_s9.out.loop FX.out hb2.1)
        have Ks_h := hid (Ks.out.loop FX.out hb2.1)
        have Kh := hid (hb2.held (M := w.heap.size + 3) Ss9.out.size)
        clear hb2
        have Cc := hid (socos_any 40 wr (w.heap.size + 1) w.heap.size _ Sh.out.rd HC40.out)
        go_wp2_with fail
        refine Cc.out.mono ?_
        rintro e wc ⟨vc, rfl, h2⟩
        obtain ⟨qc, hq⟩ : ∃ qc, (qh.map (·.2)).bind (allD (coD 40)) = qc := ⟨_, rfl⟩
        rw [hq] at h2
        have HQc := hid hq
        obtain ⟨Ac, nc, cc, rfl⟩ : IsSlice vc := h2.shape (fun _ _ h => list_shape h) (fun h => h)
        have Sc := hid (Sh.out.call FX.out h2.1 h2.rs)
        have Ki_s9_h_c := hid (Ki_s9_h.out.call FX.out h2.1)
        have Ks_h_c := hid (Ks_h.out.call FX.out h2.1)
        have Kh_c := hid (Kh.out.call FX.out h2.1)
        have Kc0 := hid (h2.held (M := w.heap.size + 3) Sh.out.size)
        have e0 : wc.cell? ⟨w.heap.size + 1 + 1, 0, none⟩ = some (.slice Ai ni ci) := Sc.out.cell 0
        have e1 : wc.cell? ⟨w.heap.size + 1 + 1, 1, none⟩ = some (.slice As ns cs) := Sc.out.cell 1
        have e2 : wc.cell? ⟨w.heap.size + 1 + 1, 2, none⟩ = some (.slice Ah nh ch) := Sc.out.cell 2
        have e3 : wc.cell? ⟨w.heap.size + 1 + 1, 3, none⟩ = some (.slice none 0 0) := Sc.out.cell 3
        have e4 : wc.cell? ⟨w.heap.size + 1 + 1, 4, none⟩ = some (.slice none 0 0) := Sc.out.cell 4
        have e5 : wc.cell? ⟨w.heap.size + 1 + 1, 5, none⟩ = some (.int .i64 xn) := Sc.out.cell 5
        have e6 : wc.cell? ⟨w.heap.size + 1 + 1, 6, none⟩ = some (.bool mg) := Sc.out.cell 6
        have z0 := Sc.out.free
        clear h2 hq Cc
        have Sc9 := hid (Sc.out.set FX.out 3 (.slice Ac nc cc))
        have Ki_s9_h_c9 := hid (Ki_s9_h_c.out.set FX.out 3 (.slice Ac nc cc))
        have Ks_h_c9 := hid (Ks_h_c.out.set FX.out 3 (.slice Ac nc cc))
        have Kh_c9 := hid (Kh_c.out.set FX.out 3 (.slice Ac nc cc))
        have Kc := hid (Kc0.out.set FX.out 3 (.slice Ac nc cc))
        have Cn := hid (somany_any (wc.setCell ⟨w.heap.size + 1 + 1, 3, none⟩ (.slice Ac nc cc)) (w.heap.size + 1) w.heap.size _ Sc9.out.rd)
        go_wp2_with fail
        clear e0 e1 e2 e3 e4 e5 e6 z0
        refine Cn.out.mono ?_
        rintro e wn ⟨vn, rfl, h2⟩
        obtain ⟨Wp, hW⟩ : ∃ Wp, (wc.setCell ⟨w.heap.size + 1 + 1, 3, none⟩ (.slice Ac nc cc)) = Wp := ⟨_, rfl⟩
        rw [hW] at h2 Sc9 Ki_s9_h_c9 Ks_h_c9 Kh_c9 Kc
        clear hW Cn
        obtain ⟨mp, rfl, hn0, hst⟩ := lo_start (k := 3) (T := 47) (R := RProc) (d1 := procD) (F := (fun k => k = (w.heap.size + 1) ∨ k = w.heap.size + 1 + 1)) h2 (h2.1.mono fun j _ hj => .inl hj)
        obtain ⟨qp, hq⟩ : ∃ qp, (qc.map (·.2)).bind (allD procD) = qp := ⟨_, rfl⟩
        rw [hq] at hst
        have HQp := hid hq
        have HST := hid hst
        have HAR := hid (Sc9.out.call FX.out h2.1 h2.rs).arr
        have HFS : Hid (∀ j, (j = (w.heap.size + 1) ∨ j = w.heap.size + 1 + 1) → j < Wp.heap.size) := hid (fun j hj => by have := Sc9.out.size; have := FX.out.km; have := FX.out.vm; rcases hj with rfl | rfl <;> omega)
        clear h2 hst hq
        go_wp2_with fail
        go_loopw [10] (fun v10 wr => ∃ (i : Nat) (v : Value), v10 = .int .i64 (i : Int) ∧ i ≤ mp ∧ LoS 3 47 RProc procD (fun k => k = (w.heap.size + 1) ∨ k = w.heap.size + 1 + 1) Wp (w.heap.size + 1) w.heap.size mp qp wr v i ∧ wr.heap[w.heap.size + 1 + 1]? = some (.cells #[.slice Ai ni ci, .slice As ns cs, .slice Ah nh ch, .slice Ac nc cc, v, .int .i64 xn, .bool mg] 28 (0, 0))) (fun v10 _ => mp - (intOf v10).toNat)
        case atStart => exact ⟨0, _, rfl, by omega, HST.out, HAR.out⟩
        case round =>
          obtain ⟨i, v, rfl, hi, hat, har⟩ := hrel
          obtain ⟨Ap, np, cp, rfl⟩ := hat.shape
          have HARR := hid har
          clear har
          by_cases hlt : i < mp
          · have hlt1 := hlt
            rcases hat with ⟨ys, xs, r, hat⟩ | hat
            · obtain ⟨A, c, hn1, hc1, hL1, hB1, hbs, hb, d1, d2, z1, z2⟩ := hat.rd.parts
              have HAT := hid hat
              clear hat hbs hb d1 z1 z2
              have HN := hid (soproc_any wr (w.heap.size + 1) w.heap.size (some r) HAT.out.rd)
              go_wp2_with fail
              refine HN.out.mono ?_
              rintro e w5 ⟨vs, rfl, h45⟩
              have h45 : SobR _ _ (w.heap.size + 1) w.heap.size wr (procD r) vs w5 := h45
              obtain ⟨xa, xb, At, nt, ct, rfl⟩ : IsProc vs := h45.shape (fun _ _ h => proc_of h) (fun h => h)
              clear HN d2
              have H45 := hid h45
              have hsz5 : Wp.heap.size ≤ (w5).heap.size := Nat.le_trans HAT.out.turn.size h45.1.size
              have HROW5 := hid (own_turn HAT.out.row h45.1 (fun g hg e => by have := (HAT.out.row.lt g hg).1; have := HFS.out _ (.inl e); omega))
              have harr5 := block_turn HARR.out h45.1 (Ne.symm FX.out.kv)
              have HARR5 := hid harr5
              have k1 : w5.cell? ⟨w.heap.size + 1 + 1, 4, none⟩ = some (.slice Ap np cp) := (cell_of_row _ _ _ _ _ _ harr5).trans rfl
              have hbv5 : w.heap.size + 1 + 1 < w5.heap.size := block_lt harr5
              have HIL := HAT.out.row.1
              have H1 : Hid (∀ u ∈ ([Value.int .i64 xa, .int .i64 xb, .slice At nt ct] : List Value), u.oneCell' = true) := hid (by intro u hu; simp only [List.mem_cons, List.not_mem_nil, or_false] at hu; rcases hu with rfl | rfl | rfl <;> rfl)
              clear h45 harr5
              go_wp2_with (at_builtin; go_must (refine wpList_app rfl _ _ _ rfl Wp.heap.size el_rd_proc _ _ rfl rfl ((HROW5.out.alloc _).alloc _) (sl_new2 w5 _ _ _ 3 1 rfl (by decide)) H1.out (by simp [maxLen]; omega) (by simp; omega) (le_alloc (le_alloc hsz5 _) _) (fun v9 w9 n9 hown9 hg9 hbk9 => ?_)); have HS9 := hid (lo_next HAT.out HFS.out (.inl rfl) hlt1 H45.out (z := [Value.int .i64 xa, .int .i64 xb, .slice At nt ct]) rfl (fun w x h => elk_cells h) (((Below.refl _ _).alloc (Nat.le_refl _) _).alloc (le_alloc (Nat.le_refl _) _) _) hg9 (by have h9 := hown9.1; simp at h9 HIL; omega) hown9 hbk9); obtain ⟨A9, m9, c9, rfl⟩ := sl_shape (Sl.of_own hown9); have har9 := block_turn HARR5.out ((Turn.of_below (F := fun k => Value.ownBlock (.slice Ap np cp) = some k) (((Below.refl w5.heap.size w5).alloc (Nat.le_refl _) _).alloc (le_alloc (Nat.le_refl _) _) _)).trans (Turn.of_grown hg9 (fun j hj => hj)) (fun _ _ h => h)) (fun e => by have := (HAT.out.row.lt _ e).1; have := HFS.out _ (.inr rfl); omega); have k9 : w9.cell? ⟨w.heap.size + 1 + 1, 4, none⟩ = some (.slice Ap np cp) := (cell_of_row _ _ _ _ _ _ har9).trans rfl; have f9 := block_free har9 4; have HAR9 := hid har9; clear hown9 hg9 hbk9 har9)
              refine ⟨⟨i + 1, _, rfl, by omega, lo_set HS9.out (.inr rfl) FX.out.kv FX.out.bb (HFS.out _ (.inr rfl)), heap_setCell_same _ _ 4 _ _ _ HAR9.out⟩, ?_⟩
              simp [intOf]; omega
            · obtain ⟨l8, hl⟩ := hat.rd
              obtain ⟨A, c, hn1, hc1, hL1, hB1, hbs, hb, d1, d2, z1, z2⟩ := hl.parts
              have hb2 := LoB.done (k := 3) (R := RProc) hat
              have HQN := hid hat.eq
              clear hat hbs hb d1 z1 z2 hl
              have Sp := hid (Sc9.out.loop FX.out hb2.1 hb2.rs HARR.out)
              have Ki_s9_h_c9_p := hid (Ki_s9_h_c9.out.loop FX.out hb2.1)
              have Ks_h_c9_p := hid (Ks_h_c9.out.loop FX.out hb2.1)
              have Kh_c9_p := hid (Kh_c9.out.loop FX.out hb2.1)
              have Kc_p := hid (Kc.out.loop FX.out hb2.1)
              have Kp := hid (hb2.held (M := w.heap.size + 3) Sc9.out.size)
              clear hb2
              have e0 : wr.cell? ⟨w.heap.size + 1 + 1, 0, none⟩ = some (.slice Ai ni ci) := Sp.out.cell 0
              have e1 : wr.cell? ⟨w.heap.size + 1 + 1, 1, none⟩ = some (.slice As ns cs) := Sp.out.cell 1
              have e2 : wr.cell? ⟨w.heap.size + 1 + 1, 2, none⟩ = some (.slice Ah nh ch) := Sp.out.cell 2
              have e3 : wr.cell? ⟨w.heap.size + 1 + 1, 3, none⟩ = some (.slice Ac nc cc) := Sp.out.cell 3
              have e4 : wr.cell? ⟨w.heap.size + 1 + 1, 4, none⟩ = some (.slice Ap np cp) := Sp.out.cell 4
              have e5 : wr.cell? ⟨w.heap.size + 1 + 1, 5, none⟩ = some (.int .i64 xn) := Sp.out.cell 5
              have e6 : wr.cell? ⟨w.heap.size + 1 + 1, 6, none⟩ = some (.bool mg) := Sp.out.cell 6
              have y0 : wr.cell? ⟨w.heap.size, 0, none⟩ = some (.slice none 0 0) := Sp.out.cell0 0
              have y1 : wr.cell? ⟨w.heap.size, 1, none⟩ = some (.slice none 0 0) := Sp.out.cell0 1
              have y2 : wr.cell? ⟨w.heap.size, 2, none⟩ = some (.slice none 0 0) := Sp.out.cell0 2
              have y3 : wr.cell? ⟨w.heap.size, 3, none⟩ = some (.slice none 0 0) := Sp.out.cell0 3
              have y4 : wr.cell? ⟨w.heap.size, 4, none⟩ = some (.slice none 0 0) := Sp.out.cell0 4
              have y5 : wr.cell? ⟨w.heap.size, 5, none⟩ = some (.int .i64 0) := Sp.out.cell0 5
              have y6 : wr.cell? ⟨w.heap.size, 6, none⟩ = some (.bool false) := Sp.out.cell0 6
              have y9 := Sp.out.free0
              go_wp2_with fail
              have HE9 : decE l = 20 ∧ decC l = noCode := by
                rcases code_chain HQg.out HQn.out HQi.out HQs.out HQh.out HQc.out HQp.out with ⟨gg, r1, nn, r2, ii, r3, ss, r4, hh, r5, cc, r6, pp, r7, eg, en, ei, es, eh, ec2, ep, hq⟩ | ⟨hq, ep⟩
                · have h9 := HQN.out
                  rw [ep] at h9
                  cases h9
                · exact dec_bad HL.out hq
              have ec := (heap_setCell_same _ _ 6 _ _ (.bool false) (heap_setCell_same _ _ 5 _ _ (.int .i64 0) (heap_setCell_same _ _ 4 _ _ (.slice none 0 0) (heap_setCell_same _ _ 3 _ _ (.slice none 0 0) (heap_setCell_same _ _ 2 _ _ (.slice none 0 0) (heap_setCell_same _ _ 1 _ _ (.slice none 0 0) (heap_setCell_same _ _ 0 _ _ (.slice none 0 0) Sp.out.res)))))))
              have tc := ((turn_set wr w.heap.size 0 (.slice none 0 0)).trans ((turn_set _ w.heap.size 1 (.slice none 0 0)).trans ((turn_set _ w.heap.size 2 (.slice none 0 0)).trans ((turn_set _ w.heap.size 3 (.slice none 0 0)).trans ((turn_set _ w.heap.size 4 (.slice none 0 0)).trans ((turn_set _ w.heap.size 5 (.int .i64 0)).trans (turn_set _ w.heap.size 6 (.bool false)) (fun _ _ h => h)) (fun _ _ h => h)) (fun _ _ h => h)) (fun _ _ h => h)) (fun _ _ h => h)) (fun _ _ h => h))
              have tt0 := Sp.out.turn
              have hsz := Sp.out.turn.size
              refine bodyPost_ret (results_cell_tmp rfl rfl rfl ec Try.underlying28 rfl (by kernel_rfl)) rfl ?_
              obtain ⟨hE, hC⟩ := HE9
              rw [hE, hC]
              exact ⟨(tt0.below (Nat.le_refl _) (fun _ _ h => h.elim)).trans (tc.below hsz (fun j hj e => by omega)), _, rfl, noCode_reads _ _⟩
          · obtain rfl : i = mp := by omega
            have hb2 := hat.done
            clear hat
            have Sp := hid (Sc9.out.loop FX.out hb2.1 hb2.rs HARR.out)
            have Ki_s9_h_c9_p := hid (Ki_s9_h_c9.out.loop FX.out hb2.1)
            have Ks_h_c9_p := hid (Ks_h_c9.out.loop FX.out hb2.1)
            have Kh_c9_p := hid (Kh_c9.out.loop FX.out hb2.1)
            have Kc_p := hid (Kc.out.loop FX.out hb2.1)
            have Kp := hid (hb2.held (M := w.heap.size + 3) Sc9.out.size)
            clear hb2
            have e0 : wr.cell? ⟨w.heap.size + 1 + 1, 0, none⟩ = some (.slice Ai ni ci) := Sp.out.cell 0
            have e1 : wr.cell? ⟨w.heap.size + 1 + 1, 1, none⟩ = some (.slice As ns cs) := Sp.out.cell 1
            have e2 : wr.cell? ⟨w.heap.size + 1 + 1, 2, none⟩ = some (.slice Ah nh ch) := Sp.out.cell 2
            have e3 : wr.cell? ⟨w.heap.size + 1 + 1, 3, none⟩ = some (.slice Ac nc cc) := Sp.out.cell 3
            have e4 : wr.cell? ⟨w.heap.size + 1 + 1, 4, none⟩ = some (.slice Ap np cp) := Sp.out.cell 4
            have e5 : wr.cell? ⟨w.heap.size + 1 + 1, 5, none⟩ = some (.int .i64 xn) := Sp.out.cell 5
            have e6 : wr.cell? ⟨w.heap.size + 1 + 1, 6, none⟩ = some (.bool mg) := Sp.out.cell 6
            have y0 : wr.cell? ⟨w.heap.size, 0, none⟩ = some (.slice none 0 0) := Sp.out.cell0 0
            have y1 : wr.cell? ⟨w.heap.size, 1, none⟩ = some (.slice none 0 0) := Sp.out.cell0 1
            have y2 : wr.cell? ⟨w.heap.size, 2, none⟩ = some (.slice none 0 0) := Sp.out.cell0 2
            have y3 : wr.cell? ⟨w.heap.size, 3, none⟩ = some (.slice none 0 0) := Sp.out.cell0 3
            have y4 : wr.cell? ⟨w.heap.size, 4, none⟩ = some (.slice none 0 0) := Sp.out.cell0 4
            have y5 : wr.cell? ⟨w.heap.size, 5, none⟩ = some (.int .i64 0) := Sp.out.cell0 5
            have y6 : wr.cell? ⟨w.heap.size, 6, none⟩ = some (.bool false) := Sp.out.cell0 6
            have y9 := Sp.out.free0
            obtain ⟨lz, bz, hrz, hσ⟩ := Sp.out.rd.open_
            obtain ⟨Az, cz, hnz, hcz, hLz, hBz, hbsz, hbz, dz1, dz2, zz1, zz2⟩ := hrz.parts
            clear hrz hbsz hbz zz1 zz2
            rcases hσ with ⟨rfl, hσ⟩ | ⟨rfl, hσ⟩
            · cases lz with
              | nil =>
                have HS9 := hid hσ
                clear hσ
                simp only [List.length_nil] at dz1
                go_wp2_with fail
                have ec := (heap_setCell_same _ _ 6 _ _ (.bool mg) (heap_setCell_same _ _ 5 _ _ (.int .i64 xn) (heap_setCell_same _ _ 4 _ _ (.slice Ap np cp) (heap_setCell_same _ _ 3 _ _ (.slice Ac nc cc) (heap_setCell_same _ _ 2 _ _ (.slice Ah nh ch) (heap_setCell_same _ _ 1 _ _ (.slice As ns cs) (heap_setCell_same _ _ 0 _ _ (.slice Ai ni ci) Sp.out.res)))))))
                have tc := ((turn_set wr w.heap.size 0 (.slice Ai ni ci)).trans ((turn_set _ w.heap.size 1 (.slice As ns cs)).trans ((turn_set _ w.heap.size 2 (.slice Ah nh ch)).trans ((turn_set _ w.heap.size 3 (.slice Ac nc cc)).trans ((turn_set _ w.heap.size 4 (.slice Ap np cp)).trans ((turn_set _ w.heap.size 5 (.int .i64 xn)).trans (turn_set _ w.heap.size 6 (.bool mg)) (fun _ _ h => h)) (fun _ _ h => h)) (fun _ _ h => h)) (fun _ _ h => h)) (fun _ _ h => h)) (fun _ _ h => h))
                have tt0 := Sp.out.turn
                have hsz := Sp.out.turn.size
                refine bodyPost_ret (results_cell_tmp rfl rfl rfl ec Try.underlying28 rfl (by kernel_rfl)) rfl ?_
                rcases code_chain HQg.out HQn.out HQi.out HQs.out HQh.out HQc.out HQp.out with ⟨gg, r1, nn, r2, ii, r3, ss, r4, hh, r5, cc, r6, pp, r7, eg, en, ei, es, eh, ec2, ep, hq⟩ | ⟨hq, ep⟩
                · have h9 := HS9.out
                  rw [ep] at h9
                  obtain rfl : r7 = [] := by injection h9
                  obtain ⟨hE, hC⟩ := dec_good HL.out hq
                  rw [hE, hC]
                  obtain rfl := HXn.out _ _ en
                  have hmgg : mg = gg := HGG.out _ _ eg
                  subst hmgg
                  refine ⟨(tt0.below (Nat.le_refl _) (fun _ _ h => h.elim)).trans (tc.below hsz (fun j hj e => by omega)), _, rfl, ?_⟩
                  have tm := tc.mono (G := fun k => k < w.heap.size + 3) (fun j _ hj => by omega)
                  have li := Ki_s9_h_c9_p.out _ tm _ _ ei
                  have ls := Ks_h_c9_p.out _ tm _ _ es
                  have lh := Kh_c9_p.out _ tm _ _ eh
                  have lc := Kc_p.out _ tm _ _ ec2
                  have lp := Kp.out _ tm _ _ ep
                  obtain ⟨zh, sh, rh⟩ := lh
                  obtain ⟨zc, sc, rc⟩ := lc
                  obtain ⟨zp, sp, rp⟩ := lp
                  exact ⟨_, _, _, _, _, zh, zc, zp, rfl, list_ints li, list_texts ls, sh, row_shapes rh, sc, row_cos rc, sp, row_procs rp⟩
                · have h9 := HS9.out
                  rw [ep] at h9
                  cases h9
              | cons y lz =>
                have HS9 := hid hσ
                have hpos : 0 < (y :: lz).length := by simp
                clear hσ
                generalize (y :: lz).length = Lz at *
                go_wp2_with fail
                have HE9 : decE l = 20 ∧ decC l = noCode := by
                  rcases code_chain HQg.out HQn.out HQi.out HQs.out HQh.out HQc.out HQp.out with ⟨gg, r1, nn, r2, ii, r3, ss, r4, hh, r5, cc, r6, pp, r7, eg, en, ei, es, eh, ec2, ep, hq⟩ | ⟨hq, ep⟩
                  · have h9 := HS9.out
                    rw [ep] at h9
                    obtain rfl : r7 = y :: lz := by injection h9
                    exact dec_left HL.out hq (by simp)
                  · exact dec_bad HL.out hq
                have ec := (heap_setCell_same _ _ 6 _ _ (.bool false) (heap_setCell_same _ _ 5 _ _ (.int .i64 0) (heap_setCell_same _ _ 4 _ _ (.slice none 0 0) (heap_setCell_same _ _ 3 _ _ (.slice none 0 0) (heap_setCell_same _ _ 2 _ _ (.slice none 0 0) (heap_setCell_same _ _ 1 _ _ (.slice none 0 0) (heap_setCell_same _ _ 0 _ _ (.slice none 0 0) Sp.out.res)))))))
                have tc := ((turn_set wr w.heap.size 0 (.slice none 0 0)).trans ((turn_set _ w.heap.size 1 (.slice none 0 0)).trans ((turn_set _ w.heap.size 2 (.slice none 0 0)).trans ((turn_set _ w.heap.size 3 (.slice none 0 0)).trans ((turn_set _ w.heap.size 4 (.slice none 0 0)).trans ((turn_set _ w.heap.size 5 (.int .i64 0)).trans (turn_set _ w.heap.size 6 (.bool false)) (fun _ _ h => h)) (fun _ _ h => h)) (fun _ _ h => h)) (fun _ _ h => h)) (fun _ _ h => h)) (fun _ _ h => h))
                have tt0 := Sp.out.turn
                have hsz := Sp.out.turn.size
                refine bodyPost_ret (results_cell_tmp rfl rfl rfl ec Try.underlying28 rfl (by kernel_rfl)) rfl ?_
                obtain ⟨hE, hC⟩ := HE9
                rw [hE, hC]
                exact ⟨(tt0.below (Nat.le_refl _) (fun _ _ h => h.elim)).trans (tc.below hsz (fun j hj e => by omega)), _, rfl, noCode_reads _ _⟩
            · have HS9 := hid hσ
              clear hσ
              go_wp2_with fail
              have HE9 : decE l = 20 ∧ decC l = noCode := by
                rcases code_chain HQg.out HQn.out HQi.out HQs.out HQh.out HQc.out HQp.out with ⟨gg, r1, nn, r2, ii, r3, ss, r4, hh, r5, cc, r6, pp, r7, eg, en, ei, es, eh, ec2, ep, hq⟩ | ⟨hq, ep⟩
                · have h9 := HS9.out
                  rw [ep] at h9
                  cases h9
                · exact dec_bad HL.out hq
              have ec := (heap_setCell_same _ _ 6 _ _ (.bool false) (heap_setCell_same _ _ 5 _ _ (.int .i64 0) (heap_setCell_same _ _ 4 _ _ (.slice none 0 0) (heap_setCell_same _ _ 3 _ _ (.slice none 0 0) (heap_setCell_same _ _ 2 _ _ (.slice none 0 0) (heap_setCell_same _ _ 1 _ _ (.slice none 0 0) (heap_setCell_same _ _ 0 _ _ (.slice none 0 0) Sp.out.res)))))))
              have tc := ((turn_set wr w.heap.size 0 (.slice none 0 0)).trans ((turn_set _ w.heap.size 1 (.slice none 0 0)).trans ((turn_set _ w.heap.size 2 (.slice none 0 0)).trans ((turn_set _ w.heap.size 3 (.slice none 0 0)).trans ((turn_set _ w.heap.size 4 (.slice none 0 0)).trans ((turn_set _ w.heap.size 5 (.int .i64 0)).trans (turn_set _ w.heap.size 6 (.bool false)) (fun _ _ h => h)) (fun _ _ h => h)) (fun _ _ h => h)) (fun _ _ h => h)) (fun _ _ h => h)) (fun _ _ h => h))
              have tt0 := Sp.out.turn
              have hsz := Sp.out.turn.size
              refine bodyPost_ret (results_cell_tmp rfl rfl rfl ec Try.underlying28 rfl (by kernel_rfl)) rfl ?_
              obtain ⟨hE, hC⟩ := HE9
              rw [hE, hC]
              exact ⟨(tt0.below (Nat.le_refl _) (fun _ _ h => h.elim)).trans (tc.below hsz (fun j hj e => by omega)), _, rfl, noCode_reads _ _⟩
  have hma : decide (xm < 0) = false := by simp; omega
  have HNMa := hid hm
  clear hm
  by_cases hm : 1 < xm
  · have hm1 : decide ((1 : Int) < xm) = true := by simpa using hm
    have hno : qg = none := HQg.out.symm.trans (merge_bad HQm.out HXm.out (.inr hm))
    have HGG : Hid (∀ g r, qg = some (g, r) → mg = g) := hid (fun g r h => by rw [hno] at h; cases h)
    have Sg : Hid (SoAt 28 #[.slice none 0 0, .slice none 0 0, .slice none 0 0, .slice none 0 0, .slice none 0 0, .int .i64 0, .bool false] w (fun _ => False) (w.heap.size + 1) w.heap.size w.heap.size (w.heap.size + 1 + 1) (w.heap.size + 3) (wm.setCell ⟨w.heap.size + 1, 1, none⟩ (.bool true)) #[.slice none 0 0, .slice none 0 0, .slice none 0 0, .slice none 0 0, .slice none 0 0, .int .i64 0, .bool false] (qg.map (·.2))) := hid (by rw [hno]; exact Sm.out.call FX.out (turn_set _ _ 1 _) ⟨lr, HRS.out.spoil⟩)
    clear hno hm
    have Sg9 := hid (Sg.out.set FX.out 6 (.bool mg))
    have Cn := hid (sonum_any ((wm.setCell ⟨w.heap.size + 1, 1, none⟩ (.bool true)).setCell ⟨w.heap.size + 1 + 1, 6, none⟩ (.bool mg)) (w.heap.size + 1) w.heap.size _ Sg9.out.rd)
    go_wp2_with fail
    refine Cn.out.mono ?_
    rintro e wn ⟨vn, rfl, h2⟩
    obtain ⟨qn, hq⟩ : ∃ qn, (qg.map (·.2)).bind numD = qn := ⟨_, rfl⟩
    rw [hq] at h2
    have HQn := hid hq
    obtain ⟨xn, rfl⟩ : ∃ x, vn = .int .i64 x := h2.shape (fun _ x h => ⟨_, h⟩) (fun h => ⟨_, h⟩)
    have HXn : Hid (∀ x r, qn = some (x, r) → xn = x) := hid (fun x r hx => by have := (h2.some_ hx).1 _ (Turn.refl _ _); injection this)
    have Sn := hid (Sg9.out.call FX.out h2.1 h2.rs)
    have e0 : wn.cell? ⟨w.heap.size + 1 + 1, 0, none⟩ = some (.slice none 0 0) := Sn.out.cell 0
    have e1 : wn.cell? ⟨w.heap.size + 1 + 1, 1, none⟩ = some (.slice none 0 0) := Sn.out.cell 1
    have e2 : wn.cell? ⟨w.heap.size + 1 + 1, 2, none⟩ = some (.slice none 0 0) := Sn.out.cell 2
    have e3 : wn.cell? ⟨w.heap.size + 1 + 1, 3, none⟩ = some (.slice none 0 0) := Sn.out.cell 3
    have e4 : wn.cell? ⟨w.heap.size + 1 + 1, 4, none⟩ = some (.slice none 0 0) := Sn.out.cell 4
    have e5 : wn.cell? ⟨w.heap.size + 1 + 1, 5, none⟩ = some (.int .i64 0) := Sn.out.cell 5
    have e6 : wn.cell? ⟨w.heap.size + 1 + 1, 6, none⟩ = some (.bool mg) := Sn.out.cell 6
    have z0 := Sn.out.free
    clear h2 hq Cn
    have Sn9 := hid (Sn.out.set FX.out 5 (.int .i64 xn))
    have Ci := hid (sonums_any (wn.setCell ⟨w.heap.size + 1 + 1, 5, none⟩ (.int .i64 xn)) (w.heap.size + 1) w.heap.size _ Sn9.out.rd)
    go_wp2_with fail
    refine Ci.out.mono ?_
    rintro e wi ⟨vi, rfl, h2⟩
    obtain ⟨qi, hq⟩ : ∃ qi, (qn.map (·.2)).bind (allD numD) = qi := ⟨_, rfl⟩
    rw [hq] at h2
    have HQi := hid hq
    obtain ⟨Ai, ni, ci, rfl⟩ : IsSlice vi := h2.shape (fun _ _ h => list_shape h) (fun h => h)
    have Si := hid (Sn9.out.call FX.out h2.1 h2.rs)
    have Ki0 := hid (h2.held (M := w.heap.size + 3) Sn9.out.size)
    have e0 : wi.cell? ⟨w.heap.size + 1 + 1, 0, none⟩ = some (.slice none 0 0) := Si.out.cell 0
    have e1 : wi.cell? ⟨w.heap.size + 1 + 1, 1, none⟩ = some (.slice none 0 0) := Si.out.cell 1
    have e2 : wi.cell? ⟨w.heap.size + 1 + 1, 2, none⟩ = some (.slice none 0 0) := Si.out.cell 2
    have e3 : wi.cell? ⟨w.heap.size + 1 + 1, 3, none⟩ = some (.slice none 0 0) := Si.out.cell 3
    have e4 : wi.cell? ⟨w.heap.size + 1 + 1, 4, none⟩ = some (.slice none 0 0) := Si.out.cell 4
    have e5 : wi.cell? ⟨w.heap.size + 1 + 1, 5, none⟩ = some (.int .i64 xn) := Si.out.cell 5
    have e6 : wi.cell? ⟨w.heap.size + 1 + 1, 6, none⟩ = some (.bool mg) := Si.out.cell 6
    have z0 := Si.out.free
    clear h2 hq Ci
    have Si9 := hid (Si.out.set FX.out 0 (.slice Ai ni ci))
    have Ki := hid (Ki0.out.set FX.out 0 (.slice Ai ni ci))
    have Cs := hid (sotexts_any (wi.setCell ⟨w.heap.size + 1 + 1, 0, none⟩ (.slice Ai ni ci)) (w.heap.size + 1) w.heap.size _ Si9.out.rd)
    go_wp2_with fail
    refine Cs.out.mono ?_
    rintro e ws ⟨vs, rfl, h2⟩
    obtain ⟨qs, hq⟩ : ∃ qs, (qi.map (·.2)).bind (allD textD) = qs := ⟨_, rfl⟩
    rw [hq] at h2
    have HQs := hid hq
    obtain ⟨As, ns, cs, rfl⟩ : IsSlice vs := h2.shape (fun _ _ h => list_shape h) (fun h => h)
    have Ss := hid (Si9.out.call FX.out h2.1 h2.rs)
    have Ki_s := hid (Ki.out.call FX.out h2.1)
    have Ks0 := hid (h2.held (M := w.heap.size + 3) Si9.out.size)
    have e0 : ws.cell? ⟨w.heap.size + 1 + 1, 0, none⟩ = some (.slice Ai ni ci) := Ss.out.cell 0
    have e1 : ws.cell? ⟨w.heap.size + 1 + 1, 1, none⟩ = some (.slice none 0 0) := Ss.out.cell 1
    have e2 : ws.cell? ⟨w.heap.size + 1 + 1, 2, none⟩ = some (.slice none 0 0) := Ss.out.cell 2
    have e3 : ws.cell? ⟨w.heap.size + 1 + 1, 3, none⟩ = some (.slice none 0 0) := Ss.out.cell 3
    have e4 : ws.cell? ⟨w.heap.size + 1 + 1, 4, none⟩ = some (.slice none 0 0) := Ss.out.cell 4
    have e5 : ws.cell? ⟨w.heap.size + 1 + 1, 5, none⟩ = some (.int .i64 xn) := Ss.out.cell 5
    have e6 : ws.cell? ⟨w.heap.size + 1 + 1, 6, none⟩ = some (.bool mg) := Ss.out.cell 6
    have z0 := Ss.out.free
    clear h2 hq Cs
    have Ss9 := hid (Ss.out.set FX.out 1 (.slice As ns cs))
    have Ki_s9 := hid (Ki_s.out.set FX.out 1 (.slice As ns cs))
    have Ks := hid (Ks0.out.set FX.out 1 (.slice As ns cs))
    have Cn := hid (somany_any (ws.setCell ⟨w.heap.size + 1 + 1, 1, none⟩ (.slice As ns cs)) (w.heap.size + 1) w.heap.size _ Ss9.out.rd)
    go_wp2_with fail
    clear e0 e1 e2 e3 e4 e5 e6 z0
    refine Cn.out.mono ?_
    rintro e wn ⟨vn, rfl, h2⟩
    obtain ⟨Wh, hW⟩ : ∃ Wh, (ws.setCell ⟨w.heap.size + 1 + 1, 1, none⟩ (.slice As ns cs)) = Wh := ⟨_, rfl⟩
    rw [hW] at h2 Ss9 Ki_s9 Ks
    clear hW Cn
    obtain ⟨mh, rfl, hn0, hst⟩ := lo_start (k := 1) (T := 23) (R := RTexts) (d1 := (allD textD)) (F := (fun k => k = (w.heap.size + 1) ∨ k = w.heap.size + 1 + 1)) h2 (h2.1.mono fun j _ hj => .inl hj)
    obtain ⟨qh, hq⟩ : ∃ qh, (qs.map (·.2)).bind (allD (allD textD)) = qh := ⟨_, rfl⟩
    rw [hq] at hst
    have HQh := hid hq
    have HST := hid hst
    have HAR := hid (Ss9.out.call FX.out h2.1 h2.rs).arr
    have HFS : Hid (∀ j, (j = (w.heap.size + 1) ∨ j = w.heap.size + 1 + 1) → j < Wh.heap.size) := hid (fun j hj => by have := Ss9.out.size; have := FX.out.km; have := FX.out.vm; rcases hj with rfl | rfl <;> omega)
    clear h2 hst hq
    go_wp2_with fail
    go_loopw [8] (fun v8 wr => ∃ (i : Nat) (v : Value), v8 = .int .i64 (i : Int) ∧ i ≤ mh ∧ LoS 1 23 RTexts (allD textD) (fun k => k = (w.heap.size + 1) ∨ k = w.heap.size + 1 + 1) Wh (w.heap.size + 1) w.heap.size mh qh wr v i ∧ wr.heap[w.heap.size + 1 + 1]? = some (.cells #[.slice Ai ni ci, .slice As ns cs, v, .slice none 0 0, .slice none 0 0, .int .i64 xn, .bool mg] 28 (0, 0))) (fun v8 _ => mh - (intOf v8).toNat)
    case atStart => exact ⟨0, _, rfl, by omega, HST.out, HAR.out⟩
    case round =>
      obtain ⟨i, v, rfl, hi, hat, har⟩ := hrel
      obtain ⟨Ah, nh, ch, rfl⟩ := hat.shape
      have HARR := hid har
      clear har
      by_cases hlt : i < mh
      · have hlt1 := hlt
        rcases hat with ⟨ys, xs, r, hat⟩ | hat
        · obtain ⟨A, c, hn1, hc1, hL1, hB1, hbs, hb, d1, d2, z1, z2⟩ := hat.rd.parts
          have HAT := hid hat
          clear hat hbs hb d1 z1 z2
          have HN := hid (sotexts_any wr (w.heap.size + 1) w.heap.size (some r) HAT.out.rd)
          go_wp2_with fail
          refine HN.out.mono ?_
          rintro e w5 ⟨vs, rfl, h45⟩
          have h45 : SobR _ _ (w.heap.size + 1) w.heap.size wr (allD textD r) vs w5 := h45
          obtain ⟨At, nt, ct, rfl⟩ : IsSlice vs := h45.shape (fun _ _ h => list_shape h) (fun h => h)
          clear HN d2
          have H45 := hid h45
          have hsz5 : Wh.heap.size ≤ (w5).heap.size := Nat.le_trans HAT.out.turn.size h45.1.size
          have HROW5 := hid (own_turn HAT.out.row h45.1 (fun g hg e => by have := (HAT.out.row.lt g hg).1; have := HFS.out _ (.inl e); omega))
          have harr5 := block_turn HARR.out h45.1 (Ne.symm FX.out.kv)
          have HARR5 := hid harr5
          have k1 : w5.cell? ⟨w.heap.size + 1 + 1, 2, none⟩ = some (.slice Ah nh ch) := (cell_of_row _ _ _ _ _ _ harr5).trans rfl
          have hbv5 : w.heap.size + 1 + 1 < w5.heap.size := block_lt harr5
          have HIL := HAT.out.row.1
          have H1 : Hid (∀ u ∈ ([Value.slice At nt ct] : List Value), u.oneCell' = true) := hid (by intro u hu; simp only [List.mem_cons, List.not_mem_nil, or_false] at hu; subst hu; rfl)
          clear h45 harr5
          go_wp2_with (at_builtin; go_must (refine wpList_app rfl _ _ _ rfl Wh.heap.size el_rd_texts _ _ rfl rfl (HROW5.out.alloc _) (sl_new w5 _ _ 1 1 rfl (by decide)) H1.out (by simp [maxLen]; omega) (by simp; omega) (le_alloc hsz5 _) (fun v9 w9 n9 hown9 hg9 hbk9 => ?_)); have HS9 := hid (lo_next HAT.out HFS.out (.inl rfl) hlt1 H45.out (z := [Value.slice At nt ct]) rfl (fun w x h => ⟨_, rfl, list_texts h⟩) ((Below.refl _ _).alloc (Nat.le_refl _) _) hg9 (by have h9 := hown9.1; simp at h9 HIL; omega) hown9 hbk9); obtain ⟨A9, m9, c9, rfl⟩ := sl_shape (Sl.of_own hown9); have har9 := block_turn HARR5.out ((Turn.of_below (F := fun k => Value.ownBlock (.slice Ah nh ch) = some k) ((Below.refl w5.heap.size w5).alloc (Nat.le_refl _) _)).trans (Turn.of_grown hg9 (fun j hj => hj)) (fun _ _ h => h)) (fun e => by have := (HAT.out.row.lt _ e).1; have := HFS.out _ (.inr rfl); omega); have k9 : w9.cell? ⟨w.heap.size + 1 + 1, 2, none⟩ = some (.slice Ah nh ch) := (cell_of_row _ _ _ _ _ _ har9).trans rfl; have f9 := block_free har9 2; have HAR9 := hid har9; clear hown9 hg9 hbk9 har9)
          refine ⟨⟨i + 1, _, rfl, by omega, lo_set HS9.out (.inr rfl) FX.out.kv FX.out.bb (HFS.out _ (.inr rfl)), heap_setCell_same _ _ 2 _ _ _ HAR9.out⟩, ?_⟩
          simp [intOf]; omega
        · obtain ⟨l8, hl⟩ := hat.rd
          obtain ⟨A, c, hn1, hc1, hL1, hB1, hbs, hb, d1, d2, z1, z2⟩ := hl.parts
          have hb2 := LoB.done (k := 1) (R := RTexts) hat
          have HQN := hid hat.eq
          clear hat hbs hb d1 z1 z2 hl
          have Sh := hid (Ss9.out.loop FX.out hb2.1 hb2.rs HARR.out)
          have Ki_s9_h := hid (Ki_s9.out.loop FX.out hb2.1)
          have Ks_h := hid (Ks.out.loop FX.out hb2.1)
          have Kh := hid (hb2.held (M := w.heap.size + 3) Ss9.out.size)
          clear hb2
          have Cc := hid (socos_any 40 wr (w.heap.size + 1) w.heap.size _ Sh.out.rd HC40.out)
          go_wp2_with fail
          refine Cc.out.mono ?_
          rintro e wc ⟨vc, rfl, h2⟩
          obtain ⟨qc, hq⟩ : ∃ qc, (qh.map (·.2)).bind (allD (coD 40)) = qc := ⟨_, rfl⟩
          rw [hq] at h2
          have HQc := hid hq
          obtain ⟨Ac, nc, cc, rfl⟩ : IsSlice vc := h2.shape (fun _ _ h => list_shape h) (fun h => h)
          have Sc := hid (Sh.out.call FX.out h2.1 h2.rs)
          have Ki_s9_h_c := hid (Ki_s9_h.out.call FX.out h2.1)
          have Ks_h_c := hid (Ks_h.out.call FX.out h2.1)
          have Kh_c := hid (Kh.out.call FX.out h2.1)
          have Kc0 := hid (h2.held (M := w.heap.size + 3) Sh.out.size)
          have e0 : wc.cell? ⟨w.heap.size + 1 + 1, 0, none⟩ = some (.slice Ai ni ci) := Sc.out.cell 0
          have e1 : wc.cell? ⟨w.heap.size + 1 + 1, 1, none⟩ = some (.slice As ns cs) := Sc.out.cell 1
          have e2 : wc.cell? ⟨w.heap.size + 1 + 1, 2, none⟩ = some (.slice Ah nh ch) := Sc.out.cell 2
          have e3 : wc.cell? ⟨w.heap.size + 1 + 1, 3, none⟩ = some (.slice none 0 0) := Sc.out.cell 3
          have e4 : wc.cell? ⟨w.heap.size + 1 + 1, 4, none⟩ = some (.slice none 0 0) := Sc.out.cell 4
          have e5 : wc.cell? ⟨w.heap.size + 1 + 1, 5, none⟩ = some (.int .i64 xn) := Sc.out.cell 5
          have e6 : wc.cell? ⟨w.heap.size + 1 + 1, 6, none⟩ = some (.bool mg) := Sc.out.cell 6
          have z0 := Sc.out.free
          clear h2 hq Cc
          have Sc9 := hid (Sc.out.set FX.out 3 (.slice Ac nc cc))
          have Ki_s9_h_c9 := hid (Ki_s9_h_c.out.set FX.out 3 (.slice Ac nc cc))
          have Ks_h_c9 := hid (Ks_h_c.out.set FX.out 3 (.slice Ac nc cc))
          have Kh_c9 := hid (Kh_c.out.set FX.out 3 (.slice Ac nc cc))
          have Kc := hid (Kc0.out.set FX.out 3 (.slice Ac nc cc))
          have Cn := hid (somany_any (wc.setCell ⟨w.heap.size + 1 + 1, 3, none⟩ (.slice Ac nc cc)) (w.heap.size + 1) w.heap.size _ Sc9.out.rd)
          go_wp2_with fail
          clear e0 e1 e2 e3 e4 e5 e6 z0
          refine Cn.out.mono ?_
          rintro e wn ⟨vn, rfl, h2⟩
          obtain ⟨Wp, hW⟩ : ∃ Wp, (wc.setCell ⟨w.heap.size + 1 + 1, 3, none⟩ (.slice Ac nc cc)) = Wp := ⟨_, rfl⟩
          rw [hW] at h2 Sc9 Ki_s9_h_c9 Ks_h_c9 Kh_c9 Kc
          clear hW Cn
          obtain ⟨mp, rfl, hn0, hst⟩ := lo_start (k := 3) (T := 47) (R := RProc) (d1 := procD) (F := (fun k => k = (w.heap.size + 1) ∨ k = w.heap.size + 1 + 1)) h2 (h2.1.mono fun j _ hj => .inl hj)
          obtain ⟨qp, hq⟩ : ∃ qp, (qc.map (·.2)).bind (allD procD) = qp := ⟨_, rfl⟩
          rw [hq] at hst
          have HQp := hid hq
          have HST := hid hst
          have HAR := hid (Sc9.out.call FX.out h2.1 h2.rs).arr
          have HFS : Hid (∀ j, (j = (w.heap.size + 1) ∨ j = w.heap.size + 1 + 1) → j < Wp.heap.size) := hid (fun j hj => by have := Sc9.out.size; have := FX.out.km; have := FX.out.vm; rcases hj with rfl | rfl <;> omega)
          clear h2 hst hq
          go_wp2_with fail
          go_loopw [10] (fun v10 wr => ∃ (i : Nat) (v : Value), v10 = .int .i64 (i : Int) ∧ i ≤ mp ∧ LoS 3 47 RProc procD (fun k => k = (w.heap.size + 1) ∨ k = w.heap.size + 1 + 1) Wp (w.heap.size + 1) w.heap.size mp qp wr v i ∧ wr.heap[w.heap.size + 1 + 1]? = some (.cells #[.slice Ai ni ci, .slice As ns cs, .slice Ah nh ch, .slice Ac nc cc, v, .int .i64 xn, .bool mg] 28 (0, 0))) (fun v10 _ => mp - (intOf v10).toNat)
          case atStart => exact ⟨0, _, rfl, by omega, HST.out, HAR.out⟩
          case round =>
            obtain ⟨i, v, rfl, hi, hat, har⟩ := hrel
            obtain ⟨Ap, np, cp, rfl⟩ := hat.shape
            have HARR := hid har
            clear har
            by_cases hlt : i < mp
            · have hlt1 := hlt
              rcases hat with ⟨ys, xs, r, hat⟩ | hat
              · obtain ⟨A, c, hn1, hc1, hL1, hB1, hbs, hb, d1, d2, z1, z2⟩ := hat.rd.parts
                have HAT := hid hat
                clear hat hbs hb d1 z1 z2
                have HN := hid (soproc_any wr (w.heap.size + 1) w.heap.size (some r) HAT.out.rd)
                go_wp2_with fail
                refine HN.out.mono ?_
                rintro e w5 ⟨vs, rfl, h45⟩
                have h45 : SobR _ _ (w.heap.size + 1) w.heap.size wr (procD r) vs w5 := h45
                obtain ⟨xa, xb, At, nt, ct, rfl⟩ : IsProc vs := h45.shape (fun _ _ h => proc_of h) (fun h => h)
                clear HN d2
                have H45 := hid h45
                have hsz5 : Wp.heap.size ≤ (w5).heap.size := Nat.le_trans HAT.out.turn.size h45.1.size
                have HROW5 := hid (own_turn HAT.out.row h45.1 (fun g hg e => by have := (HAT.out.row.lt g hg).1; have := HFS.out _ (.inl e); omega))
                have harr5 := block_turn HARR.out h45.1 (Ne.symm FX.out.kv)
                have HARR5 := hid harr5
                have k1 : w5.cell? ⟨w.heap.size + 1 + 1, 4, none⟩ = some (.slice Ap np cp) := (cell_of_row _ _ _ _ _ _ harr5).trans rfl
                have hbv5 : w.heap.size + 1 + 1 < w5.heap.size := block_lt harr5
                have HIL := HAT.out.row.1
                have H1 : Hid (∀ u ∈ ([Value.int .i64 xa, .int .i64 xb, .slice At nt ct] : List Value), u.oneCell' = true) := hid (by intro u hu; simp only [List.mem_cons, List.not_mem_nil, or_false] at hu; rcases hu with rfl | rfl | rfl <;> rfl)
                clear h45 harr5
                go_wp2_with (at_builtin; go_must (refine wpList_app rfl _ _ _ rfl Wp.heap.size el_rd_proc _ _ rfl rfl ((HROW5.out.alloc _).alloc _) (sl_new2 w5 _ _ _ 3 1 rfl (by decide)) H1.out (by simp [maxLen]; omega) (by simp; omega) (le_alloc (le_alloc hsz5 _) _) (fun v9 w9 n9 hown9 hg9 hbk9 => ?_)); have HS9 := hid (lo_next HAT.out HFS.out (.inl rfl) hlt1 H45.out (z := [Value.int .i64 xa, .int .i64 xb, .slice At nt ct]) rfl (fun w x h => elk_cells h) (((Below.refl _ _).alloc (Nat.le_refl _) _).alloc (le_alloc (Nat.le_refl _) _) _) hg9 (by have h9 := hown9.1; simp at h9 HIL; omega) hown9 hbk9); obtain ⟨A9, m9, c9, rfl⟩ := sl_shape (Sl.of_own hown9); have har9 := block_turn HARR5.out ((Turn.of_below (F := fun k => Value.ownBlock (.slice Ap np cp) = some k) (((Below.refl w5.heap.size w5).alloc (Nat.le_refl _) _).alloc (le_alloc (Nat.le_refl _) _) _)).trans (Turn.of_grown hg9 (fun j hj => hj)) (fun _ _ h => h)) (fun e => by have := (HAT.out.row.lt _ e).1; have := HFS.out _ (.inr rfl); omega); have k9 : w9.cell? ⟨w.heap.size + 1 + 1, 4, none⟩ = some (.slice Ap np cp) := (cell_of_row _ _ _ _ _ _ har9).trans rfl; have f9 := block_free har9 4; have HAR9 := hid har9; clear hown9 hg9 hbk9 har9)
                refine ⟨⟨i + 1, _, rfl, by omega, lo_set HS9.out (.inr rfl) FX.out.kv FX.out.bb (HFS.out _ (.inr rfl)), heap_setCell_same _ _ 4 _ _ _ HAR9.out⟩, ?_⟩
                simp [intOf]; omega
              · obtain ⟨l8, hl⟩ := hat.rd
                obtain ⟨A, c, hn1, hc1, hL1, hB1, hbs, hb, d1, d2, z1, z2⟩ := hl.parts
                have hb2 := LoB.done (k := 3) (R := RProc) hat
                have HQN := hid hat.eq
                clear hat hbs hb d1 z1 z2 hl
                have Sp := hid (Sc9.out.loop FX.out hb2.1 hb2.rs HARR.out)
                have Ki_s9_h_c9_p := hid (Ki_s9_h_c9.out.loop FX.out hb2.1)
                have Ks_h_c9_p := hid (Ks_h_c9.out.loop FX.out hb2.1)
                have Kh_c9_p := hid (Kh_c9.out.loop FX.out hb2.1)
                have Kc_p := hid (Kc.out.loop FX.out hb2.1)
                have Kp := hid (hb2.held (M := w.heap.size + 3) Sc9.out.size)
                clear hb2
                have e0 : wr.cell? ⟨w.heap.size + 1 + 1, 0, none⟩ = some (.slice Ai ni ci) := Sp.out.cell 0
                have e1 : wr.cell? ⟨w.heap.size + 1 + 1, 1, none⟩ = some (.slice As ns cs) := Sp.out.cell 1
                have e2 : wr.cell? ⟨w.heap.size + 1 + 1, 2, none⟩ = some (.slice Ah nh ch) := Sp.out.cell 2
                have e3 : wr.cell? ⟨w.heap.size + 1 + 1, 3, none⟩ = some (.slice Ac nc cc) := Sp.out.cell 3
                have e4 : wr.cell? ⟨w.heap.size + 1 + 1, 4, none⟩ = some (.slice Ap np cp) := Sp.out.cell 4
                have e5 : wr.cell? ⟨w.heap.size + 1 + 1, 5, none⟩ = some (.int .i64 xn) := Sp.out.cell 5
                have e6 : wr.cell? ⟨w.heap.size + 1 + 1, 6, none⟩ = some (.bool mg) := Sp.out.cell 6
                have y0 : wr.cell? ⟨w.heap.size, 0, none⟩ = some (.slice none 0 0) := Sp.out.cell0 0
                have y1 : wr.cell? ⟨w.heap.size, 1, none⟩ = some (.slice none 0 0) := Sp.out.cell0 1
                have y2 : wr.cell? ⟨w.heap.size, 2, none⟩ = some (.slice none 0 0) := Sp.out.cell0 2
                have y3 : wr.cell? ⟨w.heap.size, 3, none⟩ = some (.slice none 0 0) := Sp.out.cell0 3
                have y4 : wr.cell? ⟨w.heap.size, 4, none⟩ = some (.slice none 0 0) := Sp.out.cell0 4
                have y5 : wr.cell? ⟨w.heap.size, 5, none⟩ = some (.int .i64 0) := Sp.out.cell0 5
                have y6 : wr.cell? ⟨w.heap.size, 6, none⟩ = some (.bool false) := Sp.out.cell0 6
                have y9 := Sp.out.free0
                go_wp2_with fail
                have HE9 : decE l = 20 ∧ decC l = noCode := by
                  rcases code_chain HQg.out HQn.out HQi.out HQs.out HQh.out HQc.out HQp.out with ⟨gg, r1, nn, r2, ii, r3, ss, r4, hh, r5, cc, r6, pp, r7, eg, en, ei, es, eh, ec2, ep, hq⟩ | ⟨hq, ep⟩
                  · have h9 := HQN.out
                    rw [ep] at h9
                    cases h9
                  · exact dec_bad HL.out hq
                have ec := (heap_setCell_same _ _ 6 _ _ (.bool false) (heap_setCell_same _ _ 5 _ _ (.int .i64 0) (heap_setCell_same _ _ 4 _ _ (.slice none 0 0) (heap_setCell_same _ _ 3 _ _ (.slice none 0 0) (heap_setCell_same _ _ 2 _ _ (.slice none 0 0) (heap_setCell_same _ _ 1 _ _ (.slice none 0 0) (heap_setCell_same _ _ 0 _ _ (.slice none 0 0) Sp.out.res)))))))
                have tc := ((turn_set wr w.heap.size 0 (.slice none 0 0)).trans ((turn_set _ w.heap.size 1 (.slice none 0 0)).trans ((turn_set _ w.heap.size 2 (.slice none 0 0)).trans ((turn_set _ w.heap.size 3 (.slice none 0 0)).trans ((turn_set _ w.heap.size 4 (.slice none 0 0)).trans ((turn_set _ w.heap.size 5 (.int .i64 0)).trans (turn_set _ w.heap.size 6 (.bool false)) (fun _ _ h => h)) (fun _ _ h => h)) (fun _ _ h => h)) (fun _ _ h => h)) (fun _ _ h => h)) (fun _ _ h => h))
                have tt0 := Sp.out.turn
                have hsz := Sp.out.turn.size
                refine bodyPost_ret (results_cell_tmp rfl rfl rfl ec Try.underlying28 rfl (by kernel_rfl)) rfl ?_
                obtain ⟨hE, hC⟩ := HE9
                rw [hE, hC]
                exact ⟨(tt0.below (Nat.le_refl _) (fun _ _ h => h.elim)).trans (tc.below hsz (fun j hj e => by omega)), _, rfl, noCode_reads _ _⟩
            · obtain rfl : i = mp := by omega
              have hb2 := hat.done
              clear hat
              have Sp := hid (Sc9.out.loop FX.out hb2.1 hb2.rs HARR.out)
              have Ki_s9_h_c9_p := hid (Ki_s9_h_c9.out.loop FX.out hb2.1)
              have Ks_h_c9_p := hid (Ks_h_c9.out.loop FX.out hb2.1)
              have Kh_c9_p := hid (Kh_c9.out.loop FX.out hb2.1)
              have Kc_p := hid (Kc.out.loop FX.out hb2.1)
              have Kp := hid (hb2.held (M := w.heap.size + 3) Sc9.out.size)
              clear hb2
              have e0 : wr.cell? ⟨w.heap.size + 1 + 1, 0, none⟩ = some (.slice Ai ni ci) := Sp.out.cell 0
              have e1 : wr.cell? ⟨w.heap.size + 1 + 1, 1, none⟩ = some (.slice As ns cs) := Sp.out.cell 1
              have e2 : wr.cell? ⟨w.heap.size + 1 + 1, 2, none⟩ = some (.slice Ah nh ch) := Sp.out.cell 2
              have e3 : wr.cell? ⟨w.heap.size + 1 + 1, 3, none⟩ = some (.slice Ac nc cc) := Sp.out.cell 3
              have e4 : wr.cell? ⟨w.heap.size + 1 + 1, 4, none⟩ = some (.slice Ap np cp) := Sp.out.cell 4
              have e5 : wr.cell? ⟨w.heap.size + 1 + 1, 5, none⟩ = some (.int .i64 xn) := Sp.out.cell 5
              have e6 : wr.cell? ⟨w.heap.size + 1 + 1, 6, none⟩ = some (.bool mg) := Sp.out.cell 6
              have y0 : wr.cell? ⟨w.heap.size, 0, none⟩ = some (.slice none 0 0) := Sp.out.cell0 0
              have y1 : wr.cell? ⟨w.heap.size, 1, none⟩ = some (.slice none 0 0) := Sp.out.cell0 1
              have y2 : wr.cell? ⟨w.heap.size, 2, none⟩ = some (.slice none 0 0) := Sp.out.cell0 2
              have y3 : wr.cell? ⟨w.heap.size, 3, none⟩ = some (.slice none 0 0) := Sp.out.cell0 3
              have y4 : wr.cell? ⟨w.heap.size, 4, none⟩ = some (.slice none 0 0) := Sp.out.cell0 4
              have y5 : wr.cell? ⟨w.heap.size, 5, none⟩ = some (.int .i64 0) := Sp.out.cell0 5
              have y6 : wr.cell? ⟨w.heap.size, 6, none⟩ = some (.bool false) := Sp.out.cell0 6
              have y9 := Sp.out.free0
              obtain ⟨lz, bz, hrz, hσ⟩ := Sp.out.rd.open_
              obtain ⟨Az, cz, hnz, hcz, hLz, hBz, hbsz, hbz, dz1, dz2, zz1, zz2⟩ := hrz.parts
              clear hrz hbsz hbz zz1 zz2
              rcases hσ with ⟨rfl, hσ⟩ | ⟨rfl, hσ⟩
              · cases lz with
                | nil =>
                  have HS9 := hid hσ
                  clear hσ
                  simp only [List.length_nil] at dz1
                  go_wp2_with fail
                  have ec := (heap_setCell_same _ _ 6 _ _ (.bool mg) (heap_setCell_same _ _ 5 _ _ (.int .i64 xn) (heap_setCell_same _ _ 4 _ _ (.slice Ap np cp) (heap_setCell_same _ _ 3 _ _ (.slice Ac nc cc) (heap_setCell_same _ _ 2 _ _ (.slice Ah nh ch) (heap_setCell_same _ _ 1 _ _ (.slice As ns cs) (heap_setCell_same _ _ 0 _ _ (.slice Ai ni ci) Sp.out.res)))))))
                  have tc := ((turn_set wr w.heap.size 0 (.slice Ai ni ci)).trans ((turn_set _ w.heap.size 1 (.slice As ns cs)).trans ((turn_set _ w.heap.size 2 (.slice Ah nh ch)).trans ((turn_set _ w.heap.size 3 (.slice Ac nc cc)).trans ((turn_set _ w.heap.size 4 (.slice Ap np cp)).trans ((turn_set _ w.heap.size 5 (.int .i64 xn)).trans (turn_set _ w.heap.size 6 (.bool mg)) (fun _ _ h => h)) (fun _ _ h => h)) (fun _ _ h => h)) (fun _ _ h => h)) (fun _ _ h => h)) (fun _ _ h => h))
                  have tt0 := Sp.out.turn
                  have hsz := Sp.out.turn.size
                  refine bodyPost_ret (results_cell_tmp rfl rfl rfl ec Try.underlying28 rfl (by kernel_rfl)) rfl ?_
                  rcases code_chain HQg.out HQn.out HQi.out HQs.out HQh.out HQc.out HQp.out with ⟨gg, r1, nn, r2, ii, r3, ss, r4, hh, r5, cc, r6, pp, r7, eg, en, ei, es, eh, ec2, ep, hq⟩ | ⟨hq, ep⟩
                  · have h9 := HS9.out
                    rw [ep] at h9
                    obtain rfl : r7 = [] := by injection h9
                    obtain ⟨hE, hC⟩ := dec_good HL.out hq
                    rw [hE, hC]
                    obtain rfl := HXn.out _ _ en
                    have hmgg : mg = gg := HGG.out _ _ eg
                    subst hmgg
                    refine ⟨(tt0.below (Nat.le_refl _) (fun _ _ h => h.elim)).trans (tc.below hsz (fun j hj e => by omega)), _, rfl, ?_⟩
                    have tm := tc.mono (G := fun k => k < w.heap.size + 3) (fun j _ hj => by omega)
                    have li := Ki_s9_h_c9_p.out _ tm _ _ ei
                    have ls := Ks_h_c9_p.out _ tm _ _ es
                    have lh := Kh_c9_p.out _ tm _ _ eh
                    have lc := Kc_p.out _ tm _ _ ec2
                    have lp := Kp.out _ tm _ _ ep
                    obtain ⟨zh, sh, rh⟩ := lh
                    obtain ⟨zc, sc, rc⟩ := lc
                    obtain ⟨zp, sp, rp⟩ := lp
                    exact ⟨_, _, _, _, _, zh, zc, zp, rfl, list_ints li, list_texts ls, sh, row_shapes rh, sc, row_cos rc, sp, row_procs rp⟩
                  · have h9 := HS9.out
                    rw [ep] at h9
                    cases h9
                | cons y lz =>
                  have HS9 := hid hσ
                  have hpos : 0 < (y :: lz).length := by simp
                  clear hσ
                  generalize (y :: lz).length = Lz at *
                  go_wp2_with fail
                  have HE9 : decE l = 20 ∧ decC l = noCode := by
                    rcases code_chain HQg.out HQn.out HQi.out HQs.out HQh.out HQc.out HQp.out with ⟨gg, r1, nn, r2, ii, r3, ss, r4, hh, r5, cc, r6, pp, r7, eg, en, ei, es, eh, ec2, ep, hq⟩ | ⟨hq, ep⟩
                    · have h9 := HS9.out
                      rw [ep] at h9
                      obtain rfl : r7 = y :: lz := by injection h9
                      exact dec_left HL.out hq (by simp)
                    · exact dec_bad HL.out hq
                  have ec := (heap_setCell_same _ _ 6 _ _ (.bool false) (heap_setCell_same _ _ 5 _ _ (.int .i64 0) (heap_setCell_same _ _ 4 _ _ (.slice none 0 0) (heap_setCell_same _ _ 3 _ _ (.slice none 0 0) (heap_setCell_same _ _ 2 _ _ (.slice none 0 0) (heap_setCell_same _ _ 1 _ _ (.slice none 0 0) (heap_setCell_same _ _ 0 _ _ (.slice none 0 0) Sp.out.res)))))))
                  have tc := ((turn_set wr w.heap.size 0 (.slice none 0 0)).trans ((turn_set _ w.heap.size 1 (.slice none 0 0)).trans ((turn_set _ w.heap.size 2 (.slice none 0 0)).trans ((turn_set _ w.heap.size 3 (.slice none 0 0)).trans ((turn_set _ w.heap.size 4 (.slice none 0 0)).trans ((turn_set _ w.heap.size 5 (.int .i64 0)).trans (turn_set _ w.heap.size 6 (.bool false)) (fun _ _ h => h)) (fun _ _ h => h)) (fun _ _ h => h)) (fun _ _ h => h)) (fun _ _ h => h)) (fun _ _ h => h))
                  have tt0 := Sp.out.turn
                  have hsz := Sp.out.turn.size
                  refine bodyPost_ret (results_cell_tmp rfl rfl rfl ec Try.underlying28 rfl (by kernel_rfl)) rfl ?_
                  obtain ⟨hE, hC⟩ := HE9
                  rw [hE, hC]
                  exact ⟨(tt0.below (Nat.le_refl _) (fun _ _ h => h.elim)).trans (tc.below hsz (fun j hj e => by omega)), _, rfl, noCode_reads _ _⟩
              · have HS9 := hid hσ
                clear hσ
                go_wp2_with fail
                have HE9 : decE l = 20 ∧ decC l = noCode := by
                  rcases code_chain HQg.out HQn.out HQi.out HQs.out HQh.out HQc.out HQp.out with ⟨gg, r1, nn, r2, ii, r3, ss, r4, hh, r5, cc, r6, pp, r7, eg, en, ei, es, eh, ec2, ep, hq⟩ | ⟨hq, ep⟩
                  · have h9 := HS9.out
                    rw [ep] at h9
                    cases h9
                  · exact dec_bad HL.out hq
                have ec := (heap_setCell_same _ _ 6 _ _ (.bool false) (heap_setCell_same _ _ 5 _ _ (.int .i64 0) (heap_setCell_same _ _ 4 _ _ (.slice none 0 0) (heap_setCell_same _ _ 3 _ _ (.slice none 0 0) (heap_setCell_same _ _ 2 _ _ (.slice none 0 0) (heap_setCell_same _ _ 1 _ _ (.slice none 0 0) (heap_setCell_same _ _ 0 _ _ (.slice none 0 0) Sp.out.res)))))))
                have tc := ((turn_set wr w.heap.size 0 (.slice none 0 0)).trans ((turn_set _ w.heap.size 1 (.slice none 0 0)).trans ((turn_set _ w.heap.size 2 (.slice none 0 0)).trans ((turn_set _ w.heap.size 3 (.slice none 0 0)).trans ((turn_set _ w.heap.size 4 (.slice none 0 0)).trans ((turn_set _ w.heap.size 5 (.int .i64 0)).trans (turn_set _ w.heap.size 6 (.bool false)) (fun _ _ h => h)) (fun _ _ h => h)) (fun _ _ h => h)) (fun _ _ h => h)) (fun _ _ h => h)) (fun _ _ h => h))
                have tt0 := Sp.out.turn
                have hsz := Sp.out.turn.size
                refine bodyPost_ret (results_cell_tmp rfl rfl rfl ec Try.underlying28 rfl (by kernel_rfl)) rfl ?_
                obtain ⟨hE, hC⟩ := HE9
                rw [hE, hC]
                exact ⟨(tt0.below (Nat.le_refl _) (fun _ _ h => h.elim)).trans (tc.below hsz (fun j hj e => by omega)), _, rfl, noCode_reads _ _⟩
      · obtain rfl : i = mh := by omega
        have hb2 := hat.done
        clear hat
        have Sh := hid (Ss9.out.loop FX.out hb2.1 hb2.rs HARR.out)
        have Ki_s9_h := hid (Ki_s9.out.loop FX.out hb2.1)
        have Ks_h := hid (Ks.out.loop FX.out hb2.1)
        have Kh := hid (hb2.held (M := w.heap.size + 3) Ss9.out.size)
        clear hb2
        have Cc := hid (socos_any 40 wr (w.heap.size + 1) w.heap.size _ Sh.out.rd HC40.out)
        go_wp2_with fail
        refine Cc.out.mono ?_
        rintro e wc ⟨vc, rfl, h2⟩
        obtain ⟨qc, hq⟩ : ∃ qc, (qh.map (·.2)).bind (allD (coD 40)) = qc := ⟨_, rfl⟩
        rw [hq] at h2
        have HQc := hid hq
        obtain ⟨Ac, nc, cc, rfl⟩ : IsSlice vc := h2.shape (fun _ _ h => list_shape h) (fun h => h)
        have Sc := hid (Sh.out.call FX.out h2.1 h2.rs)
        have Ki_s9_h_c := hid (Ki_s9_h.out.call FX.out h2.1)
        have Ks_h_c := hid (Ks_h.out.call FX.out h2.1)
        have Kh_c := hid (Kh.out.call FX.out h2.1)
        have Kc0 := hid (h2.held (M := w.heap.size + 3) Sh.out.size)
        have e0 : wc.cell? ⟨w.heap.size + 1 + 1, 0, none⟩ = some (.slice Ai ni ci) := Sc.out.cell 0
        have e1 : wc.cell? ⟨w.heap.size + 1 + 1, 1, none⟩ = some (.slice As ns cs) := Sc.out.cell 1
        have e2 : wc.cell? ⟨w.heap.size + 1 + 1, 2, none⟩ = some (.slice Ah nh ch) := Sc.out.cell 2
        have e3 : wc.cell? ⟨w.heap.size + 1 + 1, 3, none⟩ = some (.slice none 0 0) := Sc.out.cell 3
        have e4 : wc.cell? ⟨w.heap.size + 1 + 1, 4, none⟩ = some (.slice none 0 0) := Sc.out.cell 4
        have e5 : wc.cell? ⟨w.heap.size + 1 + 1, 5, none⟩ = some (.int .i64 xn) := Sc.out.cell 5
        have e6 : wc.cell? ⟨w.heap.size + 1 + 1, 6, none⟩ = some (.bool mg) := Sc.out.cell 6
        have z0 := Sc.out.free
        clear h2 hq Cc
        have Sc9 := hid (Sc.out.set FX.out 3 (.slice Ac nc cc))
        have Ki_s9_h_c9 := hid (Ki_s9_h_c.out.set FX.out 3 (.slice Ac nc cc))
        have Ks_h_c9 := hid (Ks_h_c.out.set FX.out 3 (.slice Ac nc cc))
        have Kh_c9 := hid (Kh_c.out.set FX.out 3 (.slice Ac nc cc))
        have Kc := hid (Kc0.out.set FX.out 3 (.slice Ac nc cc))
        have Cn := hid (somany_any (wc.setCell ⟨w.heap.size + 1 + 1, 3, none⟩ (.slice Ac nc cc)) (w.heap.size + 1) w.heap.size _ Sc9.out.rd)
        go_wp2_with fail
        clear e0 e1 e2 e3 e4 e5 e6 z0
        refine Cn.out.mono ?_
        rintro e wn ⟨vn, rfl, h2⟩
        obtain ⟨Wp, hW⟩ : ∃ Wp, (wc.setCell ⟨w.heap.size + 1 + 1, 3, none⟩ (.slice Ac nc cc)) = Wp := ⟨_, rfl⟩
        rw [hW] at h2 Sc9 Ki_s9_h_c9 Ks_h_c9 Kh_c9 Kc
        clear hW Cn
        obtain ⟨mp, rfl, hn0, hst⟩ := lo_start (k := 3) (T := 47) (R := RProc) (d1 := procD) (F := (fun k => k = (w.heap.size + 1) ∨ k = w.heap.size + 1 + 1)) h2 (h2.1.mono fun j _ hj => .inl hj)
        obtain ⟨qp, hq⟩ : ∃ qp, (qc.map (·.2)).bind (allD procD) = qp := ⟨_, rfl⟩
        rw [hq] at hst
        have HQp := hid hq
        have HST := hid hst
        have HAR := hid (Sc9.out.call FX.out h2.1 h2.rs).arr
        have HFS : Hid (∀ j, (j = (w.heap.size + 1) ∨ j = w.heap.size + 1 + 1) → j < Wp.heap.size) := hid (fun j hj => by have := Sc9.out.size; have := FX.out.km; have := FX.out.vm; rcases hj with rfl | rfl <;> omega)
        clear h2 hst hq
        go_wp2_with fail
        go_loopw [10] (fun v10 wr => ∃ (i : Nat) (v : Value), v10 = .int .i64 (i : Int) ∧ i ≤ mp ∧ LoS 3 47 RProc procD (fun k => k = (w.heap.size + 1) ∨ k = w.heap.size + 1 + 1) Wp (w.heap.size + 1) w.heap.size mp qp wr v i ∧ wr.heap[w.heap.size + 1 + 1]? = some (.cells #[.slice Ai ni ci, .slice As ns cs, .slice Ah nh ch, .slice Ac nc cc, v, .int .i64 xn, .bool mg] 28 (0, 0))) (fun v10 _ => mp - (intOf v10).toNat)
        case atStart => exact ⟨0, _, rfl, by omega, HST.out, HAR.out⟩
        case round =>
          obtain ⟨i, v, rfl, hi, hat, har⟩ := hrel
          obtain ⟨Ap, np, cp, rfl⟩ := hat.shape
          have HARR := hid har
          clear har
          by_cases hlt : i < mp
          · have hlt1 := hlt
            rcases hat with ⟨ys, xs, r, hat⟩ | hat
            · obtain ⟨A, c, hn1, hc1, hL1, hB1, hbs, hb, d1, d2, z1, z2⟩ := hat.rd.parts
              have HAT := hid hat
              clear hat hbs hb d1 z1 z2
              have HN := hid (soproc_any wr (w.heap.size + 1) w.heap.size (some r) HAT.out.rd)
              go_wp2_with fail
              refine HN.out.mono ?_
              rintro e w5 ⟨vs, rfl, h45⟩
              have h45 : SobR _ _ (w.heap.size + 1) w.heap.size wr (procD r) vs w5 := h45
              obtain ⟨xa, xb, At, nt, ct, rfl⟩ : IsProc vs := h45.shape (fun _ _ h => proc_of h) (fun h => h)
              clear HN d2
              have H45 := hid h45
              have hsz5 : Wp.heap.size ≤ (w5).heap.size := Nat.le_trans HAT.out.turn.size h45.1.size
              have HROW5 := hid (own_turn HAT.out.row h45.1 (fun g hg e => by have := (HAT.out.row.lt g hg).1; have := HFS.out _ (.inl e); omega))
              have harr5 := block_turn HARR.out h45.1 (Ne.symm FX.out.kv)
              have HARR5 := hid harr5
              have k1 : w5.cell? ⟨w.heap.size + 1 + 1, 4, none⟩ = some (.slice Ap np cp) := (cell_of_row _ _ _ _ _ _ harr5).trans rfl
              have hbv5 : w.heap.size + 1 + 1 < w5.heap.size := block_lt harr5
              have HIL := HAT.out.row.1
              have H1 : Hid (∀ u ∈ ([Value.int .i64 xa, .int .i64 xb, .slice At nt ct] : List Value), u.oneCell' = true) := hid (by intro u hu; simp only [List.mem_cons, List.not_mem_nil, or_false] at hu; rcases hu with rfl | rfl | rfl <;> rfl)
              clear h45 harr5
              go_wp2_with (at_builtin; go_must (refine wpList_app rfl _ _ _ rfl Wp.heap.size el_rd_proc _ _ rfl rfl ((HROW5.out.alloc _).alloc _) (sl_new2 w5 _ _ _ 3 1 rfl (by decide)) H1.out (by simp [maxLen]; omega) (by simp; omega) (le_alloc (le_alloc hsz5 _) _) (fun v9 w9 n9 hown9 hg9 hbk9 => ?_)); have HS9 := hid (lo_next HAT.out HFS.out (.inl rfl) hlt1 H45.out (z := [Value.int .i64 xa, .int .i64 xb, .slice At nt ct]) rfl (fun w x h => elk_cells h) (((Below.refl _ _).alloc (Nat.le_refl _) _).alloc (le_alloc (Nat.le_refl _) _) _) hg9 (by have h9 := hown9.1; simp at h9 HIL; omega) hown9 hbk9); obtain ⟨A9, m9, c9, rfl⟩ := sl_shape (Sl.of_own hown9); have har9 := block_turn HARR5.out ((Turn.of_below (F := fun k => Value.ownBlock (.slice Ap np cp) = some k) (((Below.refl w5.heap.size w5).alloc (Nat.le_refl _) _).alloc (le_alloc (Nat.le_refl _) _) _)).trans (Turn.of_grown hg9 (fun j hj => hj)) (fun _ _ h => h)) (fun e => by have := (HAT.out.row.lt _ e).1; have := HFS.out _ (.inr rfl); omega); have k9 : w9.cell? ⟨w.heap.size + 1 + 1, 4, none⟩ = some (.slice Ap np cp) := (cell_of_row _ _ _ _ _ _ har9).trans rfl; have f9 := block_free har9 4; have HAR9 := hid har9; clear hown9 hg9 hbk9 har9)
              refine ⟨⟨i + 1, _, rfl, by omega, lo_set HS9.out (.inr rfl) FX.out.kv FX.out.bb (HFS.out _ (.inr rfl)), heap_setCell_same _ _ 4 _ _ _ HAR9.out⟩, ?_⟩
              simp [intOf]; omega
            · obtain ⟨l8, hl⟩ := hat.rd
              obtain ⟨A, c, hn1, hc1, hL1, hB1, hbs, hb, d1, d2, z1, z2⟩ := hl.parts
              have hb2 := LoB.done (k := 3) (R := RProc) hat
              have HQN := hid hat.eq
              clear hat hbs hb d1 z1 z2 hl
              have Sp := hid (Sc9.out.loop FX.out hb2.1 hb2.rs HARR.out)
              have Ki_s9_h_c9_p := hid (Ki_s9_h_c9.out.loop FX.out hb2.1)
              have Ks_h_c9_p := hid (Ks_h_c9.out.loop FX.out hb2.1)
              have Kh_c9_p := hid (Kh_c9.out.loop FX.out hb2.1)
              have Kc_p := hid (Kc.out.loop FX.out hb2.1)
              have Kp := hid (hb2.held (M := w.heap.size + 3) Sc9.out.size)
              clear hb2
              have e0 : wr.cell? ⟨w.heap.size + 1 + 1, 0, none⟩ = some (.slice Ai ni ci) := Sp.out.cell 0
              have e1 : wr.cell? ⟨w.heap.size + 1 + 1, 1, none⟩ = some (.slice As ns cs) := Sp.out.cell 1
              have e2 : wr.cell? ⟨w.heap.size + 1 + 1, 2, none⟩ = some (.slice Ah nh ch) := Sp.out.cell 2
              have e3 : wr.cell? ⟨w.heap.size + 1 + 1, 3, none⟩ = some (.slice Ac nc cc) := Sp.out.cell 3
              have e4 : wr.cell? ⟨w.heap.size + 1 + 1, 4, none⟩ = some (.slice Ap np cp) := Sp.out.cell 4
              have e5 : wr.cell? ⟨w.heap.size + 1 + 1, 5, none⟩ = some (.int .i64 xn) := Sp.out.cell 5
              have e6 : wr.cell? ⟨w.heap.size + 1 + 1, 6, none⟩ = some (.bool mg) := Sp.out.cell 6
              have y0 : wr.cell? ⟨w.heap.size, 0, none⟩ = some (.slice none 0 0) := Sp.out.cell0 0
              have y1 : wr.cell? ⟨w.heap.size, 1, none⟩ = some (.slice none 0 0) := Sp.out.cell0 1
              have y2 : wr.cell? ⟨w.heap.size, 2, none⟩ = some (.slice none 0 0) := Sp.out.cell0 2
              have y3 : wr.cell? ⟨w.heap.size, 3, none⟩ = some (.slice none 0 0) := Sp.out.cell0 3
              have y4 : wr.cell? ⟨w.heap.size, 4, none⟩ = some (.slice none 0 0) := Sp.out.cell0 4
              have y5 : wr.cell? ⟨w.heap.size, 5, none⟩ = some (.int .i64 0) := Sp.out.cell0 5
              have y6 : wr.cell? ⟨w.heap.size, 6, none⟩ = some (.bool false) := Sp.out.cell0 6
              have y9 := Sp.out.free0
              go_wp2_with fail
              have HE9 : decE l = 20 ∧ decC l = noCode := by
                rcases code_chain HQg.out HQn.out HQi.out HQs.out HQh.out HQc.out HQp.out with ⟨gg, r1, nn, r2, ii, r3, ss, r4, hh, r5, cc, r6, pp, r7, eg, en, ei, es, eh, ec2, ep, hq⟩ | ⟨hq, ep⟩
                · have h9 := HQN.out
                  rw [ep] at h9
                  cases h9
                · exact dec_bad HL.out hq
              have ec := (heap_setCell_same _ _ 6 _ _ (.bool false) (heap_setCell_same _ _ 5 _ _ (.int .i64 0) (heap_setCell_same _ _ 4 _ _ (.slice none 0 0) (heap_setCell_same _ _ 3 _ _ (.slice none 0 0) (heap_setCell_same _ _ 2 _ _ (.slice none 0 0) (heap_setCell_same _ _ 1 _ _ (.slice none 0 0) (heap_setCell_same _ _ 0 _ _ (.slice none 0 0) Sp.out.res)))))))
              have tc := ((turn_set wr w.heap.size 0 (.slice none 0 0)).trans ((turn_set _ w.heap.size 1 (.slice none 0 0)).trans ((turn_set _ w.heap.size 2 (.slice none 0 0)).trans ((turn_set _ w.heap.size 3 (.slice none 0 0)).trans ((turn_set _ w.heap.size 4 (.slice none 0 0)).trans ((turn_set _ w.heap.size 5 (.int .i64 0)).trans (turn_set _ w.heap.size 6 (.bool false)) (fun _ _ h => h)) (fun _ _ h => h)) (fun _ _ h => h)) (fun _ _ h => h)) (fun _ _ h => h)) (fun _ _ h => h))
              have tt0 := Sp.out.turn
              have hsz := Sp.out.turn.size
              refine bodyPost_ret (results_cell_tmp rfl rfl rfl ec Try.underlying28 rfl (by kernel_rfl)) rfl ?_
              obtain ⟨hE, hC⟩ := HE9
              rw [hE, hC]
              exact ⟨(tt0.below (Nat.le_refl _) (fun _ _ h => h.elim)).trans (tc.below hsz (fun j hj e => by omega)), _, rfl, noCode_reads _ _⟩
          · obtain rfl : i = mp := by omega
            have hb2 := hat.done
            clear hat
            have Sp := hid (Sc9.out.loop FX.out hb2.1 hb2.rs HARR.out)
            have Ki_s9_h_c9_p := hid (Ki_s9_h_c9.out.loop FX.out hb2.1)
            have Ks_h_c9_p := hid (Ks_h_c9.out.loop FX.out hb2.1)
            have Kh_c9_p := hid (Kh_c9.out.loop FX.out hb2.1)
            have Kc_p := hid (Kc.out.loop FX.out hb2.1)
            have Kp := hid (hb2.held (M := w.heap.size + 3) Sc9.out.size)
            clear hb2
            have e0 : wr.cell? ⟨w.heap.size + 1 + 1, 0, none⟩ = some (.slice Ai ni ci) := Sp.out.cell 0
            have e1 : wr.cell? ⟨w.heap.size + 1 + 1, 1, none⟩ = some (.slice As ns cs) := Sp.out.cell 1
            have e2 : wr.cell? ⟨w.heap.size + 1 + 1, 2, none⟩ = some (.slice Ah nh ch) := Sp.out.cell 2
            have e3 : wr.cell? ⟨w.heap.size + 1 + 1, 3, none⟩ = some (.slice Ac nc cc) := Sp.out.cell 3
            have e4 : wr.cell? ⟨w.heap.size + 1 + 1, 4, none⟩ = some (.slice Ap np cp) := Sp.out.cell 4
            have e5 : wr.cell? ⟨w.heap.size + 1 + 1, 5, none⟩ = some (.int .i64 xn) := Sp.out.cell 5
            have e6 : wr.cell? ⟨w.heap.size + 1 + 1, 6, none⟩ = some (.bool mg) := Sp.out.cell 6
            have y0 : wr.cell? ⟨w.heap.size, 0, none⟩ = some (.slice none 0 0) := Sp.out.cell0 0
            have y1 : wr.cell? ⟨w.heap.size, 1, none⟩ = some (.slice none 0 0) := Sp.out.cell0 1
            have y2 : wr.cell? ⟨w.heap.size, 2, none⟩ = some (.slice none 0 0) := Sp.out.cell0 2
            have y3 : wr.cell? ⟨w.heap.size, 3, none⟩ = some (.slice none 0 0) := Sp.out.cell0 3
            have y4 : wr.cell? ⟨w.heap.size, 4, none⟩ = some (.slice none 0 0) := Sp.out.cell0 4
            have y5 : wr.cell? ⟨w.heap.size, 5, none⟩ = some (.int .i64 0) := Sp.out.cell0 5
            have y6 : wr.cell? ⟨w.heap.size, 6, none⟩ = some (.bool false) := Sp.out.cell0 6
            have y9 := Sp.out.free0
            obtain ⟨lz, bz, hrz, hσ⟩ := Sp.out.rd.open_
            obtain ⟨Az, cz, hnz, hcz, hLz, hBz, hbsz, hbz, dz1, dz2, zz1, zz2⟩ := hrz.parts
            clear hrz hbsz hbz zz1 zz2
            rcases hσ with ⟨rfl, hσ⟩ | ⟨rfl, hσ⟩
            · cases lz with
              | nil =>
                have HS9 := hid hσ
                clear hσ
                simp only [List.length_nil] at dz1
                go_wp2_with fail
                have ec := (heap_setCell_same _ _ 6 _ _ (.bool mg) (heap_setCell_same _ _ 5 _ _ (.int .i64 xn) (heap_setCell_same _ _ 4 _ _ (.slice Ap np cp) (heap_setCell_same _ _ 3 _ _ (.slice Ac nc cc) (heap_setCell_same _ _ 2 _ _ (.slice Ah nh ch) (heap_setCell_same _ _ 1 _ _ (.slice As ns cs) (heap_setCell_same _ _ 0 _ _ (.slice Ai ni ci) Sp.out.res)))))))
                have tc := ((turn_set wr w.heap.size 0 (.slice Ai ni ci)).trans ((turn_set _ w.heap.size 1 (.slice As ns cs)).trans ((turn_set _ w.heap.size 2 (.slice Ah nh ch)).trans ((turn_set _ w.heap.size 3 (.slice Ac nc cc)).trans ((turn_set _ w.heap.size 4 (.slice Ap np cp)).trans ((turn_set _ w.heap.size 5 (.int .i64 xn)).trans (turn_set _ w.heap.size 6 (.bool mg)) (fun _ _ h => h)) (fun _ _ h => h)) (fun _ _ h => h)) (fun _ _ h => h)) (fun _ _ h => h)) (fun _ _ h => h))
                have tt0 := Sp.out.turn
                have hsz := Sp.out.turn.size
                refine bodyPost_ret (results_cell_tmp rfl rfl rfl ec Try.underlying28 rfl (by kernel_rfl)) rfl ?_
                rcases code_chain HQg.out HQn.out HQi.out HQs.out HQh.out HQc.out HQp.out with ⟨gg, r1, nn, r2, ii, r3, ss, r4, hh, r5, cc, r6, pp, r7, eg, en, ei, es, eh, ec2, ep, hq⟩ | ⟨hq, ep⟩
                · have h9 := HS9.out
                  rw [ep] at h9
                  obtain rfl : r7 = [] := by injection h9
                  obtain ⟨hE, hC⟩ := dec_good HL.out hq
                  rw [hE, hC]
                  obtain rfl := HXn.out _ _ en
                  have hmgg : mg = gg := HGG.out _ _ eg
                  subst hmgg
                  refine ⟨(tt0.below (Nat.le_refl _) (fun _ _ h => h.elim)).trans (tc.below hsz (fun j hj e => by omega)), _, rfl, ?_⟩
                  have tm := tc.mono (G := fun k => k < w.heap.size + 3) (fun j _ hj => by omega)
                  have li := Ki_s9_h_c9_p.out _ tm _ _ ei
                  have ls := Ks_h_c9_p.out _ tm _ _ es
                  have lh := Kh_c9_p.out _ tm _ _ eh
                  have lc := Kc_p.out _ tm _ _ ec2
                  have lp := Kp.out _ tm _ _ ep
                  obtain ⟨zh, sh, rh⟩ := lh
                  obtain ⟨zc, sc, rc⟩ := lc
                  obtain ⟨zp, sp, rp⟩ := lp
                  exact ⟨_, _, _, _, _, zh, zc, zp, rfl, list_ints li, list_texts ls, sh, row_shapes rh, sc, row_cos rc, sp, row_procs rp⟩
                · have h9 := HS9.out
                  rw [ep] at h9
                  cases h9
              | cons y lz =>
                have HS9 := hid hσ
                have hpos : 0 < (y :: lz).length := by simp
                clear hσ
                generalize (y :: lz).length = Lz at *
                go_wp2_with fail
                have HE9 : decE l = 20 ∧ decC l = noCode := by
                  rcases code_chain HQg.out HQn.out HQi.out HQs.out HQh.out HQc.out HQp.out with ⟨gg, r1, nn, r2, ii, r3, ss, r4, hh, r5, cc, r6, pp, r7, eg, en, ei, es, eh, ec2, ep, hq⟩ | ⟨hq, ep⟩
                  · have h9 := HS9.out
                    rw [ep] at h9
                    obtain rfl : r7 = y :: lz := by injection h9
                    exact dec_left HL.out hq (by simp)
                  · exact dec_bad HL.out hq
                have ec := (heap_setCell_same _ _ 6 _ _ (.bool false) (heap_setCell_same _ _ 5 _ _ (.int .i64 0) (heap_setCell_same _ _ 4 _ _ (.slice none 0 0) (heap_setCell_same _ _ 3 _ _ (.slice none 0 0) (heap_setCell_same _ _ 2 _ _ (.slice none 0 0) (heap_setCell_same _ _ 1 _ _ (.slice none 0 0) (heap_setCell_same _ _ 0 _ _ (.slice none 0 0) Sp.out.res)))))))
                have tc := ((turn_set wr w.heap.size 0 (.slice none 0 0)).trans ((turn_set _ w.heap.size 1 (.slice none 0 0)).trans ((turn_set _ w.heap.size 2 (.slice none 0 0)).trans ((turn_set _ w.heap.size 3 (.slice none 0 0)).trans ((turn_set _ w.heap.size 4 (.slice none 0 0)).trans ((turn_set _ w.heap.size 5 (.int .i64 0)).trans (turn_set _ w.heap.size 6 (.bool false)) (fun _ _ h => h)) (fun _ _ h => h)) (fun _ _ h => h)) (fun _ _ h => h)) (fun _ _ h => h)) (fun _ _ h => h))
                have tt0 := Sp.out.turn
                have hsz := Sp.out.turn.size
                refine bodyPost_ret (results_cell_tmp rfl rfl rfl ec Try.underlying28 rfl (by kernel_rfl)) rfl ?_
                obtain ⟨hE, hC⟩ := HE9
                rw [hE, hC]
                exact ⟨(tt0.below (Nat.le_refl _) (fun _ _ h => h.elim)).trans (tc.below hsz (fun j hj e => by omega)), _, rfl, noCode_reads _ _⟩
            · have HS9 := hid hσ
              clear hσ
              go_wp2_with fail
              have HE9 : decE l = 20 ∧ decC l = noCode := by
                rcases code_chain HQg.out HQn.out HQi.out HQs.out HQh.out HQc.out HQp.out with ⟨gg, r1, nn, r2, ii, r3, ss, r4, hh, r5, cc, r6, pp, r7, eg, en, ei, es, eh, ec2, ep, hq⟩ | ⟨hq, ep⟩
                · have h9 := HS9.out
                  rw [ep] at h9
                  cases h9
                · exact dec_bad HL.out hq
              have ec := (heap_setCell_same _ _ 6 _ _ (.bool false) (heap_setCell_same _ _ 5 _ _ (.int .i64 0) (heap_setCell_same _ _ 4 _ _ (.slice none 0 0) (heap_setCell_same _ _ 3 _ _ (.slice none 0 0) (heap_setCell_same _ _ 2 _ _ (.slice none 0 0) (heap_setCell_same _ _ 1 _ _ (.slice none 0 0) (heap_setCell_same _ _ 0 _ _ (.slice none 0 0) Sp.out.res)))))))
              have tc := ((turn_set wr w.heap.size 0 (.slice none 0 0)).trans ((turn_set _ w.heap.size 1 (.slice none 0 0)).trans ((turn_set _ w.heap.size 2 (.slice none 0 0)).trans ((turn_set _ w.heap.size 3 (.slice none 0 0)).trans ((turn_set _ w.heap.size 4 (.slice none 0 0)).trans ((turn_set _ w.heap.size 5 (.int .i64 0)).trans (turn_set _ w.heap.size 6 (.bool false)) (fun _ _ h => h)) (fun _ _ h => h)) (fun _ _ h => h)) (fun _ _ h => h)) (fun _ _ h => h)) (fun _ _ h => h))
              have tt0 := Sp.out.turn
              have hsz := Sp.out.turn.size
              refine bodyPost_ret (results_cell_tmp rfl rfl rfl ec Try.underlying28 rfl (by kernel_rfl)) rfl ?_
              obtain ⟨hE, hC⟩ := HE9
              rw [hE, hC]
              exact ⟨(tt0.below (Nat.le_refl _) (fun _ _ h => h.elim)).trans (tc.below hsz (fun j hj e => by omega)), _, rfl, noCode_reads _ _⟩
  have hmb : decide ((1 : Int) < xm) = false := by simp; omega
  have HNMb := hid hm
  clear hm
  obtain ⟨hma1, hma2⟩ := merge_ok HQm.out HXm.out HNMa.out HNMb.out
  have HGG : Hid (∀ g r, qg = some (g, r) → mg = g) := hid (fun g r h => by rw [← HMG.out, hma2 g r (HQg.out.trans h)]; rfl)
  have Sg : Hid (SoAt 28 #[.slice none 0 0, .slice none 0 0, .slice none 0 0, .slice none 0 0, .slice none 0 0, .int .i64 0, .bool false] w (fun _ => False) (w.heap.size + 1) w.heap.size w.heap.size (w.heap.size + 1 + 1) (w.heap.size + 3) wm #[.slice none 0 0, .slice none 0 0, .slice none 0 0, .slice none 0 0, .slice none 0 0, .int .i64 0, .bool false] (qg.map (·.2))) := hid (by rw [← HQg.out, hma1]; exact Sm.out)
  clear hma1 hma2 dr2 zr2
  have Sg9 := hid (Sg.out.set FX.out 6 (.bool mg))
  have Cn := hid (sonum_any (wm.setCell ⟨w.heap.size + 1 + 1, 6, none⟩ (.bool mg)) (w.heap.size + 1) w.heap.size _ Sg9.out.rd)
  go_wp2_with fail
  refine Cn.out.mono ?_
  rintro e wn ⟨vn, rfl, h2⟩
  obtain ⟨qn, hq⟩ : ∃ qn, (qg.map (·.2)).bind numD = qn := ⟨_, rfl⟩
  rw [hq] at h2
  have HQn := hid hq
  obtain ⟨xn, rfl⟩ : ∃ x, vn = .int .i64 x := h2.shape (fun _ x h => ⟨_, h⟩) (fun h => ⟨_, h⟩)
  have HXn : Hid (∀ x r, qn = some (x, r) → xn = x) := hid (fun x r hx => by have := (h2.some_ hx).1 _ (Turn.refl _ _); injection this)
  have Sn := hid (Sg9.out.call FX.out h2.1 h2.rs)
  have e0 : wn.cell? ⟨w.heap.size + 1 + 1, 0, none⟩ = some (.slice none 0 0) := Sn.out.cell 0
  have e1 : wn.cell? ⟨w.heap.size + 1 + 1, 1, none⟩ = some (.slice none 0 0) := Sn.out.cell 1
  have e2 : wn.cell? ⟨w.heap.size + 1 + 1, 2, none⟩ = some (.slice none 0 0) := Sn.out.cell 2
  have e3 : wn.cell? ⟨w.heap.size + 1 + 1, 3, none⟩ = some (.slice none 0 0) := Sn.out.cell 3
  have e4 : wn.cell? ⟨w.heap.size + 1 + 1, 4, none⟩ = some (.slice none 0 0) := Sn.out.cell 4
  have e5 : wn.cell? ⟨w.heap.size + 1 + 1, 5, none⟩ = some (.int .i64 0) := Sn.out.cell 5
  have e6 : wn.cell? ⟨w.heap.size + 1 + 1, 6, none⟩ = some (.bool mg) := Sn.out.cell 6
  have z0 := Sn.out.free
  clear h2 hq Cn
  have Sn9 := hid (Sn.out.set FX.out 5 (.int .i64 xn))
  have Ci := hid (sonums_any (wn.setCell ⟨w.heap.size + 1 + 1, 5, none⟩ (.int .i64 xn)) (w.heap.size + 1) w.heap.size _ Sn9.out.rd)
  go_wp2_with fail
  refine Ci.out.mono ?_
  rintro e wi ⟨vi, rfl, h2⟩
  obtain ⟨qi, hq⟩ : ∃ qi, (qn.map (·.2)).bind (allD numD) = qi := ⟨_, rfl⟩
  rw [hq] at h2
  have HQi := hid hq
  obtain ⟨Ai, ni, ci, rfl⟩ : IsSlice vi := h2.shape (fun _ _ h => list_shape h) (fun h => h)
  have Si := hid (Sn9.out.call FX.out h2.1 h2.rs)
  have Ki0 := hid (h2.held (M := w.heap.size + 3) Sn9.out.size)
  have e0 : wi.cell? ⟨w.heap.size + 1 + 1, 0, none⟩ = some (.slice none 0 0) := Si.out.cell 0
  have e1 : wi.cell? ⟨w.heap.size + 1 + 1, 1, none⟩ = some (.slice none 0 0) := Si.out.cell 1
  have e2 : wi.cell? ⟨w.heap.size + 1 + 1, 2, none⟩ = some (.slice none 0 0) := Si.out.cell 2
  have e3 : wi.cell? ⟨w.heap.size + 1 + 1, 3, none⟩ = some (.slice none 0 0) := Si.out.cell 3
  have e4 : wi.cell? ⟨w.heap.size + 1 + 1, 4, none⟩ = some (.slice none 0 0) := Si.out.cell 4
  have e5 : wi.cell? ⟨w.heap.size + 1 + 1, 5, none⟩ = some (.int .i64 xn) := Si.out.cell 5
  have e6 : wi.cell? ⟨w.heap.size + 1 + 1, 6, none⟩ = some (.bool mg) := Si.out.cell 6
  have z0 := Si.out.free
  clear h2 hq Ci
  have Si9 := hid (Si.out.set FX.out 0 (.slice Ai ni ci))
  have Ki := hid (Ki0.out.set FX.out 0 (.slice Ai ni ci))
  have Cs := hid (sotexts_any (wi.setCell ⟨w.heap.size + 1 + 1, 0, none⟩ (.slice Ai ni ci)) (w.heap.size + 1) w.heap.size _ Si9.out.rd)
  go_wp2_with fail
  refine Cs.out.mono ?_
  rintro e ws ⟨vs, rfl, h2⟩
  obtain ⟨qs, hq⟩ : ∃ qs, (qi.map (·.2)).bind (allD textD) = qs := ⟨_, rfl⟩
  rw [hq] at h2
  have HQs := hid hq
  obtain ⟨As, ns, cs, rfl⟩ : IsSlice vs := h2.shape (fun _ _ h => list_shape h) (fun h => h)
  have Ss := hid (Si9.out.call FX.out h2.1 h2.rs)
  have Ki_s := hid (Ki.out.call FX.out h2.1)
  have Ks0 := hid (h2.held (M := w.heap.size + 3) Si9.out.size)
  have e0 : ws.cell? ⟨w.heap.size + 1 + 1, 0, none⟩ = some (.slice Ai ni ci) := Ss.out.cell 0
  have e1 : ws.cell? ⟨w.heap.size + 1 + 1, 1, none⟩ = some (.slice none 0 0) := Ss.out.cell 1
  have e2 : ws.cell? ⟨w.heap.size + 1 + 1, 2, none⟩ = some (.slice none 0 0) := Ss.out.cell 2
  have e3 : ws.cell? ⟨w.heap.size + 1 + 1, 3, none⟩ = some (.slice none 0 0) := Ss.out.cell 3
  have e4 : ws.cell? ⟨w.heap.size + 1 + 1, 4, none⟩ = some (.slice none 0 0) := Ss.out.cell 4
  have e5 : ws.cell? ⟨w.heap.size + 1 + 1, 5, none⟩ = some (.int .i64 xn) := Ss.out.cell 5
  have e6 : ws.cell? ⟨w.heap.size + 1 + 1, 6, none⟩ = some (.bool mg) := Ss.out.cell 6
  have z0 := Ss.out.free
  clear h2 hq Cs
  have Ss9 := hid (Ss.out.set FX.out 1 (.slice As ns cs))
  have Ki_s9 := hid (Ki_s.out.set FX.out 1 (.slice As ns cs))
  have Ks := hid (Ks0.out.set FX.out 1 (.slice As ns cs))
  have Cn := hid (somany_any (ws.setCell ⟨w.heap.size + 1 + 1, 1, none⟩ (.slice As ns cs)) (w.heap.size + 1) w.heap.size _ Ss9.out.rd)
  go_wp2_with fail
  clear e0 e1 e2 e3 e4 e5 e6 z0
  refine Cn.out.mono ?_
  rintro e wn ⟨vn, rfl, h2⟩
  obtain ⟨Wh, hW⟩ : ∃ Wh, (ws.setCell ⟨w.heap.size + 1 + 1, 1, none⟩ (.slice As ns cs)) = Wh := ⟨_, rfl⟩
  rw [hW] at h2 Ss9 Ki_s9 Ks
  clear hW Cn
  obtain ⟨mh, rfl, hn0, hst⟩ := lo_start (k := 1) (T := 23) (R := RTexts) (d1 := (allD textD)) (F := (fun k => k = (w.heap.size + 1) ∨ k = w.heap.size + 1 + 1)) h2 (h2.1.mono fun j _ hj => .inl hj)
  obtain ⟨qh, hq⟩ : ∃ qh, (qs.map (·.2)).bind (allD (allD textD)) = qh := ⟨_, rfl⟩
  rw [hq] at hst
  have HQh := hid hq
  have HST := hid hst
  have HAR := hid (Ss9.out.call FX.out h2.1 h2.rs).arr
  have HFS : Hid (∀ j, (j = (w.heap.size + 1) ∨ j = w.heap.size + 1 + 1) → j < Wh.heap.size) := hid (fun j hj => by have := Ss9.out.size; have := FX.out.km; have := FX.out.vm; rcases hj with rfl | rfl <;> omega)
  clear h2 hst hq
  go_wp2_with fail
  go_loopw [8] (fun v8 wr => ∃ (i : Nat) (v : Value), v8 = .int .i64 (i : Int) ∧ i ≤ mh ∧ LoS 1 23 RTexts (allD textD) (fun k => k = (w.heap.size + 1) ∨ k = w.heap.size + 1 + 1) Wh (w.heap.size + 1) w.heap.size mh qh wr v i ∧ wr.heap[w.heap.size + 1 + 1]? = some (.cells #[.slice Ai ni ci, .slice As ns cs, v, .slice none 0 0, .slice none 0 0, .int .i64 xn, .bool mg] 28 (0, 0))) (fun v8 _ => mh - (intOf v8).toNat)
  case atStart => exact ⟨0, _, rfl, by omega, HST.out, HAR.out⟩
  case round =>
    obtain ⟨i, v, rfl, hi, hat, har⟩ := hrel
    obtain ⟨Ah, nh, ch, rfl⟩ := hat.shape
    have HARR := hid har
    clear har
    by_cases hlt : i < mh
    · have hlt1 := hlt
      rcases hat with ⟨ys, xs, r, hat⟩ | hat
      · obtain ⟨A, c, hn1, hc1, hL1, hB1, hbs, hb, d1, d2, z1, z2⟩ := hat.rd.parts
        have HAT := hid hat
        clear hat hbs hb d1 z1 z2
        have HN := hid (sotexts_any wr (w.heap.size + 1) w.heap.size (some r) HAT.out.rd)
        go_wp2_with fail
        refine HN.out.mono ?_
        rintro e w5 ⟨vs, rfl, h45⟩
        have h45 : SobR _ _ (w.heap.size + 1) w.heap.size wr (allD textD r) vs w5 := h45
        obtain ⟨At, nt, ct, rfl⟩ : IsSlice vs := h45.shape (fun _ _ h => list_shape h) (fun h => h)
        clear HN d2
        have H45 := hid h45
        have hsz5 : Wh.heap.size ≤ (w5).heap.size := Nat.le_trans HAT.out.turn.size h45.1.size
        have HROW5 := hid (own_turn HAT.out.row h45.1 (fun g hg e => by have := (HAT.out.row.lt g hg).1; have := HFS.out _ (.inl e); omega))
        have harr5 := block_turn HARR.out h45.1 (Ne.symm FX.out.kv)
        have HARR5 := hid harr5
        have k1 : w5.cell? ⟨w.heap.size + 1 + 1, 2, none⟩ = some (.slice Ah nh ch) := (cell_of_row _ _ _ _ _ _ harr5).trans rfl
        have hbv5 : w.heap.size + 1 + 1 < w5.heap.size := block_lt harr5
        have HIL := HAT.out.row.1
        have H1 : Hid (∀ u ∈ ([Value.slice At nt ct] : List Value), u.oneCell' = true) := hid (by intro u hu; simp only [List.mem_cons, List.not_mem_nil, or_false] at hu; subst hu; rfl)
        clear h45 harr5
        go_wp2_with (at_builtin; go_must (refine wpList_app rfl _ _ _ rfl Wh.heap.size el_rd_texts _ _ rfl rfl (HROW5.out.alloc _) (sl_new w5 _ _ 1 1 rfl (by decide)) H1.out (by simp [maxLen]; omega) (by simp; omega) (le_alloc hsz5 _) (fun v9 w9 n9 hown9 hg9 hbk9 => ?_)); have HS9 := hid (lo_next HAT.out HFS.out (.inl rfl) hlt1 H45.out (z := [Value.slice At nt ct]) rfl (fun w x h => ⟨_, rfl, list_texts h⟩) ((Below.refl _ _).alloc (Nat.le_refl _) _) hg9 (by have h9 := hown9.1; simp at h9 HIL; omega) hown9 hbk9); obtain ⟨A9, m9, c9, rfl⟩ := sl_shape (Sl.of_own hown9); have har9 := block_turn HARR5.out ((Turn.of_below (F := fun k => Value.ownBlock (.slice Ah nh ch) = some k) ((Below.refl w5.heap.size w5).alloc (Nat.le_refl _) _)).trans (Turn.of_grown hg9 (fun j hj => hj)) (fun _ _ h => h)) (fun e => by have := (HAT.out.row.lt _ e).1; have := HFS.out _ (.inr rfl); omega); have k9 : w9.cell? ⟨w.heap.size + 1 + 1, 2, none⟩ = some (.slice Ah nh ch) := (cell_of_row _ _ _ _ _ _ har9).trans rfl; have f9 := block_free har9 2; have HAR9 := hid har9; clear hown9 hg9 hbk9 har9)
        refine ⟨⟨i + 1, _, rfl, by omega, lo_set HS9.out (.inr rfl) FX.out.kv FX.out.bb (HFS.out _ (.inr rfl)), heap_setCell_same _ _ 2 _ _ _ HAR9.out⟩, ?_⟩
        simp [intOf]; omega
      · obtain ⟨l8, hl⟩ := hat.rd
        obtain ⟨A, c, hn1, hc1, hL1, hB1, hbs, hb, d1, d2, z1, z2⟩ := hl.parts
        have hb2 := LoB.done (k := 1) (R := RTexts) hat
        have HQN := hid hat.eq
        clear hat hbs hb d1 z1 z2 hl
        have Sh := hid (Ss9.out.loop FX.out hb2.1 hb2.rs HARR.out)
        have Ki_s9_h := hid (Ki_s9.out.loop FX.out hb2.1)
        have Ks_h := hid (Ks.out.loop FX.out hb2.1)
        have Kh := hid (hb2.held (M := w.heap.size + 3) Ss9.out.size)
        clear hb2
        have Cc := hid (socos_any 40 wr (w.heap.size + 1) w.heap.size _ Sh.out.rd HC40.out)
        go_wp2_with fail
        refine Cc.out.mono ?_
        rintro e wc ⟨vc, rfl, h2⟩
        obtain ⟨qc, hq⟩ : ∃ qc, (qh.map (·.2)).bind (allD (coD 40)) = qc := ⟨_, rfl⟩
        rw [hq] at h2
        have HQc := hid hq
        obtain ⟨Ac, nc, cc, rfl⟩ : IsSlice vc := h2.shape (fun _ _ h => list_shape h) (fun h => h)
        have Sc := hid (Sh.out.call FX.out h2.1 h2.rs)
        have Ki_s9_h_c := hid (Ki_s9_h.out.call FX.out h2.1)
        have Ks_h_c := hid (Ks_h.out.call FX.out h2.1)
        have Kh_c := hid (Kh.out.call FX.out h2.1)
        have Kc0 := hid (h2.held (M := w.heap.size + 3) Sh.out.size)
        have e0 : wc.cell? ⟨w.heap.size + 1 + 1, 0, none⟩ = some (.slice Ai ni ci) := Sc.out.cell 0
        have e1 : wc.cell? ⟨w.heap.size + 1 + 1, 1, none⟩ = some (.slice As ns cs) := Sc.out.cell 1
        have e2 : wc.cell? ⟨w.heap.size + 1 + 1, 2, none⟩ = some (.slice Ah nh ch) := Sc.out.cell 2
        have e3 : wc.cell? ⟨w.heap.size + 1 + 1, 3, none⟩ = some (.slice none 0 0) := Sc.out.cell 3
        have e4 : wc.cell? ⟨w.heap.size + 1 + 1, 4, none⟩ = some (.slice none 0 0) := Sc.out.cell 4
        have e5 : wc.cell? ⟨w.heap.size + 1 + 1, 5, none⟩ = some (.int .i64 xn) := Sc.out.cell 5
        have e6 : wc.cell? ⟨w.heap.size + 1 + 1, 6, none⟩ = some (.bool mg) := Sc.out.cell 6
        have z0 := Sc.out.free
        clear h2 hq Cc
        have Sc9 := hid (Sc.out.set FX.out 3 (.slice Ac nc cc))
        have Ki_s9_h_c9 := hid (Ki_s9_h_c.out.set FX.out 3 (.slice Ac nc cc))
        have Ks_h_c9 := hid (Ks_h_c.out.set FX.out 3 (.slice Ac nc cc))
        have Kh_c9 := hid (Kh_c.out.set FX.out 3 (.slice Ac nc cc))
        have Kc := hid (Kc0.out.set FX.out 3 (.slice Ac nc cc))
        have Cn := hid (somany_any (wc.setCell ⟨w.heap.size + 1 + 1, 3, none⟩ (.slice Ac nc cc)) (w.heap.size + 1) w.heap.size _ Sc9.out.rd)
        go_wp2_with fail
        clear e0 e1 e2 e3 e4 e5 e6 z0
        refine Cn.out.mono ?_
        rintro e wn ⟨vn, rfl, h2⟩
        obtain ⟨Wp, hW⟩ : ∃ Wp, (wc.setCell ⟨w.heap.size + 1 + 1, 3, none⟩ (.slice Ac nc cc)) = Wp := ⟨_, rfl⟩
        rw [hW] at h2 Sc9 Ki_s9_h_c9 Ks_h_c9 Kh_c9 Kc
        clear hW Cn
        obtain ⟨mp, rfl, hn0, hst⟩ := lo_start (k := 3) (T := 47) (R := RProc) (d1 := procD) (F := (fun k => k = (w.heap.size + 1) ∨ k = w.heap.size + 1 + 1)) h2 (h2.1.mono fun j _ hj => .inl hj)
        obtain ⟨qp, hq⟩ : ∃ qp, (qc.map (·.2)).bind (allD procD) = qp := ⟨_, rfl⟩
        rw [hq] at hst
        have HQp := hid hq
        have HST := hid hst
        have HAR := hid (Sc9.out.call FX.out h2.1 h2.rs).arr
        have HFS : Hid (∀ j, (j = (w.heap.size + 1) ∨ j = w.heap.size + 1 + 1) → j < Wp.heap.size) := hid (fun j hj => by have := Sc9.out.size; have := FX.out.km; have := FX.out.vm; rcases hj with rfl | rfl <;> omega)
        clear h2 hst hq
        go_wp2_with fail
        go_loopw [10] (fun v10 wr => ∃ (i : Nat) (v : Value), v10 = .int .i64 (i : Int) ∧ i ≤ mp ∧ LoS 3 47 RProc procD (fun k => k = (w.heap.size + 1) ∨ k = w.heap.size + 1 + 1) Wp (w.heap.size + 1) w.heap.size mp qp wr v i ∧ wr.heap[w.heap.size + 1 + 1]? = some (.cells #[.slice Ai ni ci, .slice As ns cs, .slice Ah nh ch, .slice Ac nc cc, v, .int .i64 xn, .bool mg] 28 (0, 0))) (fun v10 _ => mp - (intOf v10).toNat)
        case atStart => exact ⟨0, _, rfl, by omega, HST.out, HAR.out⟩
        case round =>
          obtain ⟨i, v, rfl, hi, hat, har⟩ := hrel
          obtain ⟨Ap, np, cp, rfl⟩ := hat.shape
          have HARR := hid har
          clear har
          by_cases hlt : i < mp
          · have hlt1 := hlt
            rcases hat with ⟨ys, xs, r, hat⟩ | hat
            · obtain ⟨A, c, hn1, hc1, hL1, hB1, hbs, hb, d1, d2, z1, z2⟩ := hat.rd.parts
              have HAT := hid hat
              clear hat hbs hb d1 z1 z2
              have HN := hid (soproc_any wr (w.heap.size + 1) w.heap.size (some r) HAT.out.rd)
              go_wp2_with fail
              refine HN.out.mono ?_
              rintro e w5 ⟨vs, rfl, h45⟩
              have h45 : SobR _ _ (w.heap.size + 1) w.heap.size wr (procD r) vs w5 := h45
              obtain ⟨xa, xb, At, nt, ct, rfl⟩ : IsProc vs := h45.shape (fun _ _ h => proc_of h) (fun h => h)
              clear HN d2
              have H45 := hid h45
              have hsz5 : Wp.heap.size ≤ (w5).heap.size := Nat.le_trans HAT.out.turn.size h45.1.size
              have HROW5 := hid (own_turn HAT.out.row h45.1 (fun g hg e => by have := (HAT.out.row.lt g hg).1; have := HFS.out _ (.inl e); omega))
              have harr5 := block_turn HARR.out h45.1 (Ne.symm FX.out.kv)
              have HARR5 := hid harr5
              have k1 : w5.cell? ⟨w.heap.size + 1 + 1, 4, none⟩ = some (.slice Ap np cp) := (cell_of_row _ _ _ _ _ _ harr5).trans rfl
              have hbv5 : w.heap.size + 1 + 1 < w5.heap.size := block_lt harr5
              have HIL := HAT.out.row.1
              have H1 : Hid (∀ u ∈ ([Value.int .i64 xa, .int .i64 xb, .slice At nt ct] : List Value), u.oneCell' = true) := hid (by intro u hu; simp only [List.mem_cons, List.not_mem_nil, or_false] at hu; rcases hu with rfl | rfl | rfl <;> rfl)
              clear h45 harr5
              go_wp2_with (at_builtin; go_must (refine wpList_app rfl _ _ _ rfl Wp.heap.size el_rd_proc _ _ rfl rfl ((HROW5.out.alloc _).alloc _) (sl_new2 w5 _ _ _ 3 1 rfl (by decide)) H1.out (by simp [maxLen]; omega) (by simp; omega) (le_alloc (le_alloc hsz5 _) _) (fun v9 w9 n9 hown9 hg9 hbk9 => ?_)); have HS9 := hid (lo_next HAT.out HFS.out (.inl rfl) hlt1 H45.out (z := [Value.int .i64 xa, .int .i64 xb, .slice At nt ct]) rfl (fun w x h => elk_cells h) (((Below.refl _ _).alloc (Nat.le_refl _) _).alloc (le_alloc (Nat.le_refl _) _) _) hg9 (by have h9 := hown9.1; simp at h9 HIL; omega) hown9 hbk9); obtain ⟨A9, m9, c9, rfl⟩ := sl_shape (Sl.of_own hown9); have har9 := block_turn HARR5.out ((Turn.of_below (F := fun k => Value.ownBlock (.slice Ap np cp) = some k) (((Below.refl w5.heap.size w5).alloc (Nat.le_refl _) _).alloc (le_alloc (Nat.le_refl _) _) _)).trans (Turn.of_grown hg9 (fun j hj => hj)) (fun _ _ h => h)) (fun e => by have := (HAT.out.row.lt _ e).1; have := HFS.out _ (.inr rfl); omega); have k9 : w9.cell? ⟨w.heap.size + 1 + 1, 4, none⟩ = some (.slice Ap np cp) := (cell_of_row _ _ _ _ _ _ har9).trans rfl; have f9 := block_free har9 4; have HAR9 := hid har9; clear hown9 hg9 hbk9 har9)
              refine ⟨⟨i + 1, _, rfl, by omega, lo_set HS9.out (.inr rfl) FX.out.kv FX.out.bb (HFS.out _ (.inr rfl)), heap_setCell_same _ _ 4 _ _ _ HAR9.out⟩, ?_⟩
              simp [intOf]; omega
            · obtain ⟨l8, hl⟩ := hat.rd
              obtain ⟨A, c, hn1, hc1, hL1, hB1, hbs, hb, d1, d2, z1, z2⟩ := hl.parts
              have hb2 := LoB.done (k := 3) (R := RProc) hat
              have HQN := hid hat.eq
              clear hat hbs hb d1 z1 z2 hl
              have Sp := hid (Sc9.out.loop FX.out hb2.1 hb2.rs HARR.out)
              have Ki_s9_h_c9_p := hid (Ki_s9_h_c9.out.loop FX.out hb2.1)
              have Ks_h_c9_p := hid (Ks_h_c9.out.loop FX.out hb2.1)
              have Kh_c9_p := hid (Kh_c9.out.loop FX.out hb2.1)
              have Kc_p := hid (Kc.out.loop FX.out hb2.1)
              have Kp := hid (hb2.held (M := w.heap.size + 3) Sc9.out.size)
              clear hb2
              have e0 : wr.cell? ⟨w.heap.size + 1 + 1, 0, none⟩ = some (.slice Ai ni ci) := Sp.out.cell 0
              have e1 : wr.cell? ⟨w.heap.size + 1 + 1, 1, none⟩ = some (.slice As ns cs) := Sp.out.cell 1
              have e2 : wr.cell? ⟨w.heap.size + 1 + 1, 2, none⟩ = some (.slice Ah nh ch) := Sp.out.cell 2
              have e3 : wr.cell? ⟨w.heap.size + 1 + 1, 3, none⟩ = some (.slice Ac nc cc) := Sp.out.cell 3
              have e4 : wr.cell? ⟨w.heap.size + 1 + 1, 4, none⟩ = some (.slice Ap np cp) := Sp.out.cell 4
              have e5 : wr.cell? ⟨w.heap.size + 1 + 1, 5, none⟩ = some (.int .i64 xn) := Sp.out.cell 5
              have e6 : wr.cell? ⟨w.heap.size + 1 + 1, 6, none⟩ = some (.bool mg) := Sp.out.cell 6
              have y0 : wr.cell? ⟨w.heap.size, 0, none⟩ = some (.slice none 0 0) := Sp.out.cell0 0
              have y1 : wr.cell? ⟨w.heap.size, 1, none⟩ = some (.slice none 0 0) := Sp.out.cell0 1
              have y2 : wr.cell? ⟨w.heap.size, 2, none⟩ = some (.slice none 0 0) := Sp.out.cell0 2
              have y3 : wr.cell? ⟨w.heap.size, 3, none⟩ = some (.slice none 0 0) := Sp.out.cell0 3
              have y4 : wr.cell? ⟨w.heap.size, 4, none⟩ = some (.slice none 0 0) := Sp.out.cell0 4
              have y5 : wr.cell? ⟨w.heap.size, 5, none⟩ = some (.int .i64 0) := Sp.out.cell0 5
              have y6 : wr.cell? ⟨w.heap.size, 6, none⟩ = some (.bool false) := Sp.out.cell0 6
              have y9 := Sp.out.free0
              go_wp2_with fail
              have HE9 : decE l = 20 ∧ decC l = noCode := by
                rcases code_chain HQg.out HQn.out HQi.out HQs.out HQh.out HQc.out HQp.out with ⟨gg, r1, nn, r2, ii, r3, ss, r4, hh, r5, cc, r6, pp, r7, eg, en, ei, es, eh, ec2, ep, hq⟩ | ⟨hq, ep⟩
                · have h9 := HQN.out
                  rw [ep] at h9
                  cases h9
                · exact dec_bad HL.out hq
              have ec := (heap_setCell_same _ _ 6 _ _ (.bool false) (heap_setCell_same _ _ 5 _ _ (.int .i64 0) (heap_setCell_same _ _ 4 _ _ (.slice none 0 0) (heap_setCell_same _ _ 3 _ _ (.slice none 0 0) (heap_setCell_same _ _ 2 _ _ (.slice none 0 0) (heap_setCell_same _ _ 1 _ _ (.slice none 0 0) (heap_setCell_same _ _ 0 _ _ (.slice none 0 0) Sp.out.res)))))))
              have tc := ((turn_set wr w.heap.size 0 (.slice none 0 0)).trans ((turn_set _ w.heap.size 1 (.slice none 0 0)).trans ((turn_set _ w.heap.size 2 (.slice none 0 0)).trans ((turn_set _ w.heap.size 3 (.slice none 0 0)).trans ((turn_set _ w.heap.size 4 (.slice none 0 0)).trans ((turn_set _ w.heap.size 5 (.int .i64 0)).trans (turn_set _ w.heap.size 6 (.bool false)) (fun _ _ h => h)) (fun _ _ h => h)) (fun _ _ h => h)) (fun _ _ h => h)) (fun _ _ h => h)) (fun _ _ h => h))
              have tt0 := Sp.out.turn
              have hsz := Sp.out.turn.size
              refine bodyPost_ret (results_cell_tmp rfl rfl rfl ec Try.underlying28 rfl (by kernel_rfl)) rfl ?_
              obtain ⟨hE, hC⟩ := HE9
              rw [hE, hC]
              exact ⟨(tt0.below (Nat.le_refl _) (fun _ _ h => h.elim)).trans (tc.below hsz (fun j hj e => by omega)), _, rfl, noCode_reads _ _⟩
          · obtain rfl : i = mp := by omega
            have hb2 := hat.done
            clear hat
            have Sp := hid (Sc9.out.loop FX.out hb2.1 hb2.rs HARR.out)
            have Ki_s9_h_c9_p := hid (Ki_s9_h_c9.out.loop FX.out hb2.1)
            have Ks_h_c9_p := hid (Ks_h_c9.out.loop FX.out hb2.1)
            have Kh_c9_p := hid (Kh_c9.out.loop FX.out hb2.1)
            have Kc_p := hid (Kc.out.loop FX.out hb2.1)
            have Kp := hid (hb2.held (M := w.heap.size + 3) Sc9.out.size)
            clear hb2
            have e0 : wr.cell? ⟨w.heap.size + 1 + 1, 0, none⟩ = some (.slice Ai ni ci) := Sp.out.cell 0
            have e1 : wr.cell? ⟨w.heap.size + 1 + 1, 1, none⟩ = some (.slice As ns cs) := Sp.out.cell 1
            have e2 : wr.cell? ⟨w.heap.size + 1 + 1, 2, none⟩ = some (.slice Ah nh ch) := Sp.out.cell 2
            have e3 : wr.cell? ⟨w.heap.size + 1 + 1, 3, none⟩ = some (.slice Ac nc cc) := Sp.out.cell 3
            have e4 : wr.cell? ⟨w.heap.size + 1 + 1, 4, none⟩ = some (.slice Ap np cp) := Sp.out.cell 4
            have e5 : wr.cell? ⟨w.heap.size + 1 + 1, 5, none⟩ = some (.int .i64 xn) := Sp.out.cell 5
            have e6 : wr.cell? ⟨w.heap.size + 1 + 1, 6, none⟩ = some (.bool mg) := Sp.out.cell 6
            have y0 : wr.cell? ⟨w.heap.size, 0, none⟩ = some (.slice none 0 0) := Sp.out.cell0 0
            have y1 : wr.cell? ⟨w.heap.size, 1, none⟩ = some (.slice none 0 0) := Sp.out.cell0 1
            have y2 : wr.cell? ⟨w.heap.size, 2, none⟩ = some (.slice none 0 0) := Sp.out.cell0 2
            have y3 : wr.cell? ⟨w.heap.size, 3, none⟩ = some (.slice none 0 0) := Sp.out.cell0 3
            have y4 : wr.cell? ⟨w.heap.size, 4, none⟩ = some (.slice none 0 0) := Sp.out.cell0 4
            have y5 : wr.cell? ⟨w.heap.size, 5, none⟩ = some (.int .i64 0) := Sp.out.cell0 5
            have y6 : wr.cell? ⟨w.heap.size, 6, none⟩ = some (.bool false) := Sp.out.cell0 6
            have y9 := Sp.out.free0
            obtain ⟨lz, bz, hrz, hσ⟩ := Sp.out.rd.open_
            obtain ⟨Az, cz, hnz, hcz, hLz, hBz, hbsz, hbz, dz1, dz2, zz1, zz2⟩ := hrz.parts
            clear hrz hbsz hbz zz1 zz2
            rcases hσ with ⟨rfl, hσ⟩ | ⟨rfl, hσ⟩
            · cases lz with
              | nil =>
                have HS9 := hid hσ
                clear hσ
                simp only [List.length_nil] at dz1
                go_wp2_with fail
                have ec := (heap_setCell_same _ _ 6 _ _ (.bool mg) (heap_setCell_same _ _ 5 _ _ (.int .i64 xn) (heap_setCell_same _ _ 4 _ _ (.slice Ap np cp) (heap_setCell_same _ _ 3 _ _ (.slice Ac nc cc) (heap_setCell_same _ _ 2 _ _ (.slice Ah nh ch) (heap_setCell_same _ _ 1 _ _ (.slice As ns cs) (heap_setCell_same _ _ 0 _ _ (.slice Ai ni ci) Sp.out.res)))))))
                have tc := ((turn_set wr w.heap.size 0 (.slice Ai ni ci)).trans ((turn_set _ w.heap.size 1 (.slice As ns cs)).trans ((turn_set _ w.heap.size 2 (.slice Ah nh ch)).trans ((turn_set _ w.heap.size 3 (.slice Ac nc cc)).trans ((turn_set _ w.heap.size 4 (.slice Ap np cp)).trans ((turn_set _ w.heap.size 5 (.int .i64 xn)).trans (turn_set _ w.heap.size 6 (.bool mg)) (fun _ _ h => h)) (fun _ _ h => h)) (fun _ _ h => h)) (fun _ _ h => h)) (fun _ _ h => h)) (fun _ _ h => h))
                have tt0 := Sp.out.turn
                have hsz := Sp.out.turn.size
                refine bodyPost_ret (results_cell_tmp rfl rfl rfl ec Try.underlying28 rfl (by kernel_rfl)) rfl ?_
                rcases code_chain HQg.out HQn.out HQi.out HQs.out HQh.out HQc.out HQp.out with ⟨gg, r1, nn, r2, ii, r3, ss, r4, hh, r5, cc, r6, pp, r7, eg, en, ei, es, eh, ec2, ep, hq⟩ | ⟨hq, ep⟩
                · have h9 := HS9.out
                  rw [ep] at h9
                  obtain rfl : r7 = [] := by injection h9
                  obtain ⟨hE, hC⟩ := dec_good HL.out hq
                  rw [hE, hC]
                  obtain rfl := HXn.out _ _ en
                  have hmgg : mg = gg := HGG.out _ _ eg
                  subst hmgg
                  refine ⟨(tt0.below (Nat.le_refl _) (fun _ _ h => h.elim)).trans (tc.below hsz (fun j hj e => by omega)), _, rfl, ?_⟩
                  have tm := tc.mono (G := fun k => k < w.heap.size + 3) (fun j _ hj => by omega)
                  have li := Ki_s9_h_c9_p.out _ tm _ _ ei
                  have ls := Ks_h_c9_p.out _ tm _ _ es
                  have lh := Kh_c9_p.out _ tm _ _ eh
                  have lc := Kc_p.out _ tm _ _ ec2
                  have lp := Kp.out _ tm _ _ ep
                  obtain ⟨zh, sh, rh⟩ := lh
                  obtain ⟨zc, sc, rc⟩ := lc
                  obtain ⟨zp, sp, rp⟩ := lp
                  exact ⟨_, _, _, _, _, zh, zc, zp, rfl, list_ints li, list_texts ls, sh, row_shapes rh, sc, row_cos rc, sp, row_procs rp⟩
                · have h9 := HS9.out
                  rw [ep] at h9
                  cases h9
              | cons y lz =>
                have HS9 := hid hσ
                have hpos : 0 < (y :: lz).length := by simp
                clear hσ
                generalize (y :: lz).length = Lz at *
                go_wp2_with fail
                have HE9 : decE l = 20 ∧ decC l = noCode := by
                  rcases code_chain HQg.out HQn.out HQi.out HQs.out HQh.out HQc.out HQp.out with ⟨gg, r1, nn, r2, ii, r3, ss, r4, hh, r5, cc, r6, pp, r7, eg, en, ei, es, eh, ec2, ep, hq⟩ | ⟨hq, ep⟩
                  · have h9 := HS9.out
                    rw [ep] at h9
                    obtain rfl : r7 = y :: lz := by injection h9
                    exact dec_left HL.out hq (by simp)
                  · exact dec_bad HL.out hq
                have ec := (heap_setCell_same _ _ 6 _ _ (.bool false) (heap_setCell_same _ _ 5 _ _ (.int .i64 0) (heap_setCell_same _ _ 4 _ _ (.slice none 0 0) (heap_setCell_same _ _ 3 _ _ (.slice none 0 0) (heap_setCell_same _ _ 2 _ _ (.slice none 0 0) (heap_setCell_same _ _ 1 _ _ (.slice none 0 0) (heap_setCell_same _ _ 0 _ _ (.slice none 0 0) Sp.out.res)))))))
                have tc := ((turn_set wr w.heap.size 0 (.slice none 0 0)).trans ((turn_set _ w.heap.size 1 (.slice none 0 0)).trans ((turn_set _ w.heap.size 2 (.slice none 0 0)).trans ((turn_set _ w.heap.size 3 (.slice none 0 0)).trans ((turn_set _ w.heap.size 4 (.slice none 0 0)).trans ((turn_set _ w.heap.size 5 (.int .i64 0)).trans (turn_set _ w.heap.size 6 (.bool false)) (fun _ _ h => h)) (fun _ _ h => h)) (fun _ _ h => h)) (fun _ _ h => h)) (fun _ _ h => h)) (fun _ _ h => h))
                have tt0 := Sp.out.turn
                have hsz := Sp.out.turn.size
                refine bodyPost_ret (results_cell_tmp rfl rfl rfl ec Try.underlying28 rfl (by kernel_rfl)) rfl ?_
                obtain ⟨hE, hC⟩ := HE9
                rw [hE, hC]
                exact ⟨(tt0.below (Nat.le_refl _) (fun _ _ h => h.elim)).trans (tc.below hsz (fun j hj e => by omega)), _, rfl, noCode_reads _ _⟩
            · have HS9 := hid hσ
              clear hσ
              go_wp2_with fail
              have HE9 : decE l = 20 ∧ decC l = noCode := by
                rcases code_chain HQg.out HQn.out HQi.out HQs.out HQh.out HQc.out HQp.out with ⟨gg, r1, nn, r2, ii, r3, ss, r4, hh, r5, cc, r6, pp, r7, eg, en, ei, es, eh, ec2, ep, hq⟩ | ⟨hq, ep⟩
                · have h9 := HS9.out
                  rw [ep] at h9
                  cases h9
                · exact dec_bad HL.out hq
              have ec := (heap_setCell_same _ _ 6 _ _ (.bool false) (heap_setCell_same _ _ 5 _ _ (.int .i64 0) (heap_setCell_same _ _ 4 _ _ (.slice none 0 0) (heap_setCell_same _ _ 3 _ _ (.slice none 0 0) (heap_setCell_same _ _ 2 _ _ (.slice none 0 0) (heap_setCell_same _ _ 1 _ _ (.slice none 0 0) (heap_setCell_same _ _ 0 _ _ (.slice none 0 0) Sp.out.res)))))))
              have tc := ((turn_set wr w.heap.size 0 (.slice none 0 0)).trans ((turn_set _ w.heap.size 1 (.slice none 0 0)).trans ((turn_set _ w.heap.size 2 (.slice none 0 0)).trans ((turn_set _ w.heap.size 3 (.slice none 0 0)).trans ((turn_set _ w.heap.size 4 (.slice none 0 0)).trans ((turn_set _ w.heap.size 5 (.int .i64 0)).trans (turn_set _ w.heap.size 6 (.bool false)) (fun _ _ h => h)) (fun _ _ h => h)) (fun _ _ h => h)) (fun _ _ h => h)) (fun _ _ h => h)) (fun _ _ h => h))
              have tt0 := Sp.out.turn
              have hsz := Sp.out.turn.size
              refine bodyPost_ret (results_cell_tmp rfl rfl rfl ec Try.underlying28 rfl (by kernel_rfl)) rfl ?_
              obtain ⟨hE, hC⟩ := HE9
              rw [hE, hC]
              exact ⟨(tt0.below (Nat.le_refl _) (fun _ _ h => h.elim)).trans (tc.below hsz (fun j hj e => by omega)), _, rfl, noCode_reads _ _⟩
    · obtain rfl : i = mh := by omega
      have hb2 := hat.done
      clear hat
      have Sh := hid (Ss9.out.loop FX.out hb2.1 hb2.rs HARR.out)
      have Ki_s9_h := hid (Ki_s9.out.loop FX.out hb2.1)
      have Ks_h := hid (Ks.out.loop FX.out hb2.1)
      have Kh := hid (hb2.held (M := w.heap.size + 3) Ss9.out.size)
      clear hb2
      have Cc := hid (socos_any 40 wr (w.heap.size + 1) w.heap.size _ Sh.out.rd HC40.out)
      go_wp2_with fail
      refine Cc.out.mono ?_
      rintro e wc ⟨vc, rfl, h2⟩
      obtain ⟨qc, hq⟩ : ∃ qc, (qh.map (·.2)).bind (allD (coD 40)) = qc := ⟨_, rfl⟩
      rw [hq] at h2
      have HQc := hid hq
      obtain ⟨Ac, nc, cc, rfl⟩ : IsSlice vc := h2.shape (fun _ _ h => list_shape h) (fun h => h)
      have Sc := hid (Sh.out.call FX.out h2.1 h2.rs)
      have Ki_s9_h_c := hid (Ki_s9_h.out.call FX.out h2.1)
      have Ks_h_c := hid (Ks_h.out.call FX.out h2.1)
      have Kh_c := hid (Kh.out.call FX.out h2.1)
      have Kc0 := hid (h2.held (M := w.heap.size + 3) Sh.out.size)
      have e0 : wc.cell? ⟨w.heap.size + 1 + 1, 0, none⟩ = some (.slice Ai ni ci) := Sc.out.cell 0
      have e1 : wc.cell? ⟨w.heap.size + 1 + 1, 1, none⟩ = some (.slice As ns cs) := Sc.out.cell 1
      have e2 : wc.cell? ⟨w.heap.size + 1 + 1, 2, none⟩ = some (.slice Ah nh ch) := Sc.out.cell 2
      have e3 : wc.cell? ⟨w.heap.size + 1 + 1, 3, none⟩ = some (.slice none 0 0) := Sc.out.cell 3
      have e4 : wc.cell? ⟨w.heap.size + 1 + 1, 4, none⟩ = some (.slice none 0 0) := Sc.out.cell 4
      have e5 : wc.cell? ⟨w.heap.size + 1 + 1, 5, none⟩ = some (.int .i64 xn) := Sc.out.cell 5
      have e6 : wc.cell? ⟨w.heap.size + 1 + 1, 6, none⟩ = some (.bool mg) := Sc.out.cell 6
      have z0 := Sc.out.free
      clear h2 hq Cc
      have Sc9 := hid (Sc.out.set FX.out 3 (.slice Ac nc cc))
      have Ki_s9_h_c9 := hid (Ki_s9_h_c.out.set FX.out 3 (.slice Ac nc cc))
      have Ks_h_c9 := hid (Ks_h_c.out.set FX.out 3 (.slice Ac nc cc))
      have Kh_c9 := hid (Kh_c.out.set FX.out 3 (.slice Ac nc cc))
      have Kc := hid (Kc0.out.set FX.out 3 (.slice Ac nc cc))
      have Cn := hid (somany_any (wc.setCell ⟨w.heap.size + 1 + 1, 3, none⟩ (.slice Ac nc cc)) (w.heap.size + 1) w.heap.size _ Sc9.out.rd)
      go_wp2_with fail
      clear e0 e1 e2 e3 e4 e5 e6 z0
      refine Cn.out.mono ?_
      rintro e wn ⟨vn, rfl, h2⟩
      obtain ⟨Wp, hW⟩ : ∃ Wp, (wc.setCell ⟨w.heap.size + 1 + 1, 3, none⟩ (.slice Ac nc cc)) = Wp := ⟨_, rfl⟩
      rw [hW] at h2 Sc9 Ki_s9_h_c9 Ks_h_c9 Kh_c9 Kc
      clear hW Cn
      obtain ⟨mp, rfl, hn0, hst⟩ := lo_start (k := 3) (T := 47) (R := RProc) (d1 := procD) (F := (fun k => k = (w.heap.size + 1) ∨ k = w.heap.size + 1 + 1)) h2 (h2.1.mono fun j _ hj => .inl hj)
      obtain ⟨qp, hq⟩ : ∃ qp, (qc.map (·.2)).bind (allD procD) = qp := ⟨_, rfl⟩
      rw [hq] at hst
      have HQp := hid hq
      have HST := hid hst
      have HAR := hid (Sc9.out.call FX.out h2.1 h2.rs).arr
      have HFS : Hid (∀ j, (j = (w.heap.size + 1) ∨ j = w.heap.size + 1 + 1) → j < Wp.heap.size) := hid (fun j hj => by have := Sc9.out.size; have := FX.out.km; have := FX.out.vm; rcases hj with rfl | rfl <;> omega)
      clear h2 hst hq
      go_wp2_with fail
      go_loopw [10] (fun v10 wr => ∃ (i : Nat) (v : Value), v10 = .int .i64 (i : Int) ∧ i ≤ mp ∧ LoS 3 47 RProc procD (fun k => k = (w.heap.size + 1) ∨ k = w.heap.size + 1 + 1) Wp (w.heap.size + 1) w.heap.size mp qp wr v i ∧ wr.heap[w.heap.size + 1 + 1]? = some (.cells #[.slice Ai ni ci, .slice As ns cs, .slice Ah nh ch, .slice Ac nc cc, v, .int .i64 xn, .bool mg] 28 (0, 0))) (fun v10 _ => mp - (intOf v10).toNat)
      case atStart => exact ⟨0, _, rfl, by omega, HST.out, HAR.out⟩
      case round =>
        obtain ⟨i, v, rfl, hi, hat, har⟩ := hrel
        obtain ⟨Ap, np, cp, rfl⟩ := hat.shape
        have HARR := hid har
        clear har
        by_cases hlt : i < mp
        · have hlt1 := hlt
          rcases hat with ⟨ys, xs, r, hat⟩ | hat
          · obtain ⟨A, c, hn1, hc1, hL1, hB1, hbs, hb, d1, d2, z1, z2⟩ := hat.rd.parts
            have HAT := hid hat
            clear hat hbs hb d1 z1 z2
            have HN := hid (soproc_any wr (w.heap.size + 1) w.heap.size (some r) HAT.out.rd)
            go_wp2_with fail
            refine HN.out.mono ?_
            rintro e w5 ⟨vs, rfl, h45⟩
            have h45 : SobR _ _ (w.heap.size + 1) w.heap.size wr (procD r) vs w5 := h45
            obtain ⟨xa, xb, At, nt, ct, rfl⟩ : IsProc vs := h45.shape (fun _ _ h => proc_of h) (fun h => h)
            clear HN d2
            have H45 := hid h45
            have hsz5 : Wp.heap.size ≤ (w5).heap.size := Nat.le_trans HAT.out.turn.size h45.1.size
            have HROW5 := hid (own_turn HAT.out.row h45.1 (fun g hg e => by have := (HAT.out.row.lt g hg).1; have := HFS.out _ (.inl e); omega))
            have harr5 := block_turn HARR.out h45.1 (Ne.symm FX.out.kv)
            have HARR5 := hid harr5
            have k1 : w5.cell? ⟨w.heap.size + 1 + 1, 4, none⟩ = some (.slice Ap np cp) := (cell_of_row _ _ _ _ _ _ harr5).trans rfl
            have hbv5 : w.heap.size + 1 + 1 < w5.heap.size := block_lt harr5
            have HIL := HAT.out.row.1
            have H1 : Hid (∀ u ∈ ([Value.int .i64 xa, .int .i64 xb, .slice At nt ct] : List Value), u.oneCell' = true) := hid (by intro u hu; simp only [List.mem_cons, List.not_mem_nil, or_false] at hu; rcases hu with rfl | rfl | rfl <;> rfl)
            clear h45 harr5
            go_wp2_with (at_builtin; go_must (refine wpList_app rfl _ _ _ rfl Wp.heap.size el_rd_proc _ _ rfl rfl ((HROW5.out.alloc _).alloc _) (sl_new2 w5 _ _ _ 3 1 rfl (by decide)) H1.out (by simp [maxLen]; omega) (by simp; omega) (le_alloc (le_alloc hsz5 _) _) (fun v9 w9 n9 hown9 hg9 hbk9 => ?_)); have HS9 := hid (lo_next HAT.out HFS.out (.inl rfl) hlt1 H45.out (z := [Value.int .i64 xa, .int .i64 xb, .slice At nt ct]) rfl (fun w x h => elk_cells h) (((Below.refl _ _).alloc (Nat.le_refl _) _).alloc (le_alloc (Nat.le_refl _) _) _) hg9 (by have h9 := hown9.1; simp at h9 HIL; omega) hown9 hbk9); obtain ⟨A9, m9, c9, rfl⟩ := sl_shape (Sl.of_own hown9); have har9 := block_turn HARR5.out ((Turn.of_below (F := fun k => Value.ownBlock (.slice Ap np cp) = some k) (((Below.refl w5.heap.size w5).alloc (Nat.le_refl _) _).alloc (le_alloc (Nat.le_refl _) _) _)).trans (Turn.of_grown hg9 (fun j hj => hj)) (fun _ _ h => h)) (fun e => by have := (HAT.out.row.lt _ e).1; have := HFS.out _ (.inr rfl); omega); have k9 : w9.cell? ⟨w.heap.size + 1 + 1, 4, none⟩ = some (.slice Ap np cp) := (cell_of_row _ _ _ _ _ _ har9).trans rfl; have f9 := block_free har9 4; have HAR9 := hid har9; clear hown9 hg9 hbk9 har9)
            refine ⟨⟨i + 1, _, rfl, by omega, lo_set HS9.out (.inr rfl) FX.out.kv FX.out.bb (HFS.out _ (.inr rfl)), heap_setCell_same _ _ 4 _ _ _ HAR9.out⟩, ?_⟩
            simp [intOf]; omega
          · obtain ⟨l8, hl⟩ := hat.rd
            obtain ⟨A, c, hn1, hc1, hL1, hB1, hbs, hb, d1, d2, z1, z2⟩ := hl.parts
            have hb2 := LoB.done (k := 3) (R := RProc) hat
            have HQN := hid hat.eq
            clear hat hbs hb d1 z1 z2 hl
            have Sp := hid (Sc9.out.loop FX.out hb2.1 hb2.rs HARR.out)
            have Ki_s9_h_c9_p := hid (Ki_s9_h_c9.out.loop FX.out hb2.1)
            have Ks_h_c9_p := hid (Ks_h_c9.out.loop FX.out hb2.1)
            have Kh_c9_p := hid (Kh_c9.out.loop FX.out hb2.1)
            have Kc_p := hid (Kc.out.loop FX.out hb2.1)
            have Kp := hid (hb2.held (M := w.heap.size + 3) Sc9.out.size)
            clear hb2
            have e0 : wr.cell? ⟨w.heap.size + 1 + 1, 0, none⟩ = some (.slice Ai ni ci) := Sp.out.cell 0
            have e1 : wr.cell? ⟨w.heap.size + 1 + 1, 1, none⟩ = some (.slice As ns cs) := Sp.out.cell 1
            have e2 : wr.cell? ⟨w.heap.size + 1 + 1, 2, none⟩ = some (.slice Ah nh ch) := Sp.out.cell 2
            have e3 : wr.cell? ⟨w.heap.size + 1 + 1, 3, none⟩ = some (.slice Ac nc cc) := Sp.out.cell 3
            have e4 : wr.cell? ⟨w.heap.size + 1 + 1, 4, none⟩ = some (.slice Ap np cp) := Sp.out.cell 4
            have e5 : wr.cell? ⟨w.heap.size + 1 + 1, 5, none⟩ = some (.int .i64 xn) := Sp.out.cell 5
            have e6 : wr.cell? ⟨w.heap.size + 1 + 1, 6, none⟩ = some (.bool mg) := Sp.out.cell 6
            have y0 : wr.cell? ⟨w.heap.size, 0, none⟩ = some (.slice none 0 0) := Sp.out.cell0 0
            have y1 : wr.cell? ⟨w.heap.size, 1, none⟩ = some (.slice none 0 0) := Sp.out.cell0 1
            have y2 : wr.cell? ⟨w.heap.size, 2, none⟩ = some (.slice none 0 0) := Sp.out.cell0 2
            have y3 : wr.cell? ⟨w.heap.size, 3, none⟩ = some (.slice none 0 0) := Sp.out.cell0 3
            have y4 : wr.cell? ⟨w.heap.size, 4, none⟩ = some (.slice none 0 0) := Sp.out.cell0 4
            have y5 : wr.cell? ⟨w.heap.size, 5, none⟩ = some (.int .i64 0) := Sp.out.cell0 5
            have y6 : wr.cell? ⟨w.heap.size, 6, none⟩ = some (.bool false) := Sp.out.cell0 6
            have y9 := Sp.out.free0
            go_wp2_with fail
            have HE9 : decE l = 20 ∧ decC l = noCode := by
              rcases code_chain HQg.out HQn.out HQi.out HQs.out HQh.out HQc.out HQp.out with ⟨gg, r1, nn, r2, ii, r3, ss, r4, hh, r5, cc, r6, pp, r7, eg, en, ei, es, eh, ec2, ep, hq⟩ | ⟨hq, ep⟩
              · have h9 := HQN.out
                rw [ep] at h9
                cases h9
              · exact dec_bad HL.out hq
            have ec := (heap_setCell_same _ _ 6 _ _ (.bool false) (heap_setCell_same _ _ 5 _ _ (.int .i64 0) (heap_setCell_same _ _ 4 _ _ (.slice none 0 0) (heap_setCell_same _ _ 3 _ _ (.slice none 0 0) (heap_setCell_same _ _ 2 _ _ (.slice none 0 0) (heap_setCell_same _ _ 1 _ _ (.slice none 0 0) (heap_setCell_same _ _ 0 _ _ (.slice none 0 0) Sp.out.res)))))))
            have tc := ((turn_set wr w.heap.size 0 (.slice none 0 0)).trans ((turn_set _ w.heap.size 1 (.slice none 0 0)).trans ((turn_set _ w.heap.size 2 (.slice none 0 0)).trans ((turn_set _ w.heap.size 3 (.slice none 0 0)).trans ((turn_set _ w.heap.size 4 (.slice none 0 0)).trans ((turn_set _ w.heap.size 5 (.int .i64 0)).trans (turn_set _ w.heap.size 6 (.bool false)) (fun _ _ h => h)) (fun _ _ h => h)) (fun _ _ h => h)) (fun _ _ h => h)) (fun _ _ h => h)) (fun _ _ h => h))
            have tt0 := Sp.out.turn
            have hsz := Sp.out.turn.size
            refine bodyPost_ret (results_cell_tmp rfl rfl rfl ec Try.underlying28 rfl (by kernel_rfl)) rfl ?_
            obtain ⟨hE, hC⟩ := HE9
            rw [hE, hC]
            exact ⟨(tt0.below (Nat.le_refl _) (fun _ _ h => h.elim)).trans (tc.below hsz (fun j hj e => by omega)), _, rfl, noCode_reads _ _⟩
        · obtain rfl : i = mp := by omega
          have hb2 := hat.done
          clear hat
          have Sp := hid (Sc9.out.loop FX.out hb2.1 hb2.rs HARR.out)
          have Ki_s9_h_c9_p := hid (Ki_s9_h_c9.out.loop FX.out hb2.1)
          have Ks_h_c9_p := hid (Ks_h_c9.out.loop FX.out hb2.1)
          have Kh_c9_p := hid (Kh_c9.out.loop FX.out hb2.1)
          have Kc_p := hid (Kc.out.loop FX.out hb2.1)
          have Kp := hid (hb2.held (M := w.heap.size + 3) Sc9.out.size)
          clear hb2
          have e0 : wr.cell? ⟨w.heap.size + 1 + 1, 0, none⟩ = some (.slice Ai ni ci) := Sp.out.cell 0
          have e1 : wr.cell? ⟨w.heap.size + 1 + 1, 1, none⟩ = some (.slice As ns cs) := Sp.out.cell 1
          have e2 : wr.cell? ⟨w.heap.size + 1 + 1, 2, none⟩ = some (.slice Ah nh ch) := Sp.out.cell 2
          have e3 : wr.cell? ⟨w.heap.size + 1 + 1, 3, none⟩ = some (.slice Ac nc cc) := Sp.out.cell 3
          have e4 : wr.cell? ⟨w.heap.size + 1 + 1, 4, none⟩ = some (.slice Ap np cp) := Sp.out.cell 4
          have e5 : wr.cell? ⟨w.heap.size + 1 + 1, 5, none⟩ = some (.int .i64 xn) := Sp.out.cell 5
          have e6 : wr.cell? ⟨w.heap.size + 1 + 1, 6, none⟩ = some (.bool mg) := Sp.out.cell 6
          have y0 : wr.cell? ⟨w.heap.size, 0, none⟩ = some (.slice none 0 0) := Sp.out.cell0 0
          have y1 : wr.cell? ⟨w.heap.size, 1, none⟩ = some (.slice none 0 0) := Sp.out.cell0 1
          have y2 : wr.cell? ⟨w.heap.size, 2, none⟩ = some (.slice none 0 0) := Sp.out.cell0 2
          have y3 : wr.cell? ⟨w.heap.size, 3, none⟩ = some (.slice none 0 0) := Sp.out.cell0 3
          have y4 : wr.cell? ⟨w.heap.size, 4, none⟩ = some (.slice none 0 0) := Sp.out.cell0 4
          have y5 : wr.cell? ⟨w.heap.size, 5, none⟩ = some (.int .i64 0) := Sp.out.cell0 5
          have y6 : wr.cell? ⟨w.heap.size, 6, none⟩ = some (.bool false) := Sp.out.cell0 6
          have y9 := Sp.out.free0
          obtain ⟨lz, bz, hrz, hσ⟩ := Sp.out.rd.open_
          obtain ⟨Az, cz, hnz, hcz, hLz, hBz, hbsz, hbz, dz1, dz2, zz1, zz2⟩ := hrz.parts
          clear hrz hbsz hbz zz1 zz2
          rcases hσ with ⟨rfl, hσ⟩ | ⟨rfl, hσ⟩
          · cases lz with
            | nil =>
              have HS9 := hid hσ
              clear hσ
              simp only [List.length_nil] at dz1
              go_wp2_with fail
              have ec := (heap_setCell_same _ _ 6 _ _ (.bool mg) (heap_setCell_same _ _ 5 _ _ (.int .i64 xn) (heap_setCell_same _ _ 4 _ _ (.slice Ap np cp) (heap_setCell_same _ _ 3 _ _ (.slice Ac nc cc) (heap_setCell_same _ _ 2 _ _ (.slice Ah nh ch) (heap_setCell_same _ _ 1 _ _ (.slice As ns cs) (heap_setCell_same _ _ 0 _ _ (.slice Ai ni ci) Sp.out.res)))))))
              have tc := ((turn_set wr w.heap.size 0 (.slice Ai ni ci)).trans ((turn_set _ w.heap.size 1 (.slice As ns cs)).trans ((turn_set _ w.heap.size 2 (.slice Ah nh ch)).trans ((turn_set _ w.heap.size 3 (.slice Ac nc cc)).trans ((turn_set _ w.heap.size 4 (.slice Ap np cp)).trans ((turn_set _ w.heap.size 5 (.int .i64 xn)).trans (turn_set _ w.heap.size 6 (.bool mg)) (fun _ _ h => h)) (fun _ _ h => h)) (fun _ _ h => h)) (fun _ _ h => h)) (fun _ _ h => h)) (fun _ _ h => h))
              have tt0 := Sp.out.turn
              have hsz := Sp.out.turn.size
              refine bodyPost_ret (results_cell_tmp rfl rfl rfl ec Try.underlying28 rfl (by kernel_rfl)) rfl ?_
              rcases code_chain HQg.out HQn.out HQi.out HQs.out HQh.out HQc.out HQp.out with ⟨gg, r1, nn, r2, ii, r3, ss, r4, hh, r5, cc, r6, pp, r7, eg, en, ei, es, eh, ec2, ep, hq⟩ | ⟨hq, ep⟩
              · have h9 := HS9.out
                rw [ep] at h9
                obtain rfl : r7 = [] := by injection h9
                obtain ⟨hE, hC⟩ := dec_good HL.out hq
                rw [hE, hC]
                obtain rfl := HXn.out _ _ en
                have hmgg : mg = gg := HGG.out _ _ eg
                subst hmgg
                refine ⟨(tt0.below (Nat.le_refl _) (fun _ _ h => h.elim)).trans (tc.below hsz (fun j hj e => by omega)), _, rfl, ?_⟩
                have tm := tc.mono (G := fun k => k < w.heap.size + 3) (fun j _ hj => by omega)
                have li := Ki_s9_h_c9_p.out _ tm _ _ ei
                have ls := Ks_h_c9_p.out _ tm _ _ es
                have lh := Kh_c9_p.out _ tm _ _ eh
                have lc := Kc_p.out _ tm _ _ ec2
                have lp := Kp.out _ tm _ _ ep
                obtain ⟨zh, sh, rh⟩ := lh
                obtain ⟨zc, sc, rc⟩ := lc
                obtain ⟨zp, sp, rp⟩ := lp
                exact ⟨_, _, _, _, _, zh, zc, zp, rfl, list_ints li, list_texts ls, sh, row_shapes rh, sc, row_cos rc, sp, row_procs rp⟩
              · have h9 := HS9.out
                rw [ep] at h9
                cases h9
            | cons y lz =>
              have HS9 := hid hσ
              have hpos : 0 < (y :: lz).length := by simp
              clear hσ
              generalize (y :: lz).length = Lz at *
              go_wp2_with fail
              have HE9 : decE l = 20 ∧ decC l = noCode := by
                rcases code_chain HQg.out HQn.out HQi.out HQs.out HQh.out HQc.out HQp.out with ⟨gg, r1, nn, r2, ii, r3, ss, r4, hh, r5, cc, r6, pp, r7, eg, en, ei, es, eh, ec2, ep, hq⟩ | ⟨hq, ep⟩
                · have h9 := HS9.out
                  rw [ep] at h9
                  obtain rfl : r7 = y :: lz := by injection h9
                  exact dec_left HL.out hq (by simp)
                · exact dec_bad HL.out hq
              have ec := (heap_setCell_same _ _ 6 _ _ (.bool false) (heap_setCell_same _ _ 5 _ _ (.int .i64 0) (heap_setCell_same _ _ 4 _ _ (.slice none 0 0) (heap_setCell_same _ _ 3 _ _ (.slice none 0 0) (heap_setCell_same _ _ 2 _ _ (.slice none 0 0) (heap_setCell_same _ _ 1 _ _ (.slice none 0 0) (heap_setCell_same _ _ 0 _ _ (.slice none 0 0) Sp.out.res)))))))
              have tc := ((turn_set wr w.heap.size 0 (.slice none 0 0)).trans ((turn_set _ w.heap.size 1 (.slice none 0 0)).trans ((turn_set _ w.heap.size 2 (.slice none 0 0)).trans ((turn_set _ w.heap.size 3 (.slice none 0 0)).trans ((turn_set _ w.heap.size 4 (.slice none 0 0)).trans ((turn_set _ w.heap.size 5 (.int .i64 0)).trans (turn_set _ w.heap.size 6 (.bool false)) (fun _ _ h => h)) (fun _ _ h => h)) (fun _ _ h => h)) (fun _ _ h => h)) (fun _ _ h => h)) (fun _ _ h => h))
              have tt0 := Sp.out.turn
              have hsz := Sp.out.turn.size
              refine bodyPost_ret (results_cell_tmp rfl rfl rfl ec Try.underlying28 rfl (by kernel_rfl)) rfl ?_
              obtain ⟨hE, hC⟩ := HE9
              rw [hE, hC]
              exact ⟨(tt0.below (Nat.le_refl _) (fun _ _ h => h.elim)).trans (tc.below hsz (fun j hj e => by omega)), _, rfl, noCode_reads _ _⟩
          · have HS9 := hid hσ
            clear hσ
            go_wp2_with fail
            have HE9 : decE l = 20 ∧ decC l = noCode := by
              rcases code_chain HQg.out HQn.out HQi.out HQs.out HQh.out HQc.out HQp.out with ⟨gg, r1, nn, r2, ii, r3, ss, r4, hh, r5, cc, r6, pp, r7, eg, en, ei, es, eh, ec2, ep, hq⟩ | ⟨hq, ep⟩
              · have h9 := HS9.out
                rw [ep] at h9
                cases h9
              · exact dec_bad HL.out hq
            have ec := (heap_setCell_same _ _ 6 _ _ (.bool false) (heap_setCell_same _ _ 5 _ _ (.int .i64 0) (heap_setCell_same _ _ 4 _ _ (.slice none 0 0) (heap_setCell_same _ _ 3 _ _ (.slice none 0 0) (heap_setCell_same _ _ 2 _ _ (.slice none 0 0) (heap_setCell_same _ _ 1 _ _ (.slice none 0 0) (heap_setCell_same _ _ 0 _ _ (.slice none 0 0) Sp.out.res)))))))
            have tc := ((turn_set wr w.heap.size 0 (.slice none 0 0)).trans ((turn_set _ w.heap.size 1 (.slice none 0 0)).trans ((turn_set _ w.heap.size 2 (.slice none 0 0)).trans ((turn_set _ w.heap.size 3 (.slice none 0 0)).trans ((turn_set _ w.heap.size 4 (.slice none 0 0)).trans ((turn_set _ w.heap.size 5 (.int .i64 0)).trans (turn_set _ w.heap.size 6 (.bool false)) (fun _ _ h => h)) (fun _ _ h => h)) (fun _ _ h => h)) (fun _ _ h => h)) (fun _ _ h => h)) (fun _ _ h => h))
            have tt0 := Sp.out.turn
            have hsz := Sp.out.turn.size
            refine bodyPost_ret (results_cell_tmp rfl rfl rfl ec Try.underlying28 rfl (by kernel_rfl)) rfl ?_
            obtain ⟨hE, hC⟩ := HE9
            rw [hE, hC]
            exact ⟨(tt0.below (Nat.le_refl _) (fun _ _ h => h.elim)).trans (tc.below hsz (fun j hj e => by omega)), _, rfl, noCode_reads _ _⟩
end Go.Proofs.Ytpnggkkfoipfhaa
