/- A reader of bytes: a code, to the end. -/
import Derived.Test.YtpnggkkfoipfhaaCE
set_option linter.unusedVariables false
namespace Go.Proofs.Ytpnggkkfoipfhaa
open Go.RowKit

/-- A code's seven cells. -/
def RCode (w : World) (v : Value) (c : CodeD) : Prop := ∃ z : List Value, v = .agg z.toArray ∧ CodeR w w.heap.size z c
def wholeO (l : Bt) : Option (CodeD × Bt) := (wholeD l).map fun c => (c, [])
theorem wholeO_none {l : Bt} (h : codeD l = none) : wholeO l = none := by unfold wholeO wholeD; rw [h]; rfl
theorem wholeO_left {l : Bt} {c : CodeD} {r : Bt} (h : codeD l = some (c, r)) (hr : r ≠ []) : wholeO l = none := by
  unfold wholeO wholeD; rw [h]
  cases r with
  | nil => exact absurd rfl hr
  | cons a r => rfl
theorem wholeO_some {l : Bt} {c : CodeD} (h : codeD l = some (c, [])) : wholeO l = some (c, []) := by unfold wholeO wholeD; rw [h]; rfl
theorem rdshapes_any (w : World) (bk B : Nat) (l : Bt) (d : Int) (hR : RdAt w bk B l d) :
    Calls Try.prog 54 #[.pointer (some ⟨bk, 0, none⟩), .func (.func 53) #[.pointer (some ⟨bk, 0, none⟩)] #[]] w fun e w' => ReadsTo (ListP 1 RTexts) bk B d w (allD (allD textD) l) e w' :=
  all_texts_any (allD textD) RTexts w bk B l d hR (fun w1 l1 h => (rdtexts_any w1 bk B l1 d h).mono fun _ _ h => h.mono_ fun _ v x _ _ hv => ⟨sl_shape hv, v, rfl, hv⟩)
theorem rdprocs_any (w : World) (bk B : Nat) (l : Bt) (d : Int) (hR : RdAt w bk B l d) :
    Calls Try.prog 57 #[.pointer (some ⟨bk, 0, none⟩), .func (.func 58) #[.pointer (some ⟨bk, 0, none⟩)] #[]] w fun e w' => ReadsTo (ListP 3 RProc) bk B d w (allD procD l) e w' :=
  all_proc_any procD RProc w bk B l d hR (fun w1 l1 h => rdproc_any w1 bk B l1 d h)
theorem rdcosall_any (w : World) (bk B : Nat) (l : Bt) (hR : RdAt w bk B l 0) :
    Calls Try.prog 55 #[.pointer (some ⟨bk, 0, none⟩), .func (.func 56) #[.pointer (some ⟨bk, 0, none⟩)] #[]] w fun e w' => ReadsTo (ListP 5 RCo) bk B 0 w (allD (coD 40) l) e w' :=
  rdcos_of 40 0 w bk B l hR (fun w bk B l h => rdco_any 40 w bk B l 0 (by omega) (by omega) h)
set_option maxRecDepth 100000 in
set_option maxHeartbeats 8000000 in
theorem rdcode_0 (w : World) (bk B : Nat) (l : Bt) (hR : RdAt w bk B l 0) (rm : Bt) (hm : numD l = some (0, rm)) :
    Calls Try.prog 30 #[.pointer (some ⟨bk, 0, none⟩)] w fun e w' => ReadsTo RCode bk B 0 w (wholeO l) e w' := by
  have hmf : ∀ (fn : Fn) (first cap : Array Value) (w : World), (Instr.makeFunc fn first cap).run Try.prog w = .ok (.func fn first cap) w := fun _ _ _ _ => rfl
  have hmg : mergeD l = some (false, rm) := by unfold mergeD; rw [hm]; rfl
  have HMG := hid hmg
  have HM := hid hm
  clear hm hmg
  have S0 := hid (StAt.start (T := 28) #[(.slice none 0 0), (.slice none 0 0), (.slice none 0 0), (.slice none 0 0), (.slice none 0 0), (.int .i64 0), (.bool false)] hR)
  have CM := hid (rdnum_any ((w.alloc (.cells #[(.slice none 0 0), (.slice none 0 0), (.slice none 0 0), (.slice none 0 0), (.slice none 0 0), (.int .i64 0), (.bool false)] 28)).alloc (.cells #[(.slice none 0 0), (.slice none 0 0), (.slice none 0 0), (.slice none 0 0), (.slice none 0 0), (.int .i64 0), (.bool false)] 28)) bk B l 0 S0.out.rd)
  clear hR
  go_enter Try.func30, Try.ntmps30
  go_wp2_with fail
  refine CM.out.mono ?_
  rintro e wm h2
  obtain ⟨vm, rfl, t2, hv, hr2⟩ := h2.some_ HM.out
  obtain rfl := hv _ (Turn.refl _ _)
  have Sm := hid (S0.out.call t2 hr2)
  have c6 : wm.cell? ⟨w.heap.size + 1, 6, none⟩ = some (.bool false) := Sm.out.cell 6
  have z0 := Sm.out.free
  have Sm9 := hid (Sm.out.set 6 (.bool false))
  clear h2 hv t2 hr2 CM
  go_wp2_with fail
  refine (must_yes _).mono ?_
  rintro e wm ⟨rfl, rfl⟩
  have Cn := hid (rdnum_any (wm.setCell ⟨w.heap.size + 1, 6, none⟩ (.bool false)) bk B rm 0 Sm9.out.rd)
  go_wp2_with fail
  refine Cn.out.mono ?_
  rintro e wn h2
  rcases hx : numD rm with _ | ⟨xn, rn⟩
  · obtain ⟨rfl, t2⟩ := h2.none_ hx
    have HXn := hid hx
    clear hx h2 Cn
    go_wp2_with fail
    exact ⟨rfl, ReadsTo.fail (wholeO_none (by simp only [codeD, mapD, andD, HMG.out, HXn.out])) (turn_same Sm9.out.turn t2)⟩
  obtain ⟨vn, rfl, t2, hv, hr2⟩ := h2.some_ hx
  have HXn := hid hx
  obtain rfl := hv _ (Turn.refl _ _)
  have Sn := hid (Sm9.out.call t2 hr2)
  have c5 : wn.cell? ⟨w.heap.size + 1, 5, none⟩ = some (.int .i64 0) := Sn.out.cell 5
  have z0 := Sn.out.free
  clear hx h2 hv hr2 t2 Cn
  have Sn9 := hid (Sn.out.set 5 (.int .i64 xn))
  have Ci := hid (rdints_any (wn.setCell ⟨w.heap.size + 1, 5, none⟩ (.int .i64 xn)) bk B rn 0 Sn9.out.rd)
  go_wp2_with fail
  refine Ci.out.mono ?_
  rintro e wi h2
  rcases hx : allD numD rn with _ | ⟨xi, ri⟩
  · obtain ⟨rfl, t2⟩ := h2.none_ hx
    have HXi := hid hx
    clear hx h2 Ci
    go_wp2_with fail
    exact ⟨rfl, ReadsTo.fail (wholeO_none (by simp only [codeD, mapD, andD, HMG.out, HXn.out, HXi.out])) (turn_same Sn9.out.turn t2)⟩
  obtain ⟨vi, rfl, t2, hv, hr2⟩ := h2.some_ hx
  have HXi := hid hx
  obtain ⟨Ai, ni, ci, rfl⟩ := sl_shape (hv _ (Turn.refl _ _))
  have Si := hid (Sn9.out.call t2 hr2)
  have Kii := hid (Held.new (w := w) hv Sn9.out.size)
  have c0 : wi.cell? ⟨w.heap.size + 1, 0, none⟩ = some (.slice none 0 0) := Si.out.cell 0
  have z0 := Si.out.free
  clear hx h2 hv hr2 t2 Ci
  have Si9 := hid (Si.out.set 0 (.slice Ai ni ci))
  have Kii9 := hid (Held.set Kii.out 0 (.slice Ai ni ci))
  have Cs := hid (rdtexts_any (wi.setCell ⟨w.heap.size + 1, 0, none⟩ (.slice Ai ni ci)) bk B ri 0 Si9.out.rd)
  go_wp2_with fail
  refine Cs.out.mono ?_
  rintro e ws h2
  rcases hx : allD textD ri with _ | ⟨xs, rs⟩
  · obtain ⟨rfl, t2⟩ := h2.none_ hx
    have HXs := hid hx
    clear hx h2 Cs
    go_wp2_with fail
    exact ⟨rfl, ReadsTo.fail (wholeO_none (by simp only [codeD, mapD, andD, HMG.out, HXn.out, HXi.out, HXs.out])) (turn_same Si9.out.turn t2)⟩
  obtain ⟨vs, rfl, t2, hv, hr2⟩ := h2.some_ hx
  have HXs := hid hx
  obtain ⟨As, ns, cs, rfl⟩ := sl_shape (hv _ (Turn.refl _ _))
  have Ss := hid (Si9.out.call t2 hr2)
  have Kis := hid (Held.call Kii9.out Si9.out.hbk t2)
  have Kss := hid (Held.new (w := w) hv Si9.out.size)
  have c1 : ws.cell? ⟨w.heap.size + 1, 1, none⟩ = some (.slice none 0 0) := Ss.out.cell 1
  have z0 := Ss.out.free
  clear hx h2 hv hr2 t2 Cs
  have Ss9 := hid (Ss.out.set 1 (.slice As ns cs))
  have Kis9 := hid (Held.set Kis.out 1 (.slice As ns cs))
  have Kss9 := hid (Held.set Kss.out 1 (.slice As ns cs))
  have Ch := hid (rdshapes_any (ws.setCell ⟨w.heap.size + 1, 1, none⟩ (.slice As ns cs)) bk B rs 0 Ss9.out.rd)
  go_wp2_with fail
  refine Ch.out.mono ?_
  rintro e wh h2
  rcases hx : allD (allD textD) rs with _ | ⟨xh, rh⟩
  · obtain ⟨rfl, t2⟩ := h2.none_ hx
    have HXh := hid hx
    clear hx h2 Ch
    go_wp2_with fail
    exact ⟨rfl, ReadsTo.fail (wholeO_none (by simp only [codeD, mapD, andD, HMG.out, HXn.out, HXi.out, HXs.out, HXh.out])) (turn_same Ss9.out.turn t2)⟩
  obtain ⟨vh, rfl, t2, hv, hr2⟩ := h2.some_ hx
  have HXh := hid hx
  obtain ⟨Ah, nh, ch, rfl⟩ := list_shape (hv _ (Turn.refl _ _))
  have Sh := hid (Ss9.out.call t2 hr2)
  have Kih := hid (Held.call Kis9.out Ss9.out.hbk t2)
  have Ksh := hid (Held.call Kss9.out Ss9.out.hbk t2)
  have Khh := hid (Held.new (w := w) hv Ss9.out.size)
  have c2 : wh.cell? ⟨w.heap.size + 1, 2, none⟩ = some (.slice none 0 0) := Sh.out.cell 2
  have z0 := Sh.out.free
  clear hx h2 hv hr2 t2 Ch
  have Sh9 := hid (Sh.out.set 2 (.slice Ah nh ch))
  have Kih9 := hid (Held.set Kih.out 2 (.slice Ah nh ch))
  have Ksh9 := hid (Held.set Ksh.out 2 (.slice Ah nh ch))
  have Khh9 := hid (Held.set Khh.out 2 (.slice Ah nh ch))
  have Cc := hid (rdcosall_any (wh.setCell ⟨w.heap.size + 1, 2, none⟩ (.slice Ah nh ch)) bk B rh Sh9.out.rd)
  go_wp2_with fail
  refine Cc.out.mono ?_
  rintro e wc h2
  rcases hx : allD (coD 40) rh with _ | ⟨xc, rc⟩
  · obtain ⟨rfl, t2⟩ := h2.none_ hx
    have HXc := hid hx
    clear hx h2 Cc
    go_wp2_with fail
    exact ⟨rfl, ReadsTo.fail (wholeO_none (by simp only [codeD, mapD, andD, HMG.out, HXn.out, HXi.out, HXs.out, HXh.out, HXc.out])) (turn_same Sh9.out.turn t2)⟩
  obtain ⟨vc, rfl, t2, hv, hr2⟩ := h2.some_ hx
  have HXc := hid hx
  obtain ⟨Ac, nc, cc, rfl⟩ := list_shape (hv _ (Turn.refl _ _))
  have Sc := hid (Sh9.out.call t2 hr2)
  have Kic := hid (Held.call Kih9.out Sh9.out.hbk t2)
  have Ksc := hid (Held.call Ksh9.out Sh9.out.hbk t2)
  have Khc := hid (Held.call Khh9.out Sh9.out.hbk t2)
  have Kcc := hid (Held.new (w := w) hv Sh9.out.size)
  have c3 : wc.cell? ⟨w.heap.size + 1, 3, none⟩ = some (.slice none 0 0) := Sc.out.cell 3
  have z0 := Sc.out.free
  clear hx h2 hv hr2 t2 Cc
  have Sc9 := hid (Sc.out.set 3 (.slice Ac nc cc))
  have Kic9 := hid (Held.set Kic.out 3 (.slice Ac nc cc))
  have Ksc9 := hid (Held.set Ksc.out 3 (.slice Ac nc cc))
  have Khc9 := hid (Held.set Khc.out 3 (.slice Ac nc cc))
  have Kcc9 := hid (Held.set Kcc.out 3 (.slice Ac nc cc))
  have Cp := hid (rdprocs_any (wc.setCell ⟨w.heap.size + 1, 3, none⟩ (.slice Ac nc cc)) bk B rc 0 Sc9.out.rd)
  go_wp2_with fail
  refine Cp.out.mono ?_
  rintro e wp h2
  rcases hx : allD procD rc with _ | ⟨xp, rp⟩
  · obtain ⟨rfl, t2⟩ := h2.none_ hx
    have HXp := hid hx
    clear hx h2 Cp
    go_wp2_with fail
    exact ⟨rfl, ReadsTo.fail (wholeO_none (by simp only [codeD, mapD, andD, HMG.out, HXn.out, HXi.out, HXs.out, HXh.out, HXc.out, HXp.out])) (turn_same Sc9.out.turn t2)⟩
  obtain ⟨vp, rfl, t2, hv, hr2⟩ := h2.some_ hx
  have HXp := hid hx
  obtain ⟨Ap, np, cp, rfl⟩ := list_shape (hv _ (Turn.refl _ _))
  have Sp := hid (Sc9.out.call t2 hr2)
  have Kip := hid (Held.call Kic9.out Sc9.out.hbk t2)
  have Ksp := hid (Held.call Ksc9.out Sc9.out.hbk t2)
  have Khp := hid (Held.call Khc9.out Sc9.out.hbk t2)
  have Kcp := hid (Held.call Kcc9.out Sc9.out.hbk t2)
  have Kpp := hid (Held.new (w := w) hv Sc9.out.size)
  have c4 : wp.cell? ⟨w.heap.size + 1, 4, none⟩ = some (.slice none 0 0) := Sp.out.cell 4
  have z0 := Sp.out.free
  have c0 : wp.cell? ⟨w.heap.size + 1, 0, none⟩ = some (.slice Ai ni ci) := Sp.out.cell 0
  have d0 : wp.cell? ⟨w.heap.size, 0, none⟩ = some (.slice none 0 0) := Sp.out.cell0 0
  have c1 : wp.cell? ⟨w.heap.size + 1, 1, none⟩ = some (.slice As ns cs) := Sp.out.cell 1
  have d1 : wp.cell? ⟨w.heap.size, 1, none⟩ = some (.slice none 0 0) := Sp.out.cell0 1
  have c2 : wp.cell? ⟨w.heap.size + 1, 2, none⟩ = some (.slice Ah nh ch) := Sp.out.cell 2
  have d2 : wp.cell? ⟨w.heap.size, 2, none⟩ = some (.slice none 0 0) := Sp.out.cell0 2
  have c3 : wp.cell? ⟨w.heap.size + 1, 3, none⟩ = some (.slice Ac nc cc) := Sp.out.cell 3
  have d3 : wp.cell? ⟨w.heap.size, 3, none⟩ = some (.slice none 0 0) := Sp.out.cell0 3
  have d4 : wp.cell? ⟨w.heap.size, 4, none⟩ = some (.slice none 0 0) := Sp.out.cell0 4
  have c5 : wp.cell? ⟨w.heap.size + 1, 5, none⟩ = some (.int .i64 xn) := Sp.out.cell 5
  have d5 : wp.cell? ⟨w.heap.size, 5, none⟩ = some (.int .i64 0) := Sp.out.cell0 5
  have c6 : wp.cell? ⟨w.heap.size + 1, 6, none⟩ = some (.bool false) := Sp.out.cell 6
  have d6 : wp.cell? ⟨w.heap.size, 6, none⟩ = some (.bool false) := Sp.out.cell0 6
  have z1 := Sp.out.free0
  obtain ⟨Ar, cr, _, _, _, _, _, _, d1r, d2r, z1r, z2r⟩ := hr2.parts
  clear hx h2 hv hr2 t2 Cp
  have Sp9 := hid (Sp.out.set 4 (.slice Ap np cp))
  have Kip9 := hid (Held.set Kip.out 4 (.slice Ap np cp))
  have Ksp9 := hid (Held.set Ksp.out 4 (.slice Ap np cp))
  have Khp9 := hid (Held.set Khp.out 4 (.slice Ap np cp))
  have Kcp9 := hid (Held.set Kcp.out 4 (.slice Ap np cp))
  have Kpp9 := hid (Held.set Kpp.out 4 (.slice Ap np cp))
  have hfull : codeD l = some (⟨xi, xs, xh, xc, xp, xn, false⟩, rp) := by simp only [codeD, mapD, andD, HMG.out, HXn.out, HXi.out, HXs.out, HXh.out, HXc.out, HXp.out]
  have HF := hid hfull
  clear hfull
  rcases hrp : rp with _ | ⟨b0, rp0⟩
  rotate_left
  · have HRP := hid hrp
    have hlen : (rp.length : Int) = (rp0.length : Int) + 1 := by rw [hrp]; simp
    clear hrp
    have hne : ((rp.length : Int) == 0) = false := beq_eq_false_iff_ne.mpr (by omega)
    have hne2 : decide ((rp.length : Int) = 0) = false := decide_eq_false (by omega)
    go_wp2_with fail
    refine (must_not _ ?hb _).mono ?_
    case hb => first | rfl | assumption | (simp; omega)
    rintro e w1 ⟨rfl, rfl⟩
    go_wp2_with fail
    exact ⟨rfl, ReadsTo.fail (wholeO_left HF.out (by rw [HRP.out]; simp)) Sp9.out.turn⟩
  · have HRP := hid hrp
    have hlen : (rp.length : Int) = 0 := by rw [hrp]; rfl
    have hlen0 : rp.length = 0 := by rw [hrp]; rfl
    clear hrp
    go_wp2_with fail
    refine (must_yes _).mono ?_
    rintro e w1 ⟨rfl, rfl⟩
    go_wp2_with fail
    have ec := heap_setCell_same _ _ 6 _ _ (.bool false) (heap_setCell_same _ _ 5 _ _ (.int .i64 xn) (heap_setCell_same _ _ 4 _ _ (.slice Ap np cp) (heap_setCell_same _ _ 3 _ _ (.slice Ac nc cc) (heap_setCell_same _ _ 2 _ _ (.slice Ah nh ch) (heap_setCell_same _ _ 1 _ _ (.slice As ns cs) (heap_setCell_same _ _ 0 _ _ (.slice Ai ni ci) (Sp9.out.res)))))))
    have tc := ((turn_set (wp.setCell ⟨w.heap.size + 1, 4, none⟩ (.slice Ap np cp)) w.heap.size 0 (.slice Ai ni ci)).trans ((turn_set _ w.heap.size 1 (.slice As ns cs)).trans ((turn_set _ w.heap.size 2 (.slice Ah nh ch)).trans ((turn_set _ w.heap.size 3 (.slice Ac nc cc)).trans ((turn_set _ w.heap.size 4 (.slice Ap np cp)).trans ((turn_set _ w.heap.size 5 (.int .i64 xn)).trans (turn_set _ w.heap.size 6 (.bool false)) (fun _ _ h => h)) (fun _ _ h => h)) (fun _ _ h => h)) (fun _ _ h => h)) (fun _ _ h => h)) (fun _ _ h => h))
    have hbk := Sp9.out.hbk
    have hB := Sp9.out.rd.1
    refine bodyPost_ret (results_cell rfl rfl ec Try.underlying28 rfl (by kernel_rfl)) rfl ?_
    refine ReadsTo.done (r := []) (wholeO_some (by rw [HF.out, HRP.out])) (Sp9.out.turn.trans tc (fun j hj e => by omega)) (fun w9 t9 => ?_) (HRP.out ▸ Sp9.out.rd.turn tc (by omega) (fun j hj e => by omega))
    have tt := (tc.mono (G := fun k => k < w.heap.size + 2) (fun j _ hj => by omega)).trans t9 (fun j _ hj => by omega)
    obtain ⟨zh, sh, rh9⟩ := Khp9.out w9 tt
    obtain ⟨zc, sc, rc9⟩ := Kcp9.out w9 tt
    obtain ⟨zp, sp, rp9⟩ := Kpp9.out w9 tt
    exact ⟨_, rfl, _, _, _, _, _, zh, zc, zp, rfl, Kip9.out w9 tt, Ksp9.out w9 tt, sh, row_shapes rh9, sc, row_cos rc9, sp, row_procs rp9⟩
set_option maxRecDepth 100000 in
set_option maxHeartbeats 8000000 in
theorem rdcode_1 (w : World) (bk B : Nat) (l : Bt) (hR : RdAt w bk B l 0) (rm : Bt) (hm : numD l = some (1, rm)) :
    Calls Try.prog 30 #[.pointer (some ⟨bk, 0, none⟩)] w fun e w' => ReadsTo RCode bk B 0 w (wholeO l) e w' := by
  have hmf : ∀ (fn : Fn) (first cap : Array Value) (w : World), (Instr.makeFunc fn first cap).run Try.prog w = .ok (.func fn first cap) w := fun _ _ _ _ => rfl
  have hmg : mergeD l = some (true, rm) := by unfold mergeD; rw [hm]; rfl
  have HMG := hid hmg
  have HM := hid hm
  clear hm hmg
  have S0 := hid (StAt.start (T := 28) #[(.slice none 0 0), (.slice none 0 0), (.slice none 0 0), (.slice none 0 0), (.slice none 0 0), (.int .i64 0), (.bool false)] hR)
  have CM := hid (rdnum_any ((w.alloc (.cells #[(.slice none 0 0), (.slice none 0 0), (.slice none 0 0), (.slice none 0 0), (.slice none 0 0), (.int .i64 0), (.bool false)] 28)).alloc (.cells #[(.slice none 0 0), (.slice none 0 0), (.slice none 0 0), (.slice none 0 0), (.slice none 0 0), (.int .i64 0), (.bool false)] 28)) bk B l 0 S0.out.rd)
  clear hR
  go_enter Try.func30, Try.ntmps30
  go_wp2_with fail
  refine CM.out.mono ?_
  rintro e wm h2
  obtain ⟨vm, rfl, t2, hv, hr2⟩ := h2.some_ HM.out
  obtain rfl := hv _ (Turn.refl _ _)
  have Sm := hid (S0.out.call t2 hr2)
  have c6 : wm.cell? ⟨w.heap.size + 1, 6, none⟩ = some (.bool false) := Sm.out.cell 6
  have z0 := Sm.out.free
  have Sm9 := hid (Sm.out.set 6 (.bool true))
  clear h2 hv t2 hr2 CM
  go_wp2_with fail
  refine (must_yes _).mono ?_
  rintro e wm ⟨rfl, rfl⟩
  have Cn := hid (rdnum_any (wm.setCell ⟨w.heap.size + 1, 6, none⟩ (.bool true)) bk B rm 0 Sm9.out.rd)
  go_wp2_with fail
  refine Cn.out.mono ?_
  rintro e wn h2
  rcases hx : numD rm with _ | ⟨xn, rn⟩
  · obtain ⟨rfl, t2⟩ := h2.none_ hx
    have HXn := hid hx
    clear hx h2 Cn
    go_wp2_with fail
    exact ⟨rfl, ReadsTo.fail (wholeO_none (by simp only [codeD, mapD, andD, HMG.out, HXn.out])) (turn_same Sm9.out.turn t2)⟩
  obtain ⟨vn, rfl, t2, hv, hr2⟩ := h2.some_ hx
  have HXn := hid hx
  obtain rfl := hv _ (Turn.refl _ _)
  have Sn := hid (Sm9.out.call t2 hr2)
  have c5 : wn.cell? ⟨w.heap.size + 1, 5, none⟩ = some (.int .i64 0) := Sn.out.cell 5
  have z0 := Sn.out.free
  clear hx h2 hv hr2 t2 Cn
  have Sn9 := hid (Sn.out.set 5 (.int .i64 xn))
  have Ci := hid (rdints_any (wn.setCell ⟨w.heap.size + 1, 5, none⟩ (.int .i64 xn)) bk B rn 0 Sn9.out.rd)
  go_wp2_with fail
  refine Ci.out.mono ?_
  rintro e wi h2
  rcases hx : allD numD rn with _ | ⟨xi, ri⟩
  · obtain ⟨rfl, t2⟩ := h2.none_ hx
    have HXi := hid hx
    clear hx h2 Ci
    go_wp2_with fail
    exact ⟨rfl, ReadsTo.fail (wholeO_none (by simp only [codeD, mapD, andD, HMG.out, HXn.out, HXi.out])) (turn_same Sn9.out.turn t2)⟩
  obtain ⟨vi, rfl, t2, hv, hr2⟩ := h2.some_ hx
  have HXi := hid hx
  obtain ⟨Ai, ni, ci, rfl⟩ := sl_shape (hv _ (Turn.refl _ _))
  have Si := hid (Sn9.out.call t2 hr2)
  have Kii := hid (Held.new (w := w) hv Sn9.out.size)
  have c0 : wi.cell? ⟨w.heap.size + 1, 0, none⟩ = some (.slice none 0 0) := Si.out.cell 0
  have z0 := Si.out.free
  clear hx h2 hv hr2 t2 Ci
  have Si9 := hid (Si.out.set 0 (.slice Ai ni ci))
  have Kii9 := hid (Held.set Kii.out 0 (.slice Ai ni ci))
  have Cs := hid (rdtexts_any (wi.setCell ⟨w.heap.size + 1, 0, none⟩ (.slice Ai ni ci)) bk B ri 0 Si9.out.rd)
  go_wp2_with fail
  refine Cs.out.mono ?_
  rintro e ws h2
  rcases hx : allD textD ri with _ | ⟨xs, rs⟩
  · obtain ⟨rfl, t2⟩ := h2.none_ hx
    have HXs := hid hx
    clear hx h2 Cs
    go_wp2_with fail
    exact ⟨rfl, ReadsTo.fail (wholeO_none (by simp only [codeD, mapD, andD, HMG.out, HXn.out, HXi.out, HXs.out])) (turn_same Si9.out.turn t2)⟩
  obtain ⟨vs, rfl, t2, hv, hr2⟩ := h2.some_ hx
  have HXs := hid hx
  obtain ⟨As, ns, cs, rfl⟩ := sl_shape (hv _ (Turn.refl _ _))
  have Ss := hid (Si9.out.call t2 hr2)
  have Kis := hid (Held.call Kii9.out Si9.out.hbk t2)
  have Kss := hid (Held.new (w := w) hv Si9.out.size)
  have c1 : ws.cell? ⟨w.heap.size + 1, 1, none⟩ = some (.slice none 0 0) := Ss.out.cell 1
  have z0 := Ss.out.free
  clear hx h2 hv hr2 t2 Cs
  have Ss9 := hid (Ss.out.set 1 (.slice As ns cs))
  have Kis9 := hid (Held.set Kis.out 1 (.slice As ns cs))
  have Kss9 := hid (Held.set Kss.out 1 (.slice As ns cs))
  have Ch := hid (rdshapes_any (ws.setCell ⟨w.heap.size + 1, 1, none⟩ (.slice As ns cs)) bk B rs 0 Ss9.out.rd)
  go_wp2_with fail
  refine Ch.out.mono ?_
  rintro e wh h2
  rcases hx : allD (allD textD) rs with _ | ⟨xh, rh⟩
  · obtain ⟨rfl, t2⟩ := h2.none_ hx
    have HXh := hid hx
    clear hx h2 Ch
    go_wp2_with fail
    exact ⟨rfl, ReadsTo.fail (wholeO_none (by simp only [codeD, mapD, andD, HMG.out, HXn.out, HXi.out, HXs.out, HXh.out])) (turn_same Ss9.out.turn t2)⟩
  obtain ⟨vh, rfl, t2, hv, hr2⟩ := h2.some_ hx
  have HXh := hid hx
  obtain ⟨Ah, nh, ch, rfl⟩ := list_shape (hv _ (Turn.refl _ _))
  have Sh := hid (Ss9.out.call t2 hr2)
  have Kih := hid (Held.call Kis9.out Ss9.out.hbk t2)
  have Ksh := hid (Held.call Kss9.out Ss9.out.hbk t2)
  have Khh := hid (Held.new (w := w) hv Ss9.out.size)
  have c2 : wh.cell? ⟨w.heap.size + 1, 2, none⟩ = some (.slice none 0 0) := Sh.out.cell 2
  have z0 := Sh.out.free
  clear hx h2 hv hr2 t2 Ch
  have Sh9 := hid (Sh.out.set 2 (.slice Ah nh ch))
  have Kih9 := hid (Held.set Kih.out 2 (.slice Ah nh ch))
  have Ksh9 := hid (Held.set Ksh.out 2 (.slice Ah nh ch))
  have Khh9 := hid (Held.set Khh.out 2 (.slice Ah nh ch))
  have Cc := hid (rdcosall_any (wh.setCell ⟨w.heap.size + 1, 2, none⟩ (.slice Ah nh ch)) bk B rh Sh9.out.rd)
  go_wp2_with fail
  refine Cc.out.mono ?_
  rintro e wc h2
  rcases hx : allD (coD 40) rh with _ | ⟨xc, rc⟩
  · obtain ⟨rfl, t2⟩ := h2.none_ hx
    have HXc := hid hx
    clear hx h2 Cc
    go_wp2_with fail
    exact ⟨rfl, ReadsTo.fail (wholeO_none (by simp only [codeD, mapD, andD, HMG.out, HXn.out, HXi.out, HXs.out, HXh.out, HXc.out])) (turn_same Sh9.out.turn t2)⟩
  obtain ⟨vc, rfl, t2, hv, hr2⟩ := h2.some_ hx
  have HXc := hid hx
  obtain ⟨Ac, nc, cc, rfl⟩ := list_shape (hv _ (Turn.refl _ _))
  have Sc := hid (Sh9.out.call t2 hr2)
  have Kic := hid (Held.call Kih9.out Sh9.out.hbk t2)
  have Ksc := hid (Held.call Ksh9.out Sh9.out.hbk t2)
  have Khc := hid (Held.call Khh9.out Sh9.out.hbk t2)
  have Kcc := hid (Held.new (w := w) hv Sh9.out.size)
  have c3 : wc.cell? ⟨w.heap.size + 1, 3, none⟩ = some (.slice none 0 0) := Sc.out.cell 3
  have z0 := Sc.out.free
  clear hx h2 hv hr2 t2 Cc
  have Sc9 := hid (Sc.out.set 3 (.slice Ac nc cc))
  have Kic9 := hid (Held.set Kic.out 3 (.slice Ac nc cc))
  have Ksc9 := hid (Held.set Ksc.out 3 (.slice Ac nc cc))
  have Khc9 := hid (Held.set Khc.out 3 (.slice Ac nc cc))
  have Kcc9 := hid (Held.set Kcc.out 3 (.slice Ac nc cc))
  have Cp := hid (rdprocs_any (wc.setCell ⟨w.heap.size + 1, 3, none⟩ (.slice Ac nc cc)) bk B rc 0 Sc9.out.rd)
  go_wp2_with fail
  refine Cp.out.mono ?_
  rintro e wp h2
  rcases hx : allD procD rc with _ | ⟨xp, rp⟩
  · obtain ⟨rfl, t2⟩ := h2.none_ hx
    have HXp := hid hx
    clear hx h2 Cp
    go_wp2_with fail
    exact ⟨rfl, ReadsTo.fail (wholeO_none (by simp only [codeD, mapD, andD, HMG.out, HXn.out, HXi.out, HXs.out, HXh.out, HXc.out, HXp.out])) (turn_same Sc9.out.turn t2)⟩
  obtain ⟨vp, rfl, t2, hv, hr2⟩ := h2.some_ hx
  have HXp := hid hx
  obtain ⟨Ap, np, cp, rfl⟩ := list_shape (hv _ (Turn.refl _ _))
  have Sp := hid (Sc9.out.call t2 hr2)
  have Kip := hid (Held.call Kic9.out Sc9.out.hbk t2)
  have Ksp := hid (Held.call Ksc9.out Sc9.out.hbk t2)
  have Khp := hid (Held.call Khc9.out Sc9.out.hbk t2)
  have Kcp := hid (Held.call Kcc9.out Sc9.out.hbk t2)
  have Kpp := hid (Held.new (w := w) hv Sc9.out.size)
  have c4 : wp.cell? ⟨w.heap.size + 1, 4, none⟩ = some (.slice none 0 0) := Sp.out.cell 4
  have z0 := Sp.out.free
  have c0 : wp.cell? ⟨w.heap.size + 1, 0, none⟩ = some (.slice Ai ni ci) := Sp.out.cell 0
  have d0 : wp.cell? ⟨w.heap.size, 0, none⟩ = some (.slice none 0 0) := Sp.out.cell0 0
  have c1 : wp.cell? ⟨w.heap.size + 1, 1, none⟩ = some (.slice As ns cs) := Sp.out.cell 1
  have d1 : wp.cell? ⟨w.heap.size, 1, none⟩ = some (.slice none 0 0) := Sp.out.cell0 1
  have c2 : wp.cell? ⟨w.heap.size + 1, 2, none⟩ = some (.slice Ah nh ch) := Sp.out.cell 2
  have d2 : wp.cell? ⟨w.heap.size, 2, none⟩ = some (.slice none 0 0) := Sp.out.cell0 2
  have c3 : wp.cell? ⟨w.heap.size + 1, 3, none⟩ = some (.slice Ac nc cc) := Sp.out.cell 3
  have d3 : wp.cell? ⟨w.heap.size, 3, none⟩ = some (.slice none 0 0) := Sp.out.cell0 3
  have d4 : wp.cell? ⟨w.heap.size, 4, none⟩ = some (.slice none 0 0) := Sp.out.cell0 4
  have c5 : wp.cell? ⟨w.heap.size + 1, 5, none⟩ = some (.int .i64 xn) := Sp.out.cell 5
  have d5 : wp.cell? ⟨w.heap.size, 5, none⟩ = some (.int .i64 0) := Sp.out.cell0 5
  have c6 : wp.cell? ⟨w.heap.size + 1, 6, none⟩ = some (.bool true) := Sp.out.cell 6
  have d6 : wp.cell? ⟨w.heap.size, 6, none⟩ = some (.bool false) := Sp.out.cell0 6
  have z1 := Sp.out.free0
  obtain ⟨Ar, cr, _, _, _, _, _, _, d1r, d2r, z1r, z2r⟩ := hr2.parts
  clear hx h2 hv hr2 t2 Cp
  have Sp9 := hid (Sp.out.set 4 (.slice Ap np cp))
  have Kip9 := hid (Held.set Kip.out 4 (.slice Ap np cp))
  have Ksp9 := hid (Held.set Ksp.out 4 (.slice Ap np cp))
  have Khp9 := hid (Held.set Khp.out 4 (.slice Ap np cp))
  have Kcp9 := hid (Held.set Kcp.out 4 (.slice Ap np cp))
  have Kpp9 := hid (Held.set Kpp.out 4 (.slice Ap np cp))
  have hfull : codeD l = some (⟨xi, xs, xh, xc, xp, xn, true⟩, rp) := by simp only [codeD, mapD, andD, HMG.out, HXn.out, HXi.out, HXs.out, HXh.out, HXc.out, HXp.out]
  have HF := hid hfull
  clear hfull
  rcases hrp : rp with _ | ⟨b0, rp0⟩
  rotate_left
  · have HRP := hid hrp
    have hlen : (rp.length : Int) = (rp0.length : Int) + 1 := by rw [hrp]; simp
    clear hrp
    have hne : ((rp.length : Int) == 0) = false := beq_eq_false_iff_ne.mpr (by omega)
    have hne2 : decide ((rp.length : Int) = 0) = false := decide_eq_false (by omega)
    go_wp2_with fail
    refine (must_not _ ?hb _).mono ?_
    case hb => first | rfl | assumption | (simp; omega)
    rintro e w1 ⟨rfl, rfl⟩
    go_wp2_with fail
    exact ⟨rfl, ReadsTo.fail (wholeO_left HF.out (by rw [HRP.out]; simp)) Sp9.out.turn⟩
  · have HRP := hid hrp
    have hlen : (rp.length : Int) = 0 := by rw [hrp]; rfl
    have hlen0 : rp.length = 0 := by rw [hrp]; rfl
    clear hrp
    go_wp2_with fail
    refine (must_yes _).mono ?_
    rintro e w1 ⟨rfl, rfl⟩
    go_wp2_with fail
    have ec := heap_setCell_same _ _ 6 _ _ (.bool true) (heap_setCell_same _ _ 5 _ _ (.int .i64 xn) (heap_setCell_same _ _ 4 _ _ (.slice Ap np cp) (heap_setCell_same _ _ 3 _ _ (.slice Ac nc cc) (heap_setCell_same _ _ 2 _ _ (.slice Ah nh ch) (heap_setCell_same _ _ 1 _ _ (.slice As ns cs) (heap_setCell_same _ _ 0 _ _ (.slice Ai ni ci) (Sp9.out.res)))))))
    have tc := ((turn_set (wp.setCell ⟨w.heap.size + 1, 4, none⟩ (.slice Ap np cp)) w.heap.size 0 (.slice Ai ni ci)).trans ((turn_set _ w.heap.size 1 (.slice As ns cs)).trans ((turn_set _ w.heap.size 2 (.slice Ah nh ch)).trans ((turn_set _ w.heap.size 3 (.slice Ac nc cc)).trans ((turn_set _ w.heap.size 4 (.slice Ap np cp)).trans ((turn_set _ w.heap.size 5 (.int .i64 xn)).trans (turn_set _ w.heap.size 6 (.bool true)) (fun _ _ h => h)) (fun _ _ h => h)) (fun _ _ h => h)) (fun _ _ h => h)) (fun _ _ h => h)) (fun _ _ h => h))
    have hbk := Sp9.out.hbk
    have hB := Sp9.out.rd.1
    refine bodyPost_ret (results_cell rfl rfl ec Try.underlying28 rfl (by kernel_rfl)) rfl ?_
    refine ReadsTo.done (r := []) (wholeO_some (by rw [HF.out, HRP.out])) (Sp9.out.turn.trans tc (fun j hj e => by omega)) (fun w9 t9 => ?_) (HRP.out ▸ Sp9.out.rd.turn tc (by omega) (fun j hj e => by omega))
    have tt := (tc.mono (G := fun k => k < w.heap.size + 2) (fun j _ hj => by omega)).trans t9 (fun j _ hj => by omega)
    obtain ⟨zh, sh, rh9⟩ := Khp9.out w9 tt
    obtain ⟨zc, sc, rc9⟩ := Kcp9.out w9 tt
    obtain ⟨zp, sp, rp9⟩ := Kpp9.out w9 tt
    exact ⟨_, rfl, _, _, _, _, _, zh, zc, zp, rfl, Kip9.out w9 tt, Ksp9.out w9 tt, sh, row_shapes rh9, sc, row_cos rc9, sp, row_procs rp9⟩
end Go.Proofs.Ytpnggkkfoipfhaa
