/- FN, FO, FP, FQ -/
import Derived.Test.YtmbppnbekkbibaaGreatDoorPF06
set_option linter.unusedSimpArgs false
set_option linter.unusedVariables false
section
/- The contracts of note, head, here. -/
set_option linter.unusedVariables false
namespace Go.Proofs.YtmbppnbekkbibaaGreatDoor
open Go.RowKit

/-- A row of types of one's own, of memory from base on. -/
abbrev Tys (base : Nat) (w : World) (v : Value) (l : List TyD) : Prop := RowG TyG 4 63 w base (fun j => base ≤ j) v l
theorem row_ones {α : Type} {R : World → (Nat → Prop) → List Value → α → Prop} {k : Nat} (hR : FootR R k) {w : World} {F : Nat → Prop} : ∀ {ys : List Value} {l : List α}, TRow (R w F) k ys l → ∀ u ∈ ys, u.oneCell' = true
  | _, _, .nil => fun _ h => by cases h
  | _, _, .cons h1 h2 h3 => fun u hu => by
    rcases List.mem_append.1 hu with h | h
    · exact hR.one h2 u h
    · exact row_ones hR h3 u h
theorem nt_push {base bp : Nat} {w w6 w9 : World} {v v7 : Value} {l : List TyD} {x : TyD} {z : List Value} {o : Obj} {n7 : Nat} {ys : List Value} (hy : w.ownsRow base 63 4 v l.length ys) (hr : TRow (TyG w (NewB (fun j => base ≤ j) v)) 4 ys l) (t : Turn (fun k => k = bp) w w6) (hbp : bp < base) (hs : base ≤ w.heap.size)
    (hx : TyG w6 (fun j => w.heap.size ≤ j) z x) (hg : (w6.alloc o).grownBy w9 v.ownBlock) (hbk : v7.ownBlock = v.ownBlock ∨ v7.ownBlock = some (w6.alloc o).heap.size) (h7 : w9.ownsRow base 63 4 v7 n7 (ys ++ z)) : Tys base w9 v7 (l ++ [x]) ∧ Turn (fun j => v.ownBlock = some j) w6 w9 := by
  have t9 := (Turn.alloc (fun j => v.ownBlock = some j) w6 o).trans (Turn.of_grown hg (F := fun j => v.ownBlock = some j) (fun _ h => h)) (fun _ _ h => h)
  exact ⟨RowG.push foot_ty (F := fun j => base ≤ j) hy hr t hx t9 (fun j _ h => .inl h) (hbk.imp id fun e => ⟨_, by simp, e⟩) h7 (by omega) (by omega) (fun j hj => by omega), t9⟩
/-- What is laid in a row beside: types that lie elsewhere. -/
theorem nt_more {base : Nat} {w w9 : World} {v v7 : Value} {l m : List TyD} {ys ms : List Value} {n7 : Nat} (hy : w.ownsRow base 63 4 v l.length ys) (hr : TRow (TyG w (NewB (fun j => base ≤ j) v)) 4 ys l) (hm : TRow (TyG w (NewB (fun j => base ≤ j) v)) 4 ms m)
    (hg : w.grownBy w9 v.ownBlock) (hbk : v7.ownBlock = v.ownBlock ∨ v7.ownBlock = some w.heap.size) (h7 : w9.ownsRow base 63 4 v7 n7 (ys ++ ms)) : Tys base w9 v7 (l ++ m) := by
  have tg := Turn.of_grown hg (F := fun j => v.ownBlock = some j) (fun _ h => h)
  have hnew : ∀ j, j < w.heap.size → v7.ownBlock = some j → v.ownBlock = some j := fun j hj e => by
    rcases hbk with hb | hb
    · rw [hb] at e; exact e
    · rw [hb] at e; injection e with e; omega
  have hrow := TRow.app hm hr
  have hn : n7 = (l ++ m).length := by
    have e1 := h7.1
    have e2 := hrow.len
    omega
  subst hn
  refine ⟨_, h7, hrow.imp fun _ _ h => ?_⟩
  have h3 : TyG w (fun j => j < w.heap.size ∧ NewB (fun j => base ≤ j) v j) _ _ := h.mono fun j hj h => ⟨hj, h⟩
  exact (h3.turn tg (fun j _ h e => h.2.1 e)).mono fun j _ h => ⟨fun e => h.2.1 (hnew j h.1 e), h.2.2⟩

set_option maxRecDepth 100000 in
set_option maxHeartbeats 4000000 in
theorem pnote_any (d : Int) (typ : Ps TyD) (HTY : TypC d typ) (hsf : Sf typ) (w : World) (bp B base : Nat) (ts : List TokD) (h : TkAt w bp B ts d) (v v' : Value) (l m : List TyD) (ms : List Value) (hv : Tys base w v l) (hm : SlG w (fun j => j ≠ bp) 4 v' ms) (hmr : TRow (TyG w (NewB (fun j => base ≤ j) v)) 4 ms m) (hl : l.length ≤ 4) (hml : m.length ≤ 4) (hbp : bp < base) (hs : base ≤ w.heap.size) :
    Calls Tryz.prog 93 #[.pointer (some ⟨bp, 0, none⟩), v, v'] w (ReadsX (Tys base) (fun k => k = bp ∨ v.ownBlock = some k) bp B d w (noteR typ l m ts)) := by
  have hlt := h.lt
  have hB := h.1
  obtain ⟨Al, cl, hvl, hcl, hcm⟩ := hv.shape
  subst hvl
  obtain ⟨Am, nm, cm, hvm, hlm, hnm, hcm2, hxm⟩ := hm
  have hm : SlG w (fun j => j ≠ bp) 4 v' ms := ⟨Am, nm, cm, hvm, hlm, hnm, hcm2, hxm⟩
  subst hvm
  have hml2 := hmr.len
  obtain ⟨Q, hQ⟩ : ∃ Q, noteR typ l m ts = Q := ⟨_, rfl⟩
  rw [hQ]
  have HQ : Hid (thenP (hasP [58]) (fun b => if b then thenP typ fun t => retP (l ++ [t]) else retP (l ++ m)) ts = Q) := hid hQ
  have HH := hid (has_any w bp B ts d h [58])
  have HV := hid hv
  have HM := hid hm
  have HMR := hid hmr
  clear h hQ hv hm hmr hxm
  go_enter Tryz.func93, Tryz.ntmps93
  go_wp2_with fail
  refine (HH.out).mono ?_
  rintro e w1 h1
  rcases hq : hasP [58] ts with g | ⟨b, r1⟩
  · obtain ⟨rfl, tn, bn⟩ := h1.bad_ hq
    exact (hasP_bad hq).elim
  · obtain ⟨v1, rfl, tn, rfl, kn⟩ := h1.good_ hq
    have hq1 := hid hq
    have HV1 := hid (HV.out.turn foot_ty tn (fun g hg e => by have := (HV.out.lt g hg).1; omega) (fun g _ hg e => by omega))
    have HM1 := hid (row_turn foot_ty tn (fun g _ hg e => by have := hg.2; omega) HMR.out)
    have HS1 := hid (SlG.turn HM.out tn (fun g _ h e => h e))
    have hs1x := tn.size
    have hs1 := tn.size
    have HT1 := hid (tn)
    have HK1 := hid kn
    clear h1 tn kn hq
    cases b
    · have HQ2 : Hid (Pr.good (l ++ m) r1 = Q) := hid ((thenP_good hq1.out).symm.trans HQ.out)
      obtain ⟨ys, hy, hrr⟩ := HV1.out
      have hyl : ys.length = l.length * 4 := hy.1
      have HY := hid hy
      have HRR := hid hrr
      have HON := hid (row_ones foot_ty HM1.out)
      clear hy hrr
      go_wp2_with (at_builtin; go_must (refine wpList_app rfl (.tmp 16) (.tmp 17) _ rfl base el_ty _ _ rfl rfl HY.out HS1.out.all HON.out (by rw [hml2]; unfold maxLen; omega) (by rw [hml2]; omega) (by omega) (fun v9 w9 n9 hown9 hg9 hbk9 => ?_)); have HOWN9 := hid hown9; have HG9 := hid hg9; have HBK9 := hid hbk9; clear hown9 hg9 hbk9)
      have tg := Turn.of_grown HG9.out (F := fun j => (Value.slice Al l.length cl).ownBlock = some j) (fun _ h => h)
      have hlo := HV1.out.lt
      go_ret
      exact ReadsX.done HQ2.out.symm ((HT1.out.mono (G := fun k => k = bp ∨ (Value.slice Al l.length cl).ownBlock = some k) (fun _ _ h => .inl h)).trans tg (fun _ _ h => .inr h)) (nt_more HY.out HRR.out HM1.out HG9.out HBK9.out HOWN9.out) (HK1.out.turn tg (fun e => by have := (hlo _ e).1; omega) (fun k hk e => by have := (hlo _ e).1; omega))
    · have HQ2 : Hid (thenP typ (fun t => retP (l ++ [t])) r1 = Q) := hid ((thenP_good hq1.out).symm.trans HQ.out)
      have HTC := hid (HTY w1 bp B r1 HK1.out)
      go_wp2_with fail
      refine (HTC.out).mono ?_
      rintro e w2 h2
      rcases hq : typ r1 with g | ⟨t2, r2⟩
      · obtain ⟨rfl, tn, bn⟩ := h2.bad_ hq
        have HQB := hid (HQ2.out.symm.trans (thenP_bad hq))
        have HB := hid (BadP.mk2 (turn_bp HT1.out tn) bn)
        clear h2 tn bn hq
        go_wp2_with fail
        exact ⟨rfl, ReadsX.fail HQB.out (HB.out.1.mono fun _ _ h => .inl h) HB.out.2⟩
      · obtain ⟨v2, rfl, tn, ⟨z, rfl, hz⟩, kn⟩ := h2.good_ hq
        obtain ⟨k4, s4, A14, n14, c14, A24, n24, c24, rfl⟩ := hz.shape'
        have HZ := hid hz
        have HTN := hid tn
        clear hz
        have hs2 := tn.size
        have HT2 := hid (turn_bp HT1.out tn)
        have HK2 := hid kn
        have HQ2 : Hid (retP (l ++ [t2]) r2 = Q) := hid ((thenP_good hq).symm.trans HQ2.out)
        clear h2 tn kn hq
        have HQ2' : Hid (Pr.good (l ++ [t2]) r2 = Q) := HQ2
        obtain ⟨ys, hy, hrr⟩ := HV1.out
        have hyl : ys.length = l.length * 4 := hy.1
        have hyw := own_turn hy HTN.out (fun g hg e => by have := (hy.lt g hg).1; omega)
        have HY := hid hy
        have HRR := hid hrr
        have HYW := hid hyw
        clear hy hrr hyw
        go_wp2_with (at_builtin; go_must (refine wpList_app rfl (.tmp 11) (.tmp 14) _ rfl base el_ty _ _ rfl rfl (HYW.out.alloc (.cells #[.int .i64 k4, sv s4, .slice A14 n14 c14, .slice A24 n24 c24] 63)) (sl_new w2 #[.int .i64 k4, sv s4, .slice A14 n14 c14, .slice A24 n24 c24] 63 4 1 rfl (by decide)) (pty_one k4 s4 _ _ _ _ _ _) (by simp [maxLen]; omega) (by simp; omega) (by simp; omega) (fun v9 w9 n9 hown9 hg9 hbk9 => ?_)); have HOWN9 := hid hown9; have HG9 := hid hg9; have HBK9 := hid hbk9; clear hown9 hg9 hbk9)
        obtain ⟨hrow, t9⟩ := nt_push HY.out HRR.out HTN.out hbp (by omega) HZ.out HG9.out HBK9.out HOWN9.out
        have hlo := HV1.out.lt
        go_ret
        exact ReadsX.done HQ2'.out.symm ((HT2.out.mono (G := fun k => k = bp ∨ (Value.slice Al l.length cl).ownBlock = some k) (fun _ _ h => .inl h)).trans t9 (fun _ _ h => .inr h)) hrow (HK2.out.turn t9 (fun e => by have := (hlo _ e).1; omega) (fun k hk e => by have := (hlo _ e).1; omega))
theorem noteR_one {typ : Ps TyD} {a : TyD} {ts r : List TokD} {y : List TyD} (h : noteR typ [] [a] ts = .good y r) : y.length = 1 := by
  unfold noteR at h
  rcases hq : hasP [58] ts with g | ⟨b, r1⟩
  · exact (hasP_bad hq).elim
  rw [thenP_good hq] at h
  cases b
  · injection h with h _; rw [← h]; rfl
  · rcases hq2 : typ r1 with g | ⟨t, r2⟩
    · rw [if_pos rfl, thenP_bad hq2] at h; cases h
    · rw [if_pos rfl, thenP_good hq2] at h; injection h with h _; rw [← h]; rfl
/-- What head answers: a name, types. -/
def PHead (base : Nat) (w : World) (v : Value) (x : Bt × List TyD) : Prop := ∃ u, v = .tuple #[sv x.1, u] ∧ Tys base w u x.2
set_option maxRecDepth 100000 in
set_option maxHeartbeats 4000000 in
theorem head_any (d : Int) (typ : Ps TyD) (HTY : TypC d typ) (hsf : Sf typ) (w : World) (bp B : Nat) (ts : List TokD) (h : TkAt w bp B ts d) (v' : Value) (m : List TyD) (ms : List Value) (hm : SlG w (fun j => j ≠ bp) 4 v' ms) (hmr : ∀ w F, TRow (TyG w F) 4 ms m) (hml : m.length ≤ 4) :
    Calls Tryz.prog 95 #[.pointer (some ⟨bp, 0, none⟩), v'] w (ReadsP (PHead w.heap.size) bp B d w (headP typ m ts)) := by
  have hlt := h.lt
  have hB := h.1
  obtain ⟨Am, nm, cm, hvm, hlm, hnm, hcm2, hxm⟩ := hm
  have hm : SlG w (fun j => j ≠ bp) 4 v' ms := ⟨Am, nm, cm, hvm, hlm, hnm, hcm2, hxm⟩
  subst hvm
  obtain ⟨Q, hQ⟩ : ∃ Q, headP typ m ts = Q := ⟨_, rfl⟩
  rw [hQ]
  have HQ : Hid (thenP (wantP [40]) (fun _ => thenP nameP fun s => thenP (noteR typ [] [anyT]) fun l => thenP (wantP [41]) fun _ => thenP (noteR typ l m) fun m => retP (s, m)) ts = Q) := hid hQ
  have HN := hid (want_lit w bp B ts d h [40] 9 w.heap.size)
  have HM := hid hm
  clear h hQ hm hxm
  go_enter Tryz.func95, Tryz.ntmps95
  go_wp2_with fail
  refine (HN.out).mono ?_
  rintro e w1 h1
  rcases hq : wantP [40] ts with g | ⟨u, r1⟩
  · obtain ⟨rfl, tn, bn⟩ := h1.bad_ hq
    have HB := hid (BadP.mk2 (tn) bn)
    have HQB := hid (HQ.out.symm.trans (thenP_bad hq))
    clear h1 tn bn hq
    go_wp2_with fail
    exact ⟨rfl, ReadsP.fail HQB.out HB.out⟩
  · obtain ⟨v1, rfl, tn, -, kn⟩ := h1.good_ hq
    have HM1 := hid (SlG.turn HM.out tn (fun g _ h e => h e))
    have hs1 := tn.size
    have HT1 := hid (tn)
    have HK1 := hid kn
    have HQ1 : Hid ((thenP nameP fun s => thenP (noteR typ [] [anyT]) fun l => thenP (wantP [41]) fun _ => thenP (noteR typ l m) fun m => retP (s, m)) r1 = Q) := hid ((thenP_good hq).symm.trans HQ.out)
    clear h1 tn kn hq
    have HN2 := hid (pname_any w1 bp B r1 d HK1.out)
    go_wp2_with fail
    refine (HN2.out).mono ?_
    rintro e w2 h2
    rcases hq : nameP r1 with g | ⟨s, r2⟩
    · obtain ⟨rfl, tn, bn⟩ := h2.bad_ hq
      have HB := hid (BadP.mk2 (turn_bp HT1.out tn) bn)
      have HQB := hid (HQ1.out.symm.trans (thenP_bad hq))
      clear h2 tn bn hq
      go_wp2_with fail
      exact ⟨rfl, ReadsP.fail HQB.out HB.out⟩
    · obtain ⟨v2, rfl, tn, rfl, kn⟩ := h2.good_ hq
      have HM2 := hid (SlG.turn HM1.out tn (fun g _ h e => h e))
      have hs2 := tn.size
      have HT2 := hid (turn_bp HT1.out tn)
      have HK2 := hid kn
      have HQ2 : Hid ((thenP (noteR typ [] [anyT]) fun l => thenP (wantP [41]) fun _ => thenP (noteR typ l m) fun m => retP (s, m)) r2 = Q) := hid ((thenP_good hq).symm.trans HQ1.out)
      clear h2 tn kn hq
      have HN3 := hid (pnote_any d typ HTY hsf (w2.alloc (.cells #[.int .i64 0, .string ⟨#[]⟩, .slice none 0 0, .slice none 0 0] 63)) bp B w.heap.size r2 (HK2.out.below (new1 _ _)) (.slice none 0 0) (.slice (some ⟨w2.heap.size, 0, none⟩) 1 1) [] [anyT] [.int .i64 0, .string ⟨#[]⟩, .slice none 0 0, .slice none 0 0] (RowG.nil _ _ _ _ _ _) ((slG_new w2 #[.int .i64 0, .string ⟨#[]⟩, .slice none 0 0, .slice none 0 0] 63 4 1 rfl (by decide)).mono (fun g _ h e => by omega)) (trow1 rfl (ty_plain _ _ 0 [])) (by simp) (by simp) hlt (by simp; omega))
      go_wp2_with fail
      refine (HN3.out).mono ?_
      rintro e w3 h3
      rcases hq : noteR typ [] [anyT] r2 with g | ⟨l, r3⟩
      · obtain ⟨rfl, tn, bn⟩ := h3.bad_ hq
        have tn := (after1 (tn.mono (G := fun k => k = bp) (fun k _ h => by rcases h with h | h; exact h; cases h))).1
        have HB := hid (BadP.mk2 (turn_bp HT2.out tn) bn)
        have HQB := hid (HQ2.out.symm.trans (thenP_bad hq))
        clear h3 tn bn hq
        go_wp2_with fail
        exact ⟨rfl, ReadsP.fail HQB.out HB.out⟩
      · obtain ⟨v3, rfl, tn, hr3, kn⟩ := h3.good_ hq
        obtain ⟨tm, hs3, _⟩ := after1 (tn.mono (G := fun k => k = bp) (fun k _ h => by rcases h with h | h; exact h; cases h))
        obtain ⟨A3, c3, hv3, hc3, hm3⟩ := hr3.shape
        subst hv3
        have HT3 := hid (turn_bp HT2.out tm)
        have HK3 := hid kn
        have HR3 := hid hr3
        have HM3 := hid (SlG.turn HM2.out tm (fun g _ h e => h e))
        have HL1 := hid (noteR_one hq)
        have HQ3 : Hid (thenP (wantP [41]) (fun _ => thenP (noteR typ l m) fun m => retP (s, m)) r3 = Q) := hid ((thenP_good hq).symm.trans HQ2.out)
        have HN4 := hid (want_lit w3 bp B r3 d kn [41] 9 w3.heap.size)
        clear h3 tn tm hr3 kn hq
        go_wp2_with fail
        refine (HN4.out).mono ?_
        rintro e w4 h4
        rcases hq : wantP [41] r3 with g | ⟨u, r4⟩
        · obtain ⟨rfl, tn, bn⟩ := h4.bad_ hq
          have HB := hid (BadP.mk2 (turn_bp HT3.out tn) bn)
          have HQB := hid (HQ3.out.symm.trans (thenP_bad hq))
          clear h4 tn bn hq
          go_wp2_with fail
          exact ⟨rfl, ReadsP.fail HQB.out HB.out⟩
        · obtain ⟨v4, rfl, tn, -, kn⟩ := h4.good_ hq
          have HM4 := hid (SlG.turn HM3.out tn (fun g _ h e => h e))
          have HR4 := hid (HR3.out.turn foot_ty tn (fun g hg e => by have := (HR3.out.lt g hg).1; omega) (fun g _ hg e => by omega))
          have hs4 := tn.size
          have HT4 := hid (turn_bp HT3.out tn)
          have HK4 := hid kn
          have HQ4 : Hid ((thenP (noteR typ l m) fun m => retP (s, m)) r4 = Q) := hid ((thenP_good hq).symm.trans HQ3.out)
          clear h4 tn kn hq
          have hll := HL1.out
          have HN5 := hid (pnote_any d typ HTY hsf w4 bp B w.heap.size r4 HK4.out (.slice A3 l.length c3) (.slice Am nm cm) l m ms HR4.out HM4.out (hmr _ _) (by omega) hml hlt (by omega))
          clear hll
          go_wp2_with fail
          refine (HN5.out).mono ?_
          rintro e w5 h5
          have hlo := HR4.out.lt
          rcases hq : noteR typ l m r4 with g | ⟨y, r5⟩
          · obtain ⟨rfl, tn, bn⟩ := h5.bad_ hq
            have HB := hid (BadP.mk2 (HT4.out.trans tn (fun i hi h => by rcases h with h | h; exact h; (have := (hlo _ h).1; omega))) bn)
            have HQB := hid (HQ4.out.symm.trans (thenP_bad hq))
            clear h5 tn bn hq
            go_wp2_with fail
            exact ⟨rfl, ReadsP.fail HQB.out HB.out⟩
          · obtain ⟨v5, rfl, tn, hr5, kn⟩ := h5.good_ hq
            have HT5 := hid (HT4.out.trans tn (fun i hi h => by rcases h with h | h; exact h; (have := (hlo _ h).1; omega)))
            have HK5 := hid kn
            have HR5 := hid hr5
            have HQ5 : Hid (Pr.good (s, y) r5 = Q) := hid ((thenP_good hq).symm.trans HQ4.out)
            clear h5 tn hr5 kn hq hlo
            go_wp2_with fail
            go_ret2
            exact ReadsP.done HQ5.out.symm HT5.out ⟨_, rfl, HR5.out⟩ HK5.out
/-- A node that has but a kind and a place. -/
abbrev nodeC (k : Int) (t : TokD) : Array Value := #[.int .i64 k, .string ⟨#[]⟩, .int .i64 0, .int .i64 (t.line : Nat), .int .i64 (t.col : Nat), .slice none 0 0, .slice none 0 0, .slice none 0 0]
set_option maxRecDepth 100000 in
set_option maxHeartbeats 4000000 in
theorem here_any (d : Int) (w : World) (bp B : Nat) (ts : List TokD) (h : TkAt w bp B ts d) (k : Int) :
    Calls Tryz.prog 89 #[.pointer (some ⟨bp, 0, none⟩), .int .i64 k] w fun e w' => e = .returned (.agg (nodeC k (nextP ts))) ∧ Below w.heap.size w w' := by
  have hlt := h.lt
  obtain ⟨W, hW⟩ : ∃ W, w.alloc (.cells #[.int .i64 0, .string ⟨#[]⟩, .int .i64 0, .int .i64 0, .int .i64 0, .slice none 0 0, .slice none 0 0, .slice none 0 0] 49) = W := ⟨_, rfl⟩
  have hb0 : Below w.heap.size w W := by rw [← hW]; exact new1 _ _
  have hs0 : W.heap.size = w.heap.size + 1 := by rw [← hW]; simp
  have hblk : W.heap[w.heap.size]? = some (.cells #[.int .i64 0, .string ⟨#[]⟩, .int .i64 0, .int .i64 0, .int .i64 0, .slice none 0 0, .slice none 0 0, .slice none 0 0] 49) := by rw [← hW]; exact at1 _ _
  have hk := h.below hb0
  have HN := hid (fun (w' : World) (hb : Below W.heap.size W w') => nxt_any w' bp B ts d (hk.below hb))
  have HW := hid hW
  have HB0 := hid hb0
  have HBLK := hid hblk
  have HD0 : Hid (Below W.heap.size W W.drew) := hid ⟨rfl, rfl, rfl, Nat.le_refl _, fun _ _ => rfl⟩
  clear h hk hW hb0 hblk
  generalize nextP ts = t at *
  have f2 : ∀ w : World, (Instr.field 70 (tokG t) 2).run Tryz.prog w = .ok (.int .i64 (t.line : Nat)) w := fun _ => by kernel_rfl
  have f3 : ∀ w : World, (Instr.field 70 (tokG t) 3).run Tryz.prog w = .ok (.int .i64 (t.col : Nat)) w := fun _ => by kernel_rfl
  go_enter Tryz.func89, Tryz.ntmps89
  go_wp2_with fail
  rw [HW.out]
  refine region_x (S := fun w' => Below W.heap.size W w') (x := 12) (by kernel_rfl) ?_
  try simp only [Act.put, List.getElem_toArray, List.getElem_cons_zero, List.getElem_cons_succ, List.setIfInBounds_toArray, List.set_cons_zero, List.set_cons_succ]
  refine tx 0 (.int .i64 k) HD0.out ?_
  refine tx 1 (.pointer (some ⟨bp, 0, none⟩)) HD0.out ?_
  refine tx 2 (.pointer (some ⟨bp, 0, none⟩)) HD0.out ?_
  refine tx 3 (.pointer (some ⟨bp, 0, none⟩)) HD0.out ?_
  refine tx 6 (.pointer (some ⟨bp, 0, none⟩)) HD0.out ?_
  refine tx 7 (.pointer (some ⟨bp, 0, none⟩)) HD0.out ?_
  refine tx 8 (.pointer (some ⟨bp, 0, none⟩)) HD0.out ?_
  refine anyX_ready (rs := [4]) (by kernel_rfl) (by simp) ?_
  refine ReadyX.cons rfl (fun K hK => ?_) (ReadyX.nil)
  go_simp
  refine (HN.out _ HD0.out).mono ?_
  rintro e w2 ⟨rfl, hb⟩
  have HB2 := hid (HD0.out.trans (hb.mono HD0.out.size))
  clear hb
  refine hK.out _ _ HB2.out ?_
  clear hK K
  try simp only [Act.put, List.getElem_toArray, List.getElem_cons_zero, List.getElem_cons_succ, List.setIfInBounds_toArray, List.set_cons_zero, List.set_cons_succ]
  refine tx 5 (.int .i64 (t.line : Nat)) HB2.out ?_
  refine anyX_ready (rs := [9]) (by kernel_rfl) (by simp) ?_
  refine ReadyX.cons rfl (fun K hK => ?_) (ReadyX.nil)
  go_simp
  refine (HN.out _ HB2.out).mono ?_
  rintro e w3 ⟨rfl, hb⟩
  have HB3 := hid (HB2.out.trans (hb.mono HB2.out.size))
  clear hb
  refine hK.out _ _ HB3.out ?_
  clear hK K
  try simp only [Act.put, List.getElem_toArray, List.getElem_cons_zero, List.getElem_cons_succ, List.setIfInBounds_toArray, List.set_cons_zero, List.set_cons_succ]
  refine tx 10 (.int .i64 (t.col : Nat)) HB3.out ?_
  refine tx 11 (.agg (nodeC k t)) HB3.out ?_
  have hR := HB3.out.block _ (block_lt HBLK.out) |>.trans HBLK.out
  obtain ⟨c0, c1, c2, c3, c4, c5, c6, c7, cz⟩ := cells8 hR
  have HR := hid hR
  clear hR
  refine anyX_ready (rs := [12]) (by kernel_rfl) (by simp) ?_
  refine ReadyX.past rfl (by kernel_rfl) (fun K hK => ?_) (ReadyX.nil)
  go_simp
  refine hK.out _ _ ?_
  clear hK K
  try simp only [Act.put, List.getElem_toArray, List.getElem_cons_zero, List.getElem_cons_succ, List.setIfInBounds_toArray, List.set_cons_zero, List.set_cons_succ]
  refine anyX_done (by kernel_rfl) ?_ _
  go_wp2_with fail
  refine bodyPost_ret (res_cell rfl rfl (put8_block HR.out _ _ _ _ _ _ _ _) Tryz.underlying49 rfl (by kernel_rfl)) rfl ?_
  have t1 := (Turn.of_below (F := fun _ => False) (HB0.out.trans (HB3.out.mono (by omega)))).trans (put8_turn w3 w.heap.size (.int .i64 k) (.string ⟨#[]⟩) (.int .i64 0) (.int .i64 (t.line : Nat)) (.int .i64 (t.col : Nat)) (.slice none 0 0) (.slice none 0 0) (.slice none 0 0)) (fun i hi e => by omega)
  exact ⟨rfl, t1.below (Nat.le_refl _) (fun _ _ => id)⟩
end Go.Proofs.YtmbppnbekkbibaaGreatDoor
end
section
/- An element that is laid at a row's end in place, and the row's value into a struct's cell: in either order. -/
set_option linter.unusedVariables false
namespace Go.Proofs.YtmbppnbekkbibaaGreatDoor
open Go.RowKit

theorem inplace {α : Type} {R : World → (Nat → Prop) → List Value → α → Prop} {k : Nat} (hR : FootR R k) (hk : 0 < k) {e : TypeId} {base bp cb ci g : Nat} {F : Nat → Prop} {w w6 w7 : World} {v v7 : Value} {l : List α} {x : α} {z ys zs : List Value} {n7 : Nat}
    (hy : w.ownsRow base e k v l.length ys) (hr : TRow (R w (NewB F v)) k ys l) (t : Turn (fun j => j = bp) w w6) (hx : R w6 (fun j => w.heap.size ≤ j) z x) (hzs : zs.length = k) (h7 : w7.ownsRow base e k v7 n7 (ys ++ zs)) (hg : w6.grownBy w7 v.ownBlock)
    (hbk : v7.ownBlock = v.ownBlock ∨ v7.ownBlock = some w6.heap.size) (hv : v7.ownBlock = some g) (hcb : cb < base) (hbp : ¬ F bp) (hcF : ¬ F cb) (hF : ∀ j, w.heap.size ≤ j → F j) (hbs : base ≤ w.heap.size) (w8 : World)
    (h8 : w8 = (putC w7 g (l.length * k) z).setCell ⟨cb, ci, none⟩ v7 ∨ w8 = putC (w7.setCell ⟨cb, ci, none⟩ v7) g (l.length * k) z) :
    RowG R k e w8 base F v7 (l ++ [x]) ∧ Turn (fun j => v.ownBlock = some j ∨ j = cb) w6 w8 ∧ Turn (fun j => j = g ∨ j = cb) w7 w8 ∧ (∀ cs T, w7.heap[cb]? = some (.cells cs T (0, 0)) → w8.heap[cb]? = some (.cells (cs.setIfInBounds ci v7) T (0, 0))) ∧ (∀ j, j < w6.heap.size → v7.ownBlock = some j → v.ownBlock = some j) := by
  have hz : z.length = k := hR.len hx
  have hyl : ys.length = l.length * k := hy.1
  have hs6 := t.size
  have hg7 := h7.lt g hv
  have tg := Turn.of_grown hg (F := fun j => v.ownBlock = some j) (fun k h => h)
  have hkl := hy.lt
  have hgn : ∀ j, j < w6.heap.size → j = g → v.ownBlock = some j := fun j hj e => by
    subst e
    rcases hbk with hb | hb
    · rw [← hb]; exact hv
    · rw [hb] at hv; injection hv with hv; omega
  have tp := fun (w : World) => putC_turn g z w (l.length * k)
  have ts := fun (w : World) => turn_set w cb ci v7
  have hgc : g ≠ cb := by omega
  have t78 : Turn (fun j => j = g ∨ j = cb) w7 w8 := by
    rcases h8 with rfl | rfl
    · exact ((tp w7).mono (G := fun j => j = g ∨ j = cb) fun _ _ h => .inl h).trans (ts _) (fun _ _ h => .inr h)
    · exact ((ts w7).mono (G := fun j => j = g ∨ j = cb) fun _ _ h => .inr h).trans (tp _) (fun _ _ h => .inl h)
  have t68 : Turn (fun j => v.ownBlock = some j ∨ j = cb) w6 w8 := (tg.mono (G := fun j => v.ownBlock = some j ∨ j = cb) fun _ _ h => .inl h).trans t78 (fun i hi e => by
    rcases e with e | e
    · exact .inl (hgn i hi e)
    · exact .inr e)
  have hrow : w8.ownsRow base e k v7 n7 (ys ++ z) := by
    rcases h8 with rfl | rfl
    · exact own_turn (own_end h7 hv (by omega) hyl) (ts _) (fun k hk e => by rw [hv] at hk; injection hk with hk; omega)
    · exact own_end (own_turn h7 (ts _) (fun k hk e => by rw [hv] at hk; injection hk with hk; omega)) hv (by omega) hyl
  refine ⟨RowG.push hR hy hr t hx t68 (fun j hj e => ?_) (hbk.imp id fun e => ⟨_, Nat.le_refl _, e⟩) hrow hk hbp hF, t68, t78, fun cs T hb => ?_, fun j hj e => hgn j hj (by rw [hv] at e; injection e with e; omega)⟩
  · rcases e with e | e
    · exact .inl e
    · exact .inr ⟨by rw [e]; exact hcF, by omega⟩
  · rcases h8 with rfl | rfl
    · exact heap_setCell_same _ _ ci _ _ _ (block_turn hb (tp _) (by omega))
    · exact block_turn (heap_setCell_same _ _ ci _ _ _ hb) (tp _) (by omega)
end Go.Proofs.YtmbppnbekkbibaaGreatDoor
end
section
/- The contract of kids. -/
set_option linter.unusedVariables false
namespace Go.Proofs.YtmbppnbekkbibaaGreatDoor
open Go.RowKit

/-- The contract of expr, with what it reads of a row. -/
def ExprC (d : Int) (expr : Ps NoD) : Prop := ∀ (w : World) (bp B : Nat) (ts : List TokD), TkAt w bp B ts d →
  Calls Tryz.prog 49 #[.pointer (some ⟨bp, 0, none⟩)] w (ReadsP (PNo w.heap.size) bp B d w (expr ts))
abbrev Nos (base : Nat) (F : Nat → Prop) (w : World) (v : Value) (l : List NoD) : Prop := RowG NoG 8 49 w base F v l
/-- A node while its kids are read. -/
def KidI (nb base : Nat) (F : Nat → Prop) (a0 a1 a2 a3 a4 a5 a6 : Value) (w : World) (l : List NoD) : Prop :=
  ∃ v, w.heap[nb]? = some (.cells #[a0, a1, a2, a3, a4, a5, a6, v] 49 (0, 0)) ∧ Nos base F w v l
theorem KidI.turn {nb base bp : Nat} {F : Nat → Prop} {a0 a1 a2 a3 a4 a5 a6 : Value} {w w' : World} {l : List NoD} (h : KidI nb base F a0 a1 a2 a3 a4 a5 a6 w l) (t : Turn (fun k => k = bp) w w') (h1 : nb ≠ bp) (h2 : bp < base) (h3 : ¬ F bp) : KidI nb base F a0 a1 a2 a3 a4 a5 a6 w' l := by
  obtain ⟨v, hb, hr⟩ := h
  exact ⟨v, block_turn hb t h1, hr.turn foot_no t (fun g hg e => by have := (hr.lt g hg).1; omega) (fun g _ hg e => h3 (e ▸ hg))⟩
theorem kidsP_cons (expr : Ps NoD) (s : Bt) (r : List Bt) (l : List NoD) : kidsP expr (s :: r) l = thenP (if s = [] then retP () else wantP s) fun _ => thenP expr fun x => kidsP expr r (l ++ [x]) := rfl
set_option maxRecDepth 100000 in
set_option maxHeartbeats 8000000 in
theorem kids_any (d : Int) (expr : Ps NoD) (HEX : ExprC d expr) (w : World) (bp B nb base : Nat) (F : Nat → Prop) (ts : List TokD) (h : TkAt w bp B ts d) (a0 a1 a2 a3 a4 a5 a6 v : Value) (l : List NoD) (hblk : w.heap[nb]? = some (.cells #[a0, a1, a2, a3, a4, a5, a6, v] 49 (0, 0))) (hrow : Nos base F w v l)
    (va : Value) (a : List Bt) (ha : SlG w (fun j => j ≠ bp ∧ j ≠ nb ∧ v.ownBlock ≠ some j) 1 va (svs a)) (hal : a.length ≤ 3) (hl : l.length ≤ 8900) (hbp : bp < nb) (hnb : nb < base) (hbs : base ≤ w.heap.size) (hFbp : ¬ F bp) (hFnb : ¬ F nb) (hFn : ∀ j, w.heap.size ≤ j → F j) :
    Calls Tryz.prog 94 #[.pointer (some ⟨bp, 0, none⟩), .pointer (some ⟨nb, 0, none⟩), va] w (AddsP (KidI nb base F a0 a1 a2 a3 a4 a5 a6) (fun k => k = bp ∨ k = nb ∨ v.ownBlock = some k) bp B d w (kidsP expr a l ts)) := by
  have hlt := h.lt
  have hB := h.1
  obtain ⟨A, na, ca, hva, hla, hna, hca, hxa⟩ := ha
  have hna' : na = a.length := by rw [svs_length] at hla; omega
  subst hna'
  have hx : 0 < a.length → ∃ b off, A = some ⟨b, off, none⟩ ∧ (b ≠ bp ∧ b ≠ nb ∧ v.ownBlock ≠ some b) ∧ b < w.heap.size ∧ ∀ (j : Nat) (s : Bt), a[j]? = some s → w.cell? ⟨b, off + j, none⟩ = some (sv s) := fun h0 => by
    obtain ⟨b, o, h1, h2, h3, h4⟩ := hxa h0
    refine ⟨b, o, h1, h2, h3, fun j s hj => h4 j _ ?_⟩
    obtain ⟨hj1, rfl⟩ := List.getElem?_eq_some_iff.1 hj
    exact svs_get a j hj1
  have HX := hid hx
  subst hva
  obtain ⟨Q, hQ⟩ : ∃ Q, kidsP expr a l ts = Q := ⟨_, rfl⟩
  rw [hQ]
  have HQ := hid hQ
  have H0 := hid h
  have HBL := hid hblk
  have HRW := hid hrow
  clear h hQ hblk hrow hx hxa hla
  obtain ⟨m, hm⟩ : ∃ m, a.length = m := ⟨_, rfl⟩
  rw [hm] at hna HX hal
  rw [hm]
  have HM := hid hm
  clear hm
  go_enter Tryz.func94, Tryz.ntmps94
  go_wp2_with fail
  go_loopw [10] (fun v10 wr => ∃ (k : Nat) (lk : List NoD) (r : List TokD), v10 = .int .i64 k ∧ k ≤ m ∧ kidsP expr (a.drop k) lk r = Q ∧ lk.length = l.length + k ∧ Turn (fun j => j = bp ∨ j = nb ∨ v.ownBlock = some j) w wr ∧ (∃ vk, wr.heap[nb]? = some (.cells #[a0, a1, a2, a3, a4, a5, a6, vk] 49 (0, 0)) ∧ Nos base F wr vk lk ∧ ∀ i, i < w.heap.size → vk.ownBlock = some i → v.ownBlock = some i) ∧ TkAt wr bp B r d) (fun v10 _ => m - (intOf v10).toNat)
  case atStart => exact ⟨0, l, ts, rfl, by omega, HQ.out, by omega, Turn.refl _ _, ⟨v, HBL.out, HRW.out, fun _ _ h => h⟩, H0.out⟩
  case round =>
    obtain ⟨k, lk, r, rfl, hk, hinv, hlk, htr, hki, hkr⟩ := hrel
    have HTR := hid htr
    by_cases hlt2 : k < m
    · have hlt3 : k < a.length := by rw [HM.out]; exact hlt2
      obtain ⟨b, o, rfl, hb, hbw, hcell⟩ := HX.out (by omega)
      obtain ⟨s, hs⟩ : ∃ s, a[k]? = some s := ⟨_, List.getElem?_eq_getElem hlt3⟩
      have d00 := hcell k s hs
      have d0 := tcell d00 htr (fun e => by rcases e with e | e | e; exact hb.1 e; exact hb.2.1 e; exact hb.2.2 e)
      obtain ⟨hj1, hj2⟩ := List.getElem?_eq_some_iff.1 hs
      have hd : a.drop k = s :: a.drop (k + 1) := by rw [← hj2]; exact List.drop_eq_getElem_cons hlt3
      rw [hd, kidsP_cons] at hinv
      have HI := hid hinv
      have HKI := hid hki
      have HKR := hid hkr
      have hsr := htr.size
      have HLK := hid hlk
      clear hs hj1 hj2 hd hinv htr d00 hki hkr hlt3 hcell hlk
      by_cases hs0 : s = []
      · subst hs0
        have HI2 : Hid (thenP expr (fun x => kidsP expr (a.drop (k + 1)) (lk ++ [x])) r = Q) := hid (by have := HI.out; rw [if_pos rfl] at this; exact this)
        obtain ⟨vk, hblk, hrow, hown⟩ := HKI.out
        obtain ⟨Ak, ck, hvk, hck, hmk⟩ := hrow.shape
        subst hvk
        have HROW := hid hrow
        have HOWN := hid hown
        have HBLK := hid hblk
        have e7 : wr.cell? ⟨nb, 7, none⟩ = some (.slice Ak lk.length ck) := (cell_of_row _ _ _ _ _ _ hblk).trans rfl
        have PN := hid (fun (w' : World) (h : Turn (fun j => j = bp ∨ base ≤ j) wr w') => tcell e7 h (by omega))
        have hsn : base ≤ wr.heap.size := by omega
        have hlk2 : lk.length ≤ 9000 := by have := HLK.out; omega
        clear hblk hrow hown
        have HD0 : Hid (Turn (fun j => j = bp ∨ base ≤ j) wr wr.drew) := hid ⟨rfl, rfl, rfl, Nat.le_refl _, fun _ _ _ => rfl⟩
        have HDB : Hid (Turn (fun j => j = bp) wr wr.drew) := hid ⟨rfl, rfl, rfl, Nat.le_refl _, fun _ _ _ => rfl⟩
        go_wp2_with fail
        refine region_x (S := fun w' => Turn (fun j => j = bp ∨ base ≤ j) wr w') (x := 13) (by kernel_rfl) ?_
        try simp only [Act.put, List.getElem_toArray, List.getElem_cons_zero, List.getElem_cons_succ, List.setIfInBounds_toArray, List.set_cons_zero, List.set_cons_succ]
        refine tx 0 (.pointer (some ⟨nb, 0, none⟩)) HD0.out ?_
        refine tx 1 (.pointer (some ⟨nb, 0, none⟩)) HD0.out ?_
        refine tx 2 (.pointer (some ⟨nb, 7, none⟩)) HD0.out ?_
        refine txf 3 (.slice Ak lk.length ck) PN.out HD0.out ?_
        refine tx 4 (.pointer (some ⟨bp, 0, none⟩)) HD0.out ?_
        refine tx 6 (.int .i64 (lk.length : Int)) HD0.out ?_
        refine anyX_ready (rs := [5, 7]) (by kernel_rfl) (by simp) ?_
        refine ReadyX.cons rfl (fun K hK => ?_) (ReadyX.cons rfl (fun K hK => ?_) ReadyX.nil)
        · have HW9 := HDB
          have HTC := hid (HEX wr.drew bp B r HKR.out)
          go_simp
          refine (HTC.out).mono ?_
          rintro e w10 h10
          rcases hq : expr r with g | ⟨x, r10⟩
          · obtain ⟨rfl, tn, bn⟩ := h10.bad_ hq
            have tn := HW9.out.trans tn (fun _ _ h => h)
            have HQB := hid (HI2.out.symm.trans (thenP_bad hq))
            exact ⟨rfl, AddsP.fail HQB.out (HTR.out.trans tn (fun _ _ h => .inl h)) bn⟩
          · obtain ⟨v10, rfl, tn, ⟨z, rfl, hz⟩, kn⟩ := h10.good_ hq
            obtain ⟨kz, sz, nz, lz, oz, Az1, nz1, cz1, Az2, nz2, cz2, Az3, nz3, cz3, rfl⟩ := hz.shape'
            have HT10 := hid (HW9.out.trans tn (fun _ _ h => h))
            have HS10 := hid (HT10.out.mono (G := fun j => j = bp ∨ base ≤ j) (fun _ _ h => .inl h))
            have HK10 := hid kn
            have HQR := hid hq
            have HZ := hid (foot_no.mono hz (G := fun j => wr.heap.size ≤ j) (fun _ _ h => Nat.le_trans HW9.out.size h))
            clear h10 tn kn hq hz
            refine hK.out _ _ HS10.out ?_
            clear hK K
            try simp only [Act.put, List.getElem_toArray, List.getElem_cons_zero, List.getElem_cons_succ, List.setIfInBounds_toArray, List.set_cons_zero, List.set_cons_succ]
            refine anyX_ready (rs := [7]) (by kernel_rfl) (by simp) ?_
            refine ReadyX.cons rfl (fun K hK => ?_) (ReadyX.nil)
            go_simp
            have HTQ := hid (HT10.out.trans (Turn.alloc (fun j => j = bp) w10 (.cells #[.int .i64 0, .string ⟨#[]⟩, .int .i64 0, .int .i64 0, .int .i64 0, .slice none 0 0, .slice none 0 0, .slice none 0 0] 49)) (fun _ _ h => h))
            have HSQ := hid (HTQ.out.mono (G := fun j => j = bp ∨ base ≤ j) (fun _ _ h => .inl h))
            have HZQ := hid (foot_no.turn HZ.out (Turn.alloc (fun _ => False) w10 (.cells #[.int .i64 0, .string ⟨#[]⟩, .int .i64 0, .int .i64 0, .int .i64 0, .slice none 0 0, .slice none 0 0, .slice none 0 0] 49)) (fun _ _ _ => id))
            have HKQ := hid (HK10.out.below (new1 w10 (.cells #[.int .i64 0, .string ⟨#[]⟩, .int .i64 0, .int .i64 0, .int .i64 0, .slice none 0 0, .slice none 0 0, .slice none 0 0] 49)))
            have HSL := hid (sl_new w10 #[.int .i64 0, .string ⟨#[]⟩, .int .i64 0, .int .i64 0, .int .i64 0, .slice none 0 0, .slice none 0 0, .slice none 0 0] 49 8 1 rfl (by decide))
            refine hK.out _ _ HSQ.out ?_
            clear hK K
            try simp only [Act.put, List.getElem_toArray, List.getElem_cons_zero, List.getElem_cons_succ, List.setIfInBounds_toArray, List.set_cons_zero, List.set_cons_succ]
            refine anyX_ready (rs := [8]) (by kernel_rfl) (by simp) ?_
            refine ReadyX.cons rfl (fun K hK => ?_) (ReadyX.nil)
            obtain ⟨ys, hy, hr⟩ := HROW.out
            have hyl : ys.length = lk.length * 8 := by have := hy.1; simpa using this
            have HROWQ := hid (own_turn hy HTQ.out (fun g hg e => by have := (hy.lt g hg).1; omega))
            refine step_app rfl (.tmp 25) (.tmp 29) _ rfl base el_no (.slice Ak lk.length ck) _ rfl rfl HROWQ.out HSL.out no0_one (by simp [maxLen]; omega) (by simp; omega) (by have := HTQ.out.size; omega) (fun v7 w7 n7 hown7 hg7 hbk7 => ?_)
            have hn7 : n7 = lk.length + 1 := by have := hown7.1; rw [List.length_append, hyl] at this; simp at this; omega
            subst hn7
            obtain ⟨g7, c7, rfl, hgb, hgs, hc7, hm7⟩ := own_form hown7 (by omega)
            have he := fun w8 => inplace foot_no (by omega) (cb := nb) (ci := 7) hy hr HTQ.out HZQ.out (by rfl) hown7 hg7 hbk7 rfl (by omega) hFbp hFnb (fun j hj => hFn j (by omega)) (by omega) w8
            simp only [List.length_map] at he
            have HE := hid he
            have HS7 := hid ((HTQ.out.mono (G := fun j => j = bp ∨ base ≤ j) (fun _ _ h => .inl h)).trans (Turn.of_grown hg7 (F := fun j => j = bp ∨ base ≤ j) (fun k e => .inr (hy.lt k e).1)) (fun _ _ h => h))
            have HK7 := hid (HKQ.out.turn (Turn.of_grown hg7 (F := fun j => base ≤ j) (fun k e => (hy.lt k e).1)) (by omega) (fun k hk e => by have := HKQ.out.1; omega))
            have hb7 := block_turn HBLK.out HS7.out (by omega)
            have ec := (cell_of_row _ _ 7 _ _ _ hb7).trans rfl
            have ez := frozen_of_row _ _ 7 _ _ hb7
            have o0 := own_cell hown7 rfl (i := lk.length * 8) (u := .int .i64 0) (by rw [List.getElem?_append_right (by omega), hyl, Nat.sub_self]; rfl)
            have o1 := own_cell hown7 rfl (i := lk.length * 8 + 1) (u := .string ⟨#[]⟩) (by rw [List.getElem?_append_right (by omega), hyl, Nat.add_sub_cancel_left]; rfl)
            have o2 := own_cell hown7 rfl (i := lk.length * 8 + 2) (u := .int .i64 0) (by rw [List.getElem?_append_right (by omega), hyl, Nat.add_sub_cancel_left]; rfl)
            have o3 := own_cell hown7 rfl (i := lk.length * 8 + 3) (u := .int .i64 0) (by rw [List.getElem?_append_right (by omega), hyl, Nat.add_sub_cancel_left]; rfl)
            have o4 := own_cell hown7 rfl (i := lk.length * 8 + 4) (u := .int .i64 0) (by rw [List.getElem?_append_right (by omega), hyl, Nat.add_sub_cancel_left]; rfl)
            have o5 := own_cell hown7 rfl (i := lk.length * 8 + 5) (u := .slice none 0 0) (by rw [List.getElem?_append_right (by omega), hyl, Nat.add_sub_cancel_left]; rfl)
            have o6 := own_cell hown7 rfl (i := lk.length * 8 + 6) (u := .slice none 0 0) (by rw [List.getElem?_append_right (by omega), hyl, Nat.add_sub_cancel_left]; rfl)
            have o7 := own_cell hown7 rfl (i := lk.length * 8 + 7) (u := .slice none 0 0) (by rw [List.getElem?_append_right (by omega), hyl, Nat.add_sub_cancel_left]; rfl)
            obtain ⟨o0, q0⟩ := o0
            obtain ⟨o1, q1⟩ := o1
            obtain ⟨o2, q2⟩ := o2
            obtain ⟨o3, q3⟩ := o3
            obtain ⟨o4, q4⟩ := o4
            obtain ⟨o5, q5⟩ := o5
            obtain ⟨o6, q6⟩ := o6
            obtain ⟨o7, q7⟩ := o7
            have HB7 := hid hb7
            have hne1 : ¬ g7 = nb := by omega
            have hne2 : ¬ nb = g7 := by omega
            clear he hown7 hg7 hbk7 hb7 hy hr
            refine hK.out _ _ HS7.out ?_
            clear hK K
            try simp only [Act.put, List.getElem_toArray, List.getElem_cons_zero, List.getElem_cons_succ, List.setIfInBounds_toArray, List.set_cons_zero, List.set_cons_succ]
            refine tt 9 (.pointer (some ⟨g7, lk.length * 8, none⟩)) (fun _ => HS7.out) (hy := by intro w' hSw; go_simp <;> (intro h; omega)) ?_
            refine tt 11 (.pointer (some ⟨nb, 0, none⟩)) (fun _ => HS7.out) ?_
            refine tt 12 (.pointer (some ⟨nb, 7, none⟩)) (fun _ => HS7.out) ?_
            refine anyX_ready (rs := [10, 13]) (by kernel_rfl) (by simp) ?_
            refine ReadyX.cons rfl (fun K hK => ?_) (ReadyX.past rfl (by kernel_rfl) (fun K hK => ?_) ReadyX.nil)
            · go_simp
              have HSA := hid (HS7.out.trans (putC_turn g7 [.int .i64 kz, sv sz, .int .i64 nz, .int .i64 lz, .int .i64 oz, .slice Az1 nz1 cz1, .slice Az2 nz2 cz2, .slice Az3 nz3 cz3] w7 (lk.length * 8)) (fun _ _ h => .inr (by omega)))
              refine hK.out _ _ HSA.out ?_
              clear hK K
              try simp only [Act.put, List.getElem_toArray, List.getElem_cons_zero, List.getElem_cons_succ, List.setIfInBounds_toArray, List.set_cons_zero, List.set_cons_succ]
              refine anyX_ready (rs := [13]) (by kernel_rfl) (by simp) ?_
              refine ReadyX.past rfl (by kernel_rfl) (fun K hK => ?_) (ReadyX.nil)
              go_simp
              refine hK.out _ _ ?_
              clear hK K
              try simp only [Act.put, List.getElem_toArray, List.getElem_cons_zero, List.getElem_cons_succ, List.setIfInBounds_toArray, List.set_cons_zero, List.set_cons_succ]
              refine anyX_done (by kernel_rfl) ?_ _
              obtain ⟨hrow8, t68, t78, hb8, how8⟩ := HE.out ((putC w7 g7 (lk.length * 8) [.int .i64 kz, sv sz, .int .i64 nz, .int .i64 lz, .int .i64 oz, .slice Az1 nz1 cz1, .slice Az2 nz2 cz2, .slice Az3 nz3 cz3]).setCell ⟨nb, 7, none⟩ (.slice (some ⟨g7, 0, none⟩) (lk.length + 1) c7)) (.inl rfl)
              have hblk8 := hb8 _ _ HB7.out
              have hk8 := HK7.out.turn t78 (fun e => by rcases e with e | e <;> omega) (fun k hk e => by have := HKQ.out.1; rcases e with e | e <;> omega)
              have hlo := HROW.out.lt
              have HQN : Hid (kidsP expr (a.drop (k + 1)) (lk ++ [x]) r10 = Q) := hid ((thenP_good HQR.out).symm.trans HI2.out)
              go_wp2_with fail
              go_roundw
              case rel => exact ⟨k + 1, _, r10, rfl, by omega, HQN.out, by have := HLK.out; simp; omega, HTR.out.trans (HTQ.out.mono (G := fun j => j = bp ∨ (Value.slice Ak lk.length ck).ownBlock = some j ∨ j = nb) (fun _ _ h => .inl h) |>.trans t68 (fun _ _ h => .inr h)) (fun i hi e => by rcases e with e | e | e; exact .inl e; exact .inr (.inr (HOWN.out i hi e)); exact .inr (.inl e)), ⟨_, hblk8, hrow8, fun i hi e => HOWN.out i hi (how8 i (by have := HTQ.out.size; omega) e)⟩, hk8⟩
              case measure => simp [intOf]; omega
            · go_simp
              refine hK.out _ _ ?_
              clear hK K
              try simp only [Act.put, List.getElem_toArray, List.getElem_cons_zero, List.getElem_cons_succ, List.setIfInBounds_toArray, List.set_cons_zero, List.set_cons_succ]
              refine anyX_ready (rs := [10]) (by kernel_rfl) (by simp) ?_
              refine ReadyX.past rfl (by kernel_rfl) (fun K hK => ?_) (ReadyX.nil)
              go_simp
              refine hK.out _ _ ?_
              clear hK K
              try simp only [Act.put, List.getElem_toArray, List.getElem_cons_zero, List.getElem_cons_succ, List.setIfInBounds_toArray, List.set_cons_zero, List.set_cons_succ]
              refine anyX_done (by kernel_rfl) ?_ _
              obtain ⟨hrow8, t68, t78, hb8, how8⟩ := HE.out (putC (w7.setCell ⟨nb, 7, none⟩ (.slice (some ⟨g7, 0, none⟩) (lk.length + 1) c7)) g7 (lk.length * 8) [.int .i64 kz, sv sz, .int .i64 nz, .int .i64 lz, .int .i64 oz, .slice Az1 nz1 cz1, .slice Az2 nz2 cz2, .slice Az3 nz3 cz3]) (.inr rfl)
              have hblk8 := hb8 _ _ HB7.out
              have hk8 := HK7.out.turn t78 (fun e => by rcases e with e | e <;> omega) (fun k hk e => by have := HKQ.out.1; rcases e with e | e <;> omega)
              have hlo := HROW.out.lt
              have HQN : Hid (kidsP expr (a.drop (k + 1)) (lk ++ [x]) r10 = Q) := hid ((thenP_good HQR.out).symm.trans HI2.out)
              go_wp2_with fail
              go_roundw
              case rel => exact ⟨k + 1, _, r10, rfl, by omega, HQN.out, by have := HLK.out; simp; omega, HTR.out.trans (HTQ.out.mono (G := fun j => j = bp ∨ (Value.slice Ak lk.length ck).ownBlock = some j ∨ j = nb) (fun _ _ h => .inl h) |>.trans t68 (fun _ _ h => .inr h)) (fun i hi e => by rcases e with e | e | e; exact .inl e; exact .inr (.inr (HOWN.out i hi e)); exact .inr (.inl e)), ⟨_, hblk8, hrow8, fun i hi e => HOWN.out i hi (how8 i (by have := HTQ.out.size; omega) e)⟩, hk8⟩
              case measure => simp [intOf]; omega
        · skip
          go_simp
          have HSD := hid (HD0.out.trans (Turn.alloc (fun j => j = bp ∨ base ≤ j) wr.drew (.cells #[.int .i64 0, .string ⟨#[]⟩, .int .i64 0, .int .i64 0, .int .i64 0, .slice none 0 0, .slice none 0 0, .slice none 0 0] 49)) (fun _ _ h => h))
          have HTC := hid (HEX _ bp B r (TkAt.below (w := wr.drew) HKR.out (new1 wr.drew (.cells #[.int .i64 0, .string ⟨#[]⟩, .int .i64 0, .int .i64 0, .int .i64 0, .slice none 0 0, .slice none 0 0, .slice none 0 0] 49))))
          have HW9 := hid (HDB.out.trans (Turn.alloc (fun j => j = bp) wr.drew (.cells #[.int .i64 0, .string ⟨#[]⟩, .int .i64 0, .int .i64 0, .int .i64 0, .slice none 0 0, .slice none 0 0, .slice none 0 0] 49)) (fun _ _ h => h))
          refine hK.out _ _ HSD.out ?_
          clear hK K
          try simp only [Act.put, List.getElem_toArray, List.getElem_cons_zero, List.getElem_cons_succ, List.setIfInBounds_toArray, List.set_cons_zero, List.set_cons_succ]
          refine anyX_ready (rs := [5]) (by kernel_rfl) (by simp) ?_
          refine ReadyX.cons rfl (fun K hK => ?_) (ReadyX.nil)
          go_simp
          refine (HTC.out).mono ?_
          rintro e w10 h10
          rcases hq : expr r with g | ⟨x, r10⟩
          · obtain ⟨rfl, tn, bn⟩ := h10.bad_ hq
            have tn := HW9.out.trans tn (fun _ _ h => h)
            have HQB := hid (HI2.out.symm.trans (thenP_bad hq))
            exact ⟨rfl, AddsP.fail HQB.out (HTR.out.trans tn (fun _ _ h => .inl h)) bn⟩
          · obtain ⟨v10, rfl, tn, ⟨z, rfl, hz⟩, kn⟩ := h10.good_ hq
            obtain ⟨kz, sz, nz, lz, oz, Az1, nz1, cz1, Az2, nz2, cz2, Az3, nz3, cz3, rfl⟩ := hz.shape'
            have HT10 := hid (HW9.out.trans tn (fun _ _ h => h))
            have HS10 := hid (HT10.out.mono (G := fun j => j = bp ∨ base ≤ j) (fun _ _ h => .inl h))
            have HK10 := hid kn
            have HQR := hid hq
            have HZ := hid (foot_no.mono hz (G := fun j => wr.heap.size ≤ j) (fun _ _ h => Nat.le_trans HW9.out.size h))
            have HTQ := HT10
            have HZQ := HZ
            have HKQ := HK10
            have HSL := hid (sl_new_turn wr.drew #[.int .i64 0, .string ⟨#[]⟩, .int .i64 0, .int .i64 0, .int .i64 0, .slice none 0 0, .slice none 0 0, .slice none 0 0] 49 8 1 rfl (by decide) tn (by have hs : wr.drew.heap.size = wr.heap.size := rfl; omega))
            clear h10 tn kn hq hz
            refine hK.out _ _ HS10.out ?_
            clear hK K
            try simp only [Act.put, List.getElem_toArray, List.getElem_cons_zero, List.getElem_cons_succ, List.setIfInBounds_toArray, List.set_cons_zero, List.set_cons_succ]
            refine anyX_ready (rs := [8]) (by kernel_rfl) (by simp) ?_
            refine ReadyX.cons rfl (fun K hK => ?_) (ReadyX.nil)
            obtain ⟨ys, hy, hr⟩ := HROW.out
            have hyl : ys.length = lk.length * 8 := by have := hy.1; simpa using this
            have HROWQ := hid (own_turn hy HTQ.out (fun g hg e => by have := (hy.lt g hg).1; omega))
            refine step_app rfl (.tmp 25) (.tmp 29) _ rfl base el_no (.slice Ak lk.length ck) _ rfl rfl HROWQ.out HSL.out no0_one (by simp [maxLen]; omega) (by simp; omega) (by have := HTQ.out.size; omega) (fun v7 w7 n7 hown7 hg7 hbk7 => ?_)
            have hn7 : n7 = lk.length + 1 := by have := hown7.1; rw [List.length_append, hyl] at this; simp at this; omega
            subst hn7
            obtain ⟨g7, c7, rfl, hgb, hgs, hc7, hm7⟩ := own_form hown7 (by omega)
            have he := fun w8 => inplace foot_no (by omega) (cb := nb) (ci := 7) hy hr HTQ.out HZQ.out (by rfl) hown7 hg7 hbk7 rfl (by omega) hFbp hFnb (fun j hj => hFn j (by omega)) (by omega) w8
            simp only [List.length_map] at he
            have HE := hid he
            have HS7 := hid ((HTQ.out.mono (G := fun j => j = bp ∨ base ≤ j) (fun _ _ h => .inl h)).trans (Turn.of_grown hg7 (F := fun j => j = bp ∨ base ≤ j) (fun k e => .inr (hy.lt k e).1)) (fun _ _ h => h))
            have HK7 := hid (HKQ.out.turn (Turn.of_grown hg7 (F := fun j => base ≤ j) (fun k e => (hy.lt k e).1)) (by omega) (fun k hk e => by have := HKQ.out.1; omega))
            have hb7 := block_turn HBLK.out HS7.out (by omega)
            have ec := (cell_of_row _ _ 7 _ _ _ hb7).trans rfl
            have ez := frozen_of_row _ _ 7 _ _ hb7
            have o0 := own_cell hown7 rfl (i := lk.length * 8) (u := .int .i64 0) (by rw [List.getElem?_append_right (by omega), hyl, Nat.sub_self]; rfl)
            have o1 := own_cell hown7 rfl (i := lk.length * 8 + 1) (u := .string ⟨#[]⟩) (by rw [List.getElem?_append_right (by omega), hyl, Nat.add_sub_cancel_left]; rfl)
            have o2 := own_cell hown7 rfl (i := lk.length * 8 + 2) (u := .int .i64 0) (by rw [List.getElem?_append_right (by omega), hyl, Nat.add_sub_cancel_left]; rfl)
            have o3 := own_cell hown7 rfl (i := lk.length * 8 + 3) (u := .int .i64 0) (by rw [List.getElem?_append_right (by omega), hyl, Nat.add_sub_cancel_left]; rfl)
            have o4 := own_cell hown7 rfl (i := lk.length * 8 + 4) (u := .int .i64 0) (by rw [List.getElem?_append_right (by omega), hyl, Nat.add_sub_cancel_left]; rfl)
            have o5 := own_cell hown7 rfl (i := lk.length * 8 + 5) (u := .slice none 0 0) (by rw [List.getElem?_append_right (by omega), hyl, Nat.add_sub_cancel_left]; rfl)
            have o6 := own_cell hown7 rfl (i := lk.length * 8 + 6) (u := .slice none 0 0) (by rw [List.getElem?_append_right (by omega), hyl, Nat.add_sub_cancel_left]; rfl)
            have o7 := own_cell hown7 rfl (i := lk.length * 8 + 7) (u := .slice none 0 0) (by rw [List.getElem?_append_right (by omega), hyl, Nat.add_sub_cancel_left]; rfl)
            obtain ⟨o0, q0⟩ := o0
            obtain ⟨o1, q1⟩ := o1
            obtain ⟨o2, q2⟩ := o2
            obtain ⟨o3, q3⟩ := o3
            obtain ⟨o4, q4⟩ := o4
            obtain ⟨o5, q5⟩ := o5
            obtain ⟨o6, q6⟩ := o6
            obtain ⟨o7, q7⟩ := o7
            have HB7 := hid hb7
            have hne1 : ¬ g7 = nb := by omega
            have hne2 : ¬ nb = g7 := by omega
            clear he hown7 hg7 hbk7 hb7 hy hr
            refine hK.out _ _ HS7.out ?_
            clear hK K
            try simp only [Act.put, List.getElem_toArray, List.getElem_cons_zero, List.getElem_cons_succ, List.setIfInBounds_toArray, List.set_cons_zero, List.set_cons_succ]
            refine tt 9 (.pointer (some ⟨g7, lk.length * 8, none⟩)) (fun _ => HS7.out) (hy := by intro w' hSw; go_simp <;> (intro h; omega)) ?_
            refine tt 11 (.pointer (some ⟨nb, 0, none⟩)) (fun _ => HS7.out) ?_
            refine tt 12 (.pointer (some ⟨nb, 7, none⟩)) (fun _ => HS7.out) ?_
            refine anyX_ready (rs := [10, 13]) (by kernel_rfl) (by simp) ?_
            refine ReadyX.cons rfl (fun K hK => ?_) (ReadyX.past rfl (by kernel_rfl) (fun K hK => ?_) ReadyX.nil)
            · go_simp
              have HSA := hid (HS7.out.trans (putC_turn g7 [.int .i64 kz, sv sz, .int .i64 nz, .int .i64 lz, .int .i64 oz, .slice Az1 nz1 cz1, .slice Az2 nz2 cz2, .slice Az3 nz3 cz3] w7 (lk.length * 8)) (fun _ _ h => .inr (by omega)))
              refine hK.out _ _ HSA.out ?_
              clear hK K
              try simp only [Act.put, List.getElem_toArray, List.getElem_cons_zero, List.getElem_cons_succ, List.setIfInBounds_toArray, List.set_cons_zero, List.set_cons_succ]
              refine anyX_ready (rs := [13]) (by kernel_rfl) (by simp) ?_
              refine ReadyX.past rfl (by kernel_rfl) (fun K hK => ?_) (ReadyX.nil)
              go_simp
              refine hK.out _ _ ?_
              clear hK K
              try simp only [Act.put, List.getElem_toArray, List.getElem_cons_zero, List.getElem_cons_succ, List.setIfInBounds_toArray, List.set_cons_zero, List.set_cons_succ]
              refine anyX_done (by kernel_rfl) ?_ _
              obtain ⟨hrow8, t68, t78, hb8, how8⟩ := HE.out ((putC w7 g7 (lk.length * 8) [.int .i64 kz, sv sz, .int .i64 nz, .int .i64 lz, .int .i64 oz, .slice Az1 nz1 cz1, .slice Az2 nz2 cz2, .slice Az3 nz3 cz3]).setCell ⟨nb, 7, none⟩ (.slice (some ⟨g7, 0, none⟩) (lk.length + 1) c7)) (.inl rfl)
              have hblk8 := hb8 _ _ HB7.out
              have hk8 := HK7.out.turn t78 (fun e => by rcases e with e | e <;> omega) (fun k hk e => by have := HKQ.out.1; rcases e with e | e <;> omega)
              have hlo := HROW.out.lt
              have HQN : Hid (kidsP expr (a.drop (k + 1)) (lk ++ [x]) r10 = Q) := hid ((thenP_good HQR.out).symm.trans HI2.out)
              go_wp2_with fail
              go_roundw
              case rel => exact ⟨k + 1, _, r10, rfl, by omega, HQN.out, by have := HLK.out; simp; omega, HTR.out.trans (HTQ.out.mono (G := fun j => j = bp ∨ (Value.slice Ak lk.length ck).ownBlock = some j ∨ j = nb) (fun _ _ h => .inl h) |>.trans t68 (fun _ _ h => .inr h)) (fun i hi e => by rcases e with e | e | e; exact .inl e; exact .inr (.inr (HOWN.out i hi e)); exact .inr (.inl e)), ⟨_, hblk8, hrow8, fun i hi e => HOWN.out i hi (how8 i (by have := HTQ.out.size; omega) e)⟩, hk8⟩
              case measure => simp [intOf]; omega
            · go_simp
              refine hK.out _ _ ?_
              clear hK K
              try simp only [Act.put, List.getElem_toArray, List.getElem_cons_zero, List.getElem_cons_succ, List.setIfInBounds_toArray, List.set_cons_zero, List.set_cons_succ]
              refine anyX_ready (rs := [10]) (by kernel_rfl) (by simp) ?_
              refine ReadyX.past rfl (by kernel_rfl) (fun K hK => ?_) (ReadyX.nil)
              go_simp
              refine hK.out _ _ ?_
              clear hK K
              try simp only [Act.put, List.getElem_toArray, List.getElem_cons_zero, List.getElem_cons_succ, List.setIfInBounds_toArray, List.set_cons_zero, List.set_cons_succ]
              refine anyX_done (by kernel_rfl) ?_ _
              obtain ⟨hrow8, t68, t78, hb8, how8⟩ := HE.out (putC (w7.setCell ⟨nb, 7, none⟩ (.slice (some ⟨g7, 0, none⟩) (lk.length + 1) c7)) g7 (lk.length * 8) [.int .i64 kz, sv sz, .int .i64 nz, .int .i64 lz, .int .i64 oz, .slice Az1 nz1 cz1, .slice Az2 nz2 cz2, .slice Az3 nz3 cz3]) (.inr rfl)
              have hblk8 := hb8 _ _ HB7.out
              have hk8 := HK7.out.turn t78 (fun e => by rcases e with e | e <;> omega) (fun k hk e => by have := HKQ.out.1; rcases e with e | e <;> omega)
              have hlo := HROW.out.lt
              have HQN : Hid (kidsP expr (a.drop (k + 1)) (lk ++ [x]) r10 = Q) := hid ((thenP_good HQR.out).symm.trans HI2.out)
              go_wp2_with fail
              go_roundw
              case rel => exact ⟨k + 1, _, r10, rfl, by omega, HQN.out, by have := HLK.out; simp; omega, HTR.out.trans (HTQ.out.mono (G := fun j => j = bp ∨ (Value.slice Ak lk.length ck).ownBlock = some j ∨ j = nb) (fun _ _ h => .inl h) |>.trans t68 (fun _ _ h => .inr h)) (fun i hi e => by rcases e with e | e | e; exact .inl e; exact .inr (.inr (HOWN.out i hi e)); exact .inr (.inl e)), ⟨_, hblk8, hrow8, fun i hi e => HOWN.out i hi (how8 i (by have := HTQ.out.size; omega) e)⟩, hk8⟩
              case measure => simp [intOf]; omega
      · have hbq : (s == []) = false := by simpa using hs0
        have HI2 : Hid (thenP (wantP s) (fun _ => thenP expr (fun x => kidsP expr (a.drop (k + 1)) (lk ++ [x]))) r = Q) := hid (by have := HI.out; rw [if_neg hs0] at this; exact this)
        have HN := hid (want_lit wr bp B r d HKR.out s 9 wr.heap.size)
        go_wp2_with fail
        refine (HN.out).mono ?_
        rintro e w5 h5
        rcases hq : wantP s r with g | ⟨u, r5⟩
        · obtain ⟨rfl, tn, bn⟩ := h5.bad_ hq
          have HT := hid (HTR.out.trans tn (fun _ _ h => .inl h))
          have HB := hid bn
          have HQB := hid (HI2.out.symm.trans (thenP_bad hq))
          clear h5 tn bn hq
          go_wp2_with fail
          exact ⟨rfl, AddsP.fail HQB.out HT.out HB.out⟩
        · obtain ⟨v5, rfl, tn, -, kn⟩ := h5.good_ hq
          have hs5 := tn.size
          have HT5 := hid (HTR.out.trans tn (fun _ _ h => .inl h))
          have HK5 := hid kn
          have HI5 : Hid (thenP expr (fun x => kidsP expr (a.drop (k + 1)) (lk ++ [x])) r5 = Q) := hid ((thenP_good hq).symm.trans HI2.out)
          have HKI5 : Hid (∃ vk, w5.heap[nb]? = some (.cells #[a0, a1, a2, a3, a4, a5, a6, vk] 49 (0, 0)) ∧ Nos base F w5 vk lk ∧ ∀ i, i < w.heap.size → vk.ownBlock = some i → v.ownBlock = some i) := hid (by
            obtain ⟨vk, h1, h2, h3⟩ := HKI.out
            exact ⟨vk, block_turn h1 tn (by omega), h2.turn foot_no tn (fun g hg e => by have := (h2.lt g hg).1; omega) (fun g _ hg e => hFbp (e ▸ hg)), h3⟩)
          clear h5 tn kn hq
          obtain ⟨vk, hblk, hrow, hown⟩ := HKI5.out
          obtain ⟨Ak, ck, hvk, hck, hmk⟩ := hrow.shape
          subst hvk
          have HROW := hid hrow
          have HOWN := hid hown
          have HBLK := hid hblk
          have e7 : w5.cell? ⟨nb, 7, none⟩ = some (.slice Ak lk.length ck) := (cell_of_row _ _ _ _ _ _ hblk).trans rfl
          have PN := hid (fun (w' : World) (h : Turn (fun j => j = bp ∨ base ≤ j) w5 w') => tcell e7 h (by omega))
          have hsn : base ≤ w5.heap.size := by omega
          have hlk2 : lk.length ≤ 9000 := by have := HLK.out; omega
          clear hblk hrow hown
          have HD0 : Hid (Turn (fun j => j = bp ∨ base ≤ j) w5 w5.drew) := hid ⟨rfl, rfl, rfl, Nat.le_refl _, fun _ _ _ => rfl⟩
          have HDB : Hid (Turn (fun j => j = bp) w5 w5.drew) := hid ⟨rfl, rfl, rfl, Nat.le_refl _, fun _ _ _ => rfl⟩
          go_wp2_with fail
          refine region_x (S := fun w' => Turn (fun j => j = bp ∨ base ≤ j) w5 w') (x := 13) (by kernel_rfl) ?_
          try simp only [Act.put, List.getElem_toArray, List.getElem_cons_zero, List.getElem_cons_succ, List.setIfInBounds_toArray, List.set_cons_zero, List.set_cons_succ]
          refine tx 0 (.pointer (some ⟨nb, 0, none⟩)) HD0.out ?_
          refine tx 1 (.pointer (some ⟨nb, 0, none⟩)) HD0.out ?_
          refine tx 2 (.pointer (some ⟨nb, 7, none⟩)) HD0.out ?_
          refine txf 3 (.slice Ak lk.length ck) PN.out HD0.out ?_
          refine tx 4 (.pointer (some ⟨bp, 0, none⟩)) HD0.out ?_
          refine tx 6 (.int .i64 (lk.length : Int)) HD0.out ?_
          refine anyX_ready (rs := [5, 7]) (by kernel_rfl) (by simp) ?_
          refine ReadyX.cons rfl (fun K hK => ?_) (ReadyX.cons rfl (fun K hK => ?_) ReadyX.nil)
          · have HW9 := HDB
            have HTC := hid (HEX w5.drew bp B r5 HK5.out)
            go_simp
            refine (HTC.out).mono ?_
            rintro e w10 h10
            rcases hq : expr r5 with g | ⟨x, r10⟩
            · obtain ⟨rfl, tn, bn⟩ := h10.bad_ hq
              have tn := HW9.out.trans tn (fun _ _ h => h)
              have HQB := hid (HI5.out.symm.trans (thenP_bad hq))
              exact ⟨rfl, AddsP.fail HQB.out (HT5.out.trans tn (fun _ _ h => .inl h)) bn⟩
            · obtain ⟨v10, rfl, tn, ⟨z, rfl, hz⟩, kn⟩ := h10.good_ hq
              obtain ⟨kz, sz, nz, lz, oz, Az1, nz1, cz1, Az2, nz2, cz2, Az3, nz3, cz3, rfl⟩ := hz.shape'
              have HT10 := hid (HW9.out.trans tn (fun _ _ h => h))
              have HS10 := hid (HT10.out.mono (G := fun j => j = bp ∨ base ≤ j) (fun _ _ h => .inl h))
              have HK10 := hid kn
              have HQR := hid hq
              have HZ := hid (foot_no.mono hz (G := fun j => w5.heap.size ≤ j) (fun _ _ h => Nat.le_trans HW9.out.size h))
              clear h10 tn kn hq hz
              refine hK.out _ _ HS10.out ?_
              clear hK K
              try simp only [Act.put, List.getElem_toArray, List.getElem_cons_zero, List.getElem_cons_succ, List.setIfInBounds_toArray, List.set_cons_zero, List.set_cons_succ]
              refine anyX_ready (rs := [7]) (by kernel_rfl) (by simp) ?_
              refine ReadyX.cons rfl (fun K hK => ?_) (ReadyX.nil)
              go_simp
              have HTQ := hid (HT10.out.trans (Turn.alloc (fun j => j = bp) w10 (.cells #[.int .i64 0, .string ⟨#[]⟩, .int .i64 0, .int .i64 0, .int .i64 0, .slice none 0 0, .slice none 0 0, .slice none 0 0] 49)) (fun _ _ h => h))
              have HSQ := hid (HTQ.out.mono (G := fun j => j = bp ∨ base ≤ j) (fun _ _ h => .inl h))
              have HZQ := hid (foot_no.turn HZ.out (Turn.alloc (fun _ => False) w10 (.cells #[.int .i64 0, .string ⟨#[]⟩, .int .i64 0, .int .i64 0, .int .i64 0, .slice none 0 0, .slice none 0 0, .slice none 0 0] 49)) (fun _ _ _ => id))
              have HKQ := hid (HK10.out.below (new1 w10 (.cells #[.int .i64 0, .string ⟨#[]⟩, .int .i64 0, .int .i64 0, .int .i64 0, .slice none 0 0, .slice none 0 0, .slice none 0 0] 49)))
              have HSL := hid (sl_new w10 #[.int .i64 0, .string ⟨#[]⟩, .int .i64 0, .int .i64 0, .int .i64 0, .slice none 0 0, .slice none 0 0, .slice none 0 0] 49 8 1 rfl (by decide))
              refine hK.out _ _ HSQ.out ?_
              clear hK K
              try simp only [Act.put, List.getElem_toArray, List.getElem_cons_zero, List.getElem_cons_succ, List.setIfInBounds_toArray, List.set_cons_zero, List.set_cons_succ]
              refine anyX_ready (rs := [8]) (by kernel_rfl) (by simp) ?_
              refine ReadyX.cons rfl (fun K hK => ?_) (ReadyX.nil)
              obtain ⟨ys, hy, hr⟩ := HROW.out
              have hyl : ys.length = lk.length * 8 := by have := hy.1; simpa using this
              have HROWQ := hid (own_turn hy HTQ.out (fun g hg e => by have := (hy.lt g hg).1; omega))
              refine step_app rfl (.tmp 25) (.tmp 29) _ rfl base el_no (.slice Ak lk.length ck) _ rfl rfl HROWQ.out HSL.out no0_one (by simp [maxLen]; omega) (by simp; omega) (by have := HTQ.out.size; omega) (fun v7 w7 n7 hown7 hg7 hbk7 => ?_)
              have hn7 : n7 = lk.length + 1 := by have := hown7.1; rw [List.length_append, hyl] at this; simp at this; omega
              subst hn7
              obtain ⟨g7, c7, rfl, hgb, hgs, hc7, hm7⟩ := own_form hown7 (by omega)
              have he := fun w8 => inplace foot_no (by omega) (cb := nb) (ci := 7) hy hr HTQ.out HZQ.out (by rfl) hown7 hg7 hbk7 rfl (by omega) hFbp hFnb (fun j hj => hFn j (by omega)) (by omega) w8
              simp only [List.length_map] at he
              have HE := hid he
              have HS7 := hid ((HTQ.out.mono (G := fun j => j = bp ∨ base ≤ j) (fun _ _ h => .inl h)).trans (Turn.of_grown hg7 (F := fun j => j = bp ∨ base ≤ j) (fun k e => .inr (hy.lt k e).1)) (fun _ _ h => h))
              have HK7 := hid (HKQ.out.turn (Turn.of_grown hg7 (F := fun j => base ≤ j) (fun k e => (hy.lt k e).1)) (by omega) (fun k hk e => by have := HKQ.out.1; omega))
              have hb7 := block_turn HBLK.out HS7.out (by omega)
              have ec := (cell_of_row _ _ 7 _ _ _ hb7).trans rfl
              have ez := frozen_of_row _ _ 7 _ _ hb7
              have o0 := own_cell hown7 rfl (i := lk.length * 8) (u := .int .i64 0) (by rw [List.getElem?_append_right (by omega), hyl, Nat.sub_self]; rfl)
              have o1 := own_cell hown7 rfl (i := lk.length * 8 + 1) (u := .string ⟨#[]⟩) (by rw [List.getElem?_append_right (by omega), hyl, Nat.add_sub_cancel_left]; rfl)
              have o2 := own_cell hown7 rfl (i := lk.length * 8 + 2) (u := .int .i64 0) (by rw [List.getElem?_append_right (by omega), hyl, Nat.add_sub_cancel_left]; rfl)
              have o3 := own_cell hown7 rfl (i := lk.length * 8 + 3) (u := .int .i64 0) (by rw [List.getElem?_append_right (by omega), hyl, Nat.add_sub_cancel_left]; rfl)
              have o4 := own_cell hown7 rfl (i := lk.length * 8 + 4) (u := .int .i64 0) (by rw [List.getElem?_append_right (by omega), hyl, Nat.add_sub_cancel_left]; rfl)
              have o5 := own_cell hown7 rfl (i := lk.length * 8 + 5) (u := .slice none 0 0) (by rw [List.getElem?_append_right (by omega), hyl, Nat.add_sub_cancel_left]; rfl)
              have o6 := own_cell hown7 rfl (i := lk.length * 8 + 6) (u := .slice none 0 0) (by rw [List.getElem?_append_right (by omega), hyl, Nat.add_sub_cancel_left]; rfl)
              have o7 := own_cell hown7 rfl (i := lk.length * 8 + 7) (u := .slice none 0 0) (by rw [List.getElem?_append_right (by omega), hyl, Nat.add_sub_cancel_left]; rfl)
              obtain ⟨o0, q0⟩ := o0
              obtain ⟨o1, q1⟩ := o1
              obtain ⟨o2, q2⟩ := o2
              obtain ⟨o3, q3⟩ := o3
              obtain ⟨o4, q4⟩ := o4
              obtain ⟨o5, q5⟩ := o5
              obtain ⟨o6, q6⟩ := o6
              obtain ⟨o7, q7⟩ := o7
              have HB7 := hid hb7
              have hne1 : ¬ g7 = nb := by omega
              have hne2 : ¬ nb = g7 := by omega
              clear he hown7 hg7 hbk7 hb7 hy hr
              refine hK.out _ _ HS7.out ?_
              clear hK K
              try simp only [Act.put, List.getElem_toArray, List.getElem_cons_zero, List.getElem_cons_succ, List.setIfInBounds_toArray, List.set_cons_zero, List.set_cons_succ]
              refine tt 9 (.pointer (some ⟨g7, lk.length * 8, none⟩)) (fun _ => HS7.out) (hy := by intro w' hSw; go_simp <;> (intro h; omega)) ?_
              refine tt 11 (.pointer (some ⟨nb, 0, none⟩)) (fun _ => HS7.out) ?_
              refine tt 12 (.pointer (some ⟨nb, 7, none⟩)) (fun _ => HS7.out) ?_
              refine anyX_ready (rs := [10, 13]) (by kernel_rfl) (by simp) ?_
              refine ReadyX.cons rfl (fun K hK => ?_) (ReadyX.past rfl (by kernel_rfl) (fun K hK => ?_) ReadyX.nil)
              · go_simp
                have HSA := hid (HS7.out.trans (putC_turn g7 [.int .i64 kz, sv sz, .int .i64 nz, .int .i64 lz, .int .i64 oz, .slice Az1 nz1 cz1, .slice Az2 nz2 cz2, .slice Az3 nz3 cz3] w7 (lk.length * 8)) (fun _ _ h => .inr (by omega)))
                refine hK.out _ _ HSA.out ?_
                clear hK K
                try simp only [Act.put, List.getElem_toArray, List.getElem_cons_zero, List.getElem_cons_succ, List.setIfInBounds_toArray, List.set_cons_zero, List.set_cons_succ]
                refine anyX_ready (rs := [13]) (by kernel_rfl) (by simp) ?_
                refine ReadyX.past rfl (by kernel_rfl) (fun K hK => ?_) (ReadyX.nil)
                go_simp
                refine hK.out _ _ ?_
                clear hK K
                try simp only [Act.put, List.getElem_toArray, List.getElem_cons_zero, List.getElem_cons_succ, List.setIfInBounds_toArray, List.set_cons_zero, List.set_cons_succ]
                refine anyX_done (by kernel_rfl) ?_ _
                obtain ⟨hrow8, t68, t78, hb8, how8⟩ := HE.out ((putC w7 g7 (lk.length * 8) [.int .i64 kz, sv sz, .int .i64 nz, .int .i64 lz, .int .i64 oz, .slice Az1 nz1 cz1, .slice Az2 nz2 cz2, .slice Az3 nz3 cz3]).setCell ⟨nb, 7, none⟩ (.slice (some ⟨g7, 0, none⟩) (lk.length + 1) c7)) (.inl rfl)
                have hblk8 := hb8 _ _ HB7.out
                have hk8 := HK7.out.turn t78 (fun e => by rcases e with e | e <;> omega) (fun k hk e => by have := HKQ.out.1; rcases e with e | e <;> omega)
                have hlo := HROW.out.lt
                have HQN : Hid (kidsP expr (a.drop (k + 1)) (lk ++ [x]) r10 = Q) := hid ((thenP_good HQR.out).symm.trans HI5.out)
                go_wp2_with fail
                go_roundw
                case rel => exact ⟨k + 1, _, r10, rfl, by omega, HQN.out, by have := HLK.out; simp; omega, HT5.out.trans (HTQ.out.mono (G := fun j => j = bp ∨ (Value.slice Ak lk.length ck).ownBlock = some j ∨ j = nb) (fun _ _ h => .inl h) |>.trans t68 (fun _ _ h => .inr h)) (fun i hi e => by rcases e with e | e | e; exact .inl e; exact .inr (.inr (HOWN.out i hi e)); exact .inr (.inl e)), ⟨_, hblk8, hrow8, fun i hi e => HOWN.out i hi (how8 i (by have := HTQ.out.size; omega) e)⟩, hk8⟩
                case measure => simp [intOf]; omega
              · go_simp
                refine hK.out _ _ ?_
                clear hK K
                try simp only [Act.put, List.getElem_toArray, List.getElem_cons_zero, List.getElem_cons_succ, List.setIfInBounds_toArray, List.set_cons_zero, List.set_cons_succ]
                refine anyX_ready (rs := [10]) (by kernel_rfl) (by simp) ?_
                refine ReadyX.past rfl (by kernel_rfl) (fun K hK => ?_) (ReadyX.nil)
                go_simp
                refine hK.out _ _ ?_
                clear hK K
                try simp only [Act.put, List.getElem_toArray, List.getElem_cons_zero, List.getElem_cons_succ, List.setIfInBounds_toArray, List.set_cons_zero, List.set_cons_succ]
                refine anyX_done (by kernel_rfl) ?_ _
                obtain ⟨hrow8, t68, t78, hb8, how8⟩ := HE.out (putC (w7.setCell ⟨nb, 7, none⟩ (.slice (some ⟨g7, 0, none⟩) (lk.length + 1) c7)) g7 (lk.length * 8) [.int .i64 kz, sv sz, .int .i64 nz, .int .i64 lz, .int .i64 oz, .slice Az1 nz1 cz1, .slice Az2 nz2 cz2, .slice Az3 nz3 cz3]) (.inr rfl)
                have hblk8 := hb8 _ _ HB7.out
                have hk8 := HK7.out.turn t78 (fun e => by rcases e with e | e <;> omega) (fun k hk e => by have := HKQ.out.1; rcases e with e | e <;> omega)
                have hlo := HROW.out.lt
                have HQN : Hid (kidsP expr (a.drop (k + 1)) (lk ++ [x]) r10 = Q) := hid ((thenP_good HQR.out).symm.trans HI5.out)
                go_wp2_with fail
                go_roundw
                case rel => exact ⟨k + 1, _, r10, rfl, by omega, HQN.out, by have := HLK.out; simp; omega, HT5.out.trans (HTQ.out.mono (G := fun j => j = bp ∨ (Value.slice Ak lk.length ck).ownBlock = some j ∨ j = nb) (fun _ _ h => .inl h) |>.trans t68 (fun _ _ h => .inr h)) (fun i hi e => by rcases e with e | e | e; exact .inl e; exact .inr (.inr (HOWN.out i hi e)); exact .inr (.inl e)), ⟨_, hblk8, hrow8, fun i hi e => HOWN.out i hi (how8 i (by have := HTQ.out.size; omega) e)⟩, hk8⟩
                case measure => simp [intOf]; omega
          · skip
            go_simp
            have HSD := hid (HD0.out.trans (Turn.alloc (fun j => j = bp ∨ base ≤ j) w5.drew (.cells #[.int .i64 0, .string ⟨#[]⟩, .int .i64 0, .int .i64 0, .int .i64 0, .slice none 0 0, .slice none 0 0, .slice none 0 0] 49)) (fun _ _ h => h))
            have HTC := hid (HEX _ bp B r5 (TkAt.below (w := w5.drew) HK5.out (new1 w5.drew (.cells #[.int .i64 0, .string ⟨#[]⟩, .int .i64 0, .int .i64 0, .int .i64 0, .slice none 0 0, .slice none 0 0, .slice none 0 0] 49))))
            have HW9 := hid (HDB.out.trans (Turn.alloc (fun j => j = bp) w5.drew (.cells #[.int .i64 0, .string ⟨#[]⟩, .int .i64 0, .int .i64 0, .int .i64 0, .slice none 0 0, .slice none 0 0, .slice none 0 0] 49)) (fun _ _ h => h))
            refine hK.out _ _ HSD.out ?_
            clear hK K
            try simp only [Act.put, List.getElem_toArray, List.getElem_cons_zero, List.getElem_cons_succ, List.setIfInBounds_toArray, List.set_cons_zero, List.set_cons_succ]
            refine anyX_ready (rs := [5]) (by kernel_rfl) (by simp) ?_
            refine ReadyX.cons rfl (fun K hK => ?_) (ReadyX.nil)
            go_simp
            refine (HTC.out).mono ?_
            rintro e w10 h10
            rcases hq : expr r5 with g | ⟨x, r10⟩
            · obtain ⟨rfl, tn, bn⟩ := h10.bad_ hq
              have tn := HW9.out.trans tn (fun _ _ h => h)
              have HQB := hid (HI5.out.symm.trans (thenP_bad hq))
              exact ⟨rfl, AddsP.fail HQB.out (HT5.out.trans tn (fun _ _ h => .inl h)) bn⟩
            · obtain ⟨v10, rfl, tn, ⟨z, rfl, hz⟩, kn⟩ := h10.good_ hq
              obtain ⟨kz, sz, nz, lz, oz, Az1, nz1, cz1, Az2, nz2, cz2, Az3, nz3, cz3, rfl⟩ := hz.shape'
              have HT10 := hid (HW9.out.trans tn (fun _ _ h => h))
              have HS10 := hid (HT10.out.mono (G := fun j => j = bp ∨ base ≤ j) (fun _ _ h => .inl h))
              have HK10 := hid kn
              have HQR := hid hq
              have HZ := hid (foot_no.mono hz (G := fun j => w5.heap.size ≤ j) (fun _ _ h => Nat.le_trans HW9.out.size h))
              have HTQ := HT10
              have HZQ := HZ
              have HKQ := HK10
              have HSL := hid (sl_new_turn w5.drew #[.int .i64 0, .string ⟨#[]⟩, .int .i64 0, .int .i64 0, .int .i64 0, .slice none 0 0, .slice none 0 0, .slice none 0 0] 49 8 1 rfl (by decide) tn (by have hs : w5.drew.heap.size = w5.heap.size := rfl; omega))
              clear h10 tn kn hq hz
              refine hK.out _ _ HS10.out ?_
              clear hK K
              try simp only [Act.put, List.getElem_toArray, List.getElem_cons_zero, List.getElem_cons_succ, List.setIfInBounds_toArray, List.set_cons_zero, List.set_cons_succ]
              refine anyX_ready (rs := [8]) (by kernel_rfl) (by simp) ?_
              refine ReadyX.cons rfl (fun K hK => ?_) (ReadyX.nil)
              obtain ⟨ys, hy, hr⟩ := HROW.out
              have hyl : ys.length = lk.length * 8 := by have := hy.1; simpa using this
              have HROWQ := hid (own_turn hy HTQ.out (fun g hg e => by have := (hy.lt g hg).1; omega))
              refine step_app rfl (.tmp 25) (.tmp 29) _ rfl base el_no (.slice Ak lk.length ck) _ rfl rfl HROWQ.out HSL.out no0_one (by simp [maxLen]; omega) (by simp; omega) (by have := HTQ.out.size; omega) (fun v7 w7 n7 hown7 hg7 hbk7 => ?_)
              have hn7 : n7 = lk.length + 1 := by have := hown7.1; rw [List.length_append, hyl] at this; simp at this; omega
              subst hn7
              obtain ⟨g7, c7, rfl, hgb, hgs, hc7, hm7⟩ := own_form hown7 (by omega)
              have he := fun w8 => inplace foot_no (by omega) (cb := nb) (ci := 7) hy hr HTQ.out HZQ.out (by rfl) hown7 hg7 hbk7 rfl (by omega) hFbp hFnb (fun j hj => hFn j (by omega)) (by omega) w8
              simp only [List.length_map] at he
              have HE := hid he
              have HS7 := hid ((HTQ.out.mono (G := fun j => j = bp ∨ base ≤ j) (fun _ _ h => .inl h)).trans (Turn.of_grown hg7 (F := fun j => j = bp ∨ base ≤ j) (fun k e => .inr (hy.lt k e).1)) (fun _ _ h => h))
              have HK7 := hid (HKQ.out.turn (Turn.of_grown hg7 (F := fun j => base ≤ j) (fun k e => (hy.lt k e).1)) (by omega) (fun k hk e => by have := HKQ.out.1; omega))
              have hb7 := block_turn HBLK.out HS7.out (by omega)
              have ec := (cell_of_row _ _ 7 _ _ _ hb7).trans rfl
              have ez := frozen_of_row _ _ 7 _ _ hb7
              have o0 := own_cell hown7 rfl (i := lk.length * 8) (u := .int .i64 0) (by rw [List.getElem?_append_right (by omega), hyl, Nat.sub_self]; rfl)
              have o1 := own_cell hown7 rfl (i := lk.length * 8 + 1) (u := .string ⟨#[]⟩) (by rw [List.getElem?_append_right (by omega), hyl, Nat.add_sub_cancel_left]; rfl)
              have o2 := own_cell hown7 rfl (i := lk.length * 8 + 2) (u := .int .i64 0) (by rw [List.getElem?_append_right (by omega), hyl, Nat.add_sub_cancel_left]; rfl)
              have o3 := own_cell hown7 rfl (i := lk.length * 8 + 3) (u := .int .i64 0) (by rw [List.getElem?_append_right (by omega), hyl, Nat.add_sub_cancel_left]; rfl)
              have o4 := own_cell hown7 rfl (i := lk.length * 8 + 4) (u := .int .i64 0) (by rw [List.getElem?_append_right (by omega), hyl, Nat.add_sub_cancel_left]; rfl)
              have o5 := own_cell hown7 rfl (i := lk.length * 8 + 5) (u := .slice none 0 0) (by rw [List.getElem?_append_right (by omega), hyl, Nat.add_sub_cancel_left]; rfl)
              have o6 := own_cell hown7 rfl (i := lk.length * 8 + 6) (u := .slice none 0 0) (by rw [List.getElem?_append_right (by omega), hyl, Nat.add_sub_cancel_left]; rfl)
              have o7 := own_cell hown7 rfl (i := lk.length * 8 + 7) (u := .slice none 0 0) (by rw [List.getElem?_append_right (by omega), hyl, Nat.add_sub_cancel_left]; rfl)
              obtain ⟨o0, q0⟩ := o0
              obtain ⟨o1, q1⟩ := o1
              obtain ⟨o2, q2⟩ := o2
              obtain ⟨o3, q3⟩ := o3
              obtain ⟨o4, q4⟩ := o4
              obtain ⟨o5, q5⟩ := o5
              obtain ⟨o6, q6⟩ := o6
              obtain ⟨o7, q7⟩ := o7
              have HB7 := hid hb7
              have hne1 : ¬ g7 = nb := by omega
              have hne2 : ¬ nb = g7 := by omega
              clear he hown7 hg7 hbk7 hb7 hy hr
              refine hK.out _ _ HS7.out ?_
              clear hK K
              try simp only [Act.put, List.getElem_toArray, List.getElem_cons_zero, List.getElem_cons_succ, List.setIfInBounds_toArray, List.set_cons_zero, List.set_cons_succ]
              refine tt 9 (.pointer (some ⟨g7, lk.length * 8, none⟩)) (fun _ => HS7.out) (hy := by intro w' hSw; go_simp <;> (intro h; omega)) ?_
              refine tt 11 (.pointer (some ⟨nb, 0, none⟩)) (fun _ => HS7.out) ?_
              refine tt 12 (.pointer (some ⟨nb, 7, none⟩)) (fun _ => HS7.out) ?_
              refine anyX_ready (rs := [10, 13]) (by kernel_rfl) (by simp) ?_
              refine ReadyX.cons rfl (fun K hK => ?_) (ReadyX.past rfl (by kernel_rfl) (fun K hK => ?_) ReadyX.nil)
              · go_simp
                have HSA := hid (HS7.out.trans (putC_turn g7 [.int .i64 kz, sv sz, .int .i64 nz, .int .i64 lz, .int .i64 oz, .slice Az1 nz1 cz1, .slice Az2 nz2 cz2, .slice Az3 nz3 cz3] w7 (lk.length * 8)) (fun _ _ h => .inr (by omega)))
                refine hK.out _ _ HSA.out ?_
                clear hK K
                try simp only [Act.put, List.getElem_toArray, List.getElem_cons_zero, List.getElem_cons_succ, List.setIfInBounds_toArray, List.set_cons_zero, List.set_cons_succ]
                refine anyX_ready (rs := [13]) (by kernel_rfl) (by simp) ?_
                refine ReadyX.past rfl (by kernel_rfl) (fun K hK => ?_) (ReadyX.nil)
                go_simp
                refine hK.out _ _ ?_
                clear hK K
                try simp only [Act.put, List.getElem_toArray, List.getElem_cons_zero, List.getElem_cons_succ, List.setIfInBounds_toArray, List.set_cons_zero, List.set_cons_succ]
                refine anyX_done (by kernel_rfl) ?_ _
                obtain ⟨hrow8, t68, t78, hb8, how8⟩ := HE.out ((putC w7 g7 (lk.length * 8) [.int .i64 kz, sv sz, .int .i64 nz, .int .i64 lz, .int .i64 oz, .slice Az1 nz1 cz1, .slice Az2 nz2 cz2, .slice Az3 nz3 cz3]).setCell ⟨nb, 7, none⟩ (.slice (some ⟨g7, 0, none⟩) (lk.length + 1) c7)) (.inl rfl)
                have hblk8 := hb8 _ _ HB7.out
                have hk8 := HK7.out.turn t78 (fun e => by rcases e with e | e <;> omega) (fun k hk e => by have := HKQ.out.1; rcases e with e | e <;> omega)
                have hlo := HROW.out.lt
                have HQN : Hid (kidsP expr (a.drop (k + 1)) (lk ++ [x]) r10 = Q) := hid ((thenP_good HQR.out).symm.trans HI5.out)
                go_wp2_with fail
                go_roundw
                case rel => exact ⟨k + 1, _, r10, rfl, by omega, HQN.out, by have := HLK.out; simp; omega, HT5.out.trans (HTQ.out.mono (G := fun j => j = bp ∨ (Value.slice Ak lk.length ck).ownBlock = some j ∨ j = nb) (fun _ _ h => .inl h) |>.trans t68 (fun _ _ h => .inr h)) (fun i hi e => by rcases e with e | e | e; exact .inl e; exact .inr (.inr (HOWN.out i hi e)); exact .inr (.inl e)), ⟨_, hblk8, hrow8, fun i hi e => HOWN.out i hi (how8 i (by have := HTQ.out.size; omega) e)⟩, hk8⟩
                case measure => simp [intOf]; omega
              · go_simp
                refine hK.out _ _ ?_
                clear hK K
                try simp only [Act.put, List.getElem_toArray, List.getElem_cons_zero, List.getElem_cons_succ, List.setIfInBounds_toArray, List.set_cons_zero, List.set_cons_succ]
                refine anyX_ready (rs := [10]) (by kernel_rfl) (by simp) ?_
                refine ReadyX.past rfl (by kernel_rfl) (fun K hK => ?_) (ReadyX.nil)
                go_simp
                refine hK.out _ _ ?_
                clear hK K
                try simp only [Act.put, List.getElem_toArray, List.getElem_cons_zero, List.getElem_cons_succ, List.setIfInBounds_toArray, List.set_cons_zero, List.set_cons_succ]
                refine anyX_done (by kernel_rfl) ?_ _
                obtain ⟨hrow8, t68, t78, hb8, how8⟩ := HE.out (putC (w7.setCell ⟨nb, 7, none⟩ (.slice (some ⟨g7, 0, none⟩) (lk.length + 1) c7)) g7 (lk.length * 8) [.int .i64 kz, sv sz, .int .i64 nz, .int .i64 lz, .int .i64 oz, .slice Az1 nz1 cz1, .slice Az2 nz2 cz2, .slice Az3 nz3 cz3]) (.inr rfl)
                have hblk8 := hb8 _ _ HB7.out
                have hk8 := HK7.out.turn t78 (fun e => by rcases e with e | e <;> omega) (fun k hk e => by have := HKQ.out.1; rcases e with e | e <;> omega)
                have hlo := HROW.out.lt
                have HQN : Hid (kidsP expr (a.drop (k + 1)) (lk ++ [x]) r10 = Q) := hid ((thenP_good HQR.out).symm.trans HI5.out)
                go_wp2_with fail
                go_roundw
                case rel => exact ⟨k + 1, _, r10, rfl, by omega, HQN.out, by have := HLK.out; simp; omega, HT5.out.trans (HTQ.out.mono (G := fun j => j = bp ∨ (Value.slice Ak lk.length ck).ownBlock = some j ∨ j = nb) (fun _ _ h => .inl h) |>.trans t68 (fun _ _ h => .inr h)) (fun i hi e => by rcases e with e | e | e; exact .inl e; exact .inr (.inr (HOWN.out i hi e)); exact .inr (.inl e)), ⟨_, hblk8, hrow8, fun i hi e => HOWN.out i hi (how8 i (by have := HTQ.out.size; omega) e)⟩, hk8⟩
                case measure => simp [intOf]; omega
    · obtain rfl : k = m := by omega
      rw [List.drop_of_length_le (by rw [HM.out]; exact Nat.le_refl _)] at hinv
      have HI : Hid (Pr.good lk r = Q) := hid hinv
      have HKR := hid hkr
      have HKI := hid hki
      clear hinv htr hkr hki
      go_wp2_with fail
      go_end0
      obtain ⟨vk, h1, h2, _⟩ := HKI.out
      exact AddsP.done HI.out.symm HTR.out ⟨vk, h1, h2⟩ HKR.out
end Go.Proofs.YtmbppnbekkbibaaGreatDoor
end
section
/- The contracts of ranks, and of rank. -/
set_option linter.unusedVariables false
namespace Go.Proofs.YtmbppnbekkbibaaGreatDoor
open Go.RowKit

/-- The operations by their rank, in memory. -/
def RkAt (w : World) (F : Nat → Prop) (v : Value) : Prop := ∃ b, v = .slice (some ⟨b, 0, none⟩) 6 6 ∧ F b ∧ b < w.heap.size ∧ ∀ k, k < 6 → ∃ A n c, w.cell? ⟨b, k, none⟩ = some (.slice A n c) ∧ SlG w F 1 (.slice A n c) (svs (ranksL.getD k []))
theorem RkAt.turn {w w' : World} {F G : Nat → Prop} {v : Value} (h : RkAt w F v) (t : Turn G w w') (hd : ∀ g, g < w.heap.size → F g → ¬ G g) : RkAt w' F v := by
  obtain ⟨b, hv, hb, hs, hc⟩ := h
  refine ⟨b, hv, hb, t.lt hs, fun k hk => ?_⟩
  obtain ⟨A, n, c, h1, h2⟩ := hc k hk
  exact ⟨A, n, c, tcell h1 t (hd b hs hb), h2.turn t hd⟩
theorem RkAt.mono {w : World} {F G : Nat → Prop} {v : Value} (h : RkAt w F v) (hd : ∀ g, g < w.heap.size → F g → G g) : RkAt w G v := by
  obtain ⟨b, hv, hb, hs, hc⟩ := h
  refine ⟨b, hv, hd b hs hb, hs, fun k hk => ?_⟩
  obtain ⟨A, n, c, h1, h2⟩ := hc k hk
  exact ⟨A, n, c, h1, h2.mono hd⟩
theorem slG_blk {w : World} {b : Nat} {P : Array Value} {T : TypeId} (h : w.heap[b]? = some (.cells P T (0, 0))) (k n : Nat) (hs : P.size = n * k) (hn : n ≤ 100000) : SlG w (fun j => j = b) k (.slice (some ⟨b, 0, none⟩) n n) P.toList := by
  refine ⟨_, n, n, rfl, by simpa using hs, Nat.le_refl _, by unfold maxLen; omega, fun _ => ⟨b, 0, rfl, rfl, block_lt h, fun j u hu => ?_⟩⟩
  rw [cell_of_row _ _ _ P T (0, 0) h]
  simpa using hu
theorem pair_set {w : World} {nb c1 c2 : Nat} {v1 v2 : Value} {P cs : Array Value} {T T' : TypeId} (hb : w.heap[nb]? = some (.cells cs T' (0, 0))) (w8 : World)
    (h : w8 = ((w.setCell ⟨nb, c1, none⟩ v1).setCell ⟨nb, c2, none⟩ v2).alloc (.cells P T)) :
    Turn (fun j => j = nb) w w8 ∧ w8.heap[w.heap.size]? = some (.cells P T (0, 0)) ∧ w8.heap[nb]? = some (.cells ((cs.setIfInBounds c1 v1).setIfInBounds c2 v2) T' (0, 0)) := by
  have hlt := block_lt hb
  have ts := fun (w : World) (c : Nat) (v : Value) => turn_set w nb c v
  subst h
  have hs : ((w.setCell ⟨nb, c1, none⟩ v1).setCell ⟨nb, c2, none⟩ v2).heap.size = w.heap.size := by simp
  have h1 := at1 ((w.setCell ⟨nb, c1, none⟩ v1).setCell ⟨nb, c2, none⟩ v2) (.cells P T)
  rw [hs] at h1
  exact ⟨((ts w c1 v1).trans (ts _ c2 v2) (fun _ _ h => h)).trans (Turn.alloc (fun j => j = nb) _ _) (fun _ _ h => h), h1, keep_alloc (heap_setCell_same _ _ c2 _ _ _ (heap_setCell_same _ _ c1 _ _ _ hb))⟩
theorem six (w : World) (o1 o2 o3 o4 o5 o6 : Obj) : ∀ W, ((((((w.alloc o1).alloc o2).alloc o3).alloc o4).alloc o5).alloc o6) = W → Below w.heap.size w W ∧ W.heap.size = w.heap.size + 6 ∧ W.heap[w.heap.size]? = some o1 ∧ W.heap[w.heap.size + 1]? = some o2 ∧ W.heap[w.heap.size + 1 + 1]? = some o3 ∧ W.heap[w.heap.size + 1 + 1 + 1]? = some o4 ∧ W.heap[w.heap.size + 1 + 1 + 1 + 1]? = some o5 ∧ W.heap[w.heap.size + 1 + 1 + 1 + 1 + 1]? = some o6 := by
  rintro W rfl
  have hs3 : (((w.alloc o1).alloc o2).alloc o3).heap.size = w.heap.size + 1 + 1 + 1 := by simp
  obtain ⟨t1, s1, h4, h5, h6⟩ := after3 (G := fun _ => False) (Turn.refl _ ((((((w.alloc o1).alloc o2).alloc o3).alloc o4).alloc o5).alloc o6))
  obtain ⟨t0, s0, h1, h2, h3⟩ := after3 t1
  rw [hs3] at h4 h5 h6
  exact ⟨t0.below (Nat.le_refl _) (fun _ _ => id), by simp, h1 id, h2 id, h3 id, h4 id, h5 id, h6 id⟩
set_option maxRecDepth 100000 in
set_option maxHeartbeats 4000000 in
theorem ranks_any (w : World) : Calls Tryz.prog 141 #[] w fun e w' => Below w.heap.size w w' ∧ ∃ v, e = .returned v ∧ RkAt w' (fun j => w.heap.size ≤ j) v := by
  obtain ⟨W, hW⟩ : ∃ W, ((((((w.alloc (.cells #[.string ⟨#[111, 114]⟩] 9)).alloc (.cells #[.string ⟨#[97, 110, 100]⟩] 9)).alloc (.cells #[.string ⟨#[43, 43]⟩] 9)).alloc (.cells #[.string ⟨#[43]⟩, .string ⟨#[45]⟩, .string ⟨#[94]⟩] 9)).alloc (.cells #[.string ⟨#[42]⟩, .string ⟨#[47]⟩, .string ⟨#[37]⟩, .string ⟨#[38]⟩, .string ⟨#[60, 60]⟩, .string ⟨#[62, 62]⟩] 9)).alloc (.cells #[.slice (some ⟨w.heap.size, 0, none⟩) 1 1, .slice (some ⟨w.heap.size + 1, 0, none⟩) 1 1, .slice none 0 0, .slice (some ⟨w.heap.size + 1 + 1, 0, none⟩) 1 1, .slice (some ⟨w.heap.size + 1 + 1 + 1, 0, none⟩) 3 3, .slice (some ⟨w.heap.size + 1 + 1 + 1 + 1, 0, none⟩) 6 6] 25)) = W := ⟨_, rfl⟩
  obtain ⟨hb, hs, h0, h1, h2, h3, h4, h5⟩ := six w _ _ _ _ _ _ W hW
  have HW := hid hW
  have HH := hid (And.intro hb (And.intro hs (And.intro h0 (And.intro h1 (And.intro h2 (And.intro h3 (And.intro h4 h5)))))))
  clear hW hb hs h0 h1 h2 h3 h4 h5
  go_enter Tryz.func141, Tryz.ntmps141
  go_wp2_with fail
  go_ret
  rw [HW.out]
  obtain ⟨hb, hs, h0, h1, h2, h3, h4, h5⟩ := HH.out
  refine ⟨hb, _, rfl, _, rfl, by omega, by omega, fun k hk => ?_⟩
  have g5 := fun i => cell_of_row W _ i _ _ _ h5
  obtain rfl | rfl | rfl | rfl | rfl | rfl : k = 0 ∨ k = 1 ∨ k = 2 ∨ k = 3 ∨ k = 4 ∨ k = 5 := by omega
  · exact ⟨_, _, _, (g5 0).trans rfl, (slG_blk h0 1 1 rfl (by omega)).mono (fun g _ h => by omega)⟩
  · exact ⟨_, _, _, (g5 1).trans rfl, (slG_blk h1 1 1 rfl (by omega)).mono (fun g _ h => by omega)⟩
  · exact ⟨_, _, _, (g5 2).trans rfl, SlG.nil _ _ _⟩
  · exact ⟨_, _, _, (g5 3).trans rfl, (slG_blk h2 1 1 rfl (by omega)).mono (fun g _ h => by omega)⟩
  · exact ⟨_, _, _, (g5 4).trans rfl, (slG_blk h3 1 3 rfl (by omega)).mono (fun g _ h => by omega)⟩
  · exact ⟨_, _, _, (g5 5).trans rfl, (slG_blk h4 1 6 rfl (by omega)).mono (fun g _ h => by omega)⟩
end Go.Proofs.YtmbppnbekkbibaaGreatDoor
end
