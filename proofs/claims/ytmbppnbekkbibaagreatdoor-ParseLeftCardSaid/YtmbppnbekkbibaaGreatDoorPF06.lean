/- FK, FL, FM -/
import Derived.Test.YtmbppnbekkbibaaGreatDoorPF05
import Derived.Test.YtmbppnbekkbibaaGreatDoorPF01
set_option linter.unusedSimpArgs false
set_option linter.unusedVariables false
section
/- The contract of the function that reads a field of a record's type. -/
set_option linter.unusedVariables false
namespace Go.Proofs.YtmbppnbekkbibaaGreatDoor
open Go.RowKit

/-- The contract of typ, with what it reads of a row. -/
def TypC (d : Int) (typ : Ps TyD) : Prop := ∀ (w : World) (bp B : Nat) (ts : List TokD), TkAt w bp B ts d →
  Calls Tryz.prog 53 #[.pointer (some ⟨bp, 0, none⟩)] w (ReadsP (PTy w.heap.size) bp B d w (typ ts))
/-- A record's type while it is read: names and types. -/
structure PrimH (pb tb base bp : Nat) (w : World) (l1 : List Bt) (l2 : List TyD) (v1 v2 : Value) : Prop where
  box : w.heap[pb]? = some (.cells #[.pointer (some ⟨bp, 0, none⟩)] 94 (0, 0))
  blk : w.heap[tb]? = some (.cells #[.int .i64 5, sv [], v1, v2] 63 (0, 0))
  nam : OwnS w base 9 v1 l1
  kid : RowG TyG 4 63 w base (fun j => base ≤ j ∧ v1.ownBlock ≠ some j) v2 l2
  ne : ∀ g, v1.ownBlock = some g → v2.ownBlock ≠ some g
/-- Where these blocks lie. -/
structure PrimP (pb tb base bp : Nat) (w : World) : Prop where
  bp_pb : bp < pb
  bp_tb : bp < tb
  pb_b : pb < base
  tb_b : tb < base
  ne : pb ≠ tb
  b_s : base ≤ w.heap.size
theorem PrimP.turn {pb tb base bp : Nat} {w w' : World} {G : Nat → Prop} (h : PrimP pb tb base bp w) (t : Turn G w w') : PrimP pb tb base bp w' := { h with b_s := Nat.le_trans h.b_s t.size }
theorem PrimH.turn {pb tb base bp : Nat} {w w' : World} {l1 : List Bt} {l2 : List TyD} {v1 v2 : Value} (h : PrimH pb tb base bp w l1 l2 v1 v2) (p : PrimP pb tb base bp w) (t : Turn (fun k => k = bp) w w') : PrimH pb tb base bp w' l1 l2 v1 v2 := by
  have := p.bp_pb; have := p.bp_tb; have := p.pb_b; have := p.tb_b
  exact ⟨block_turn h.box t (by omega), block_turn h.blk t (by omega), h.nam.turn t (fun g hg e => by have := (h.nam.lt g hg).1; omega), h.kid.turn foot_ty t (fun g hg e => by have := (h.kid.lt g hg).1; omega) (fun g _ hg e => by have := hg.1; omega), h.ne⟩
/-- A name more. -/
theorem PrimH.name {pb tb base bp : Nat} {w w7 : World} {l1 : List Bt} {l2 : List TyD} {v1 v2 v7 : Value} {o : Obj} {s : Bt} (h : PrimH pb tb base bp w l1 l2 v1 v2) (p : PrimP pb tb base bp w)
    (h7 : OwnS w7 base 9 v7 (l1 ++ [s])) (hg : (w.alloc o).grownBy w7 v1.ownBlock) (hbk : v7.ownBlock = v1.ownBlock ∨ v7.ownBlock = some (w.alloc o).heap.size) :
    PrimH pb tb base bp (w7.setCell ⟨tb, 2, none⟩ v7) (l1 ++ [s]) l2 v7 v2 ∧ Turn (fun j => v1.ownBlock = some j ∨ j = tb) w (w7.setCell ⟨tb, 2, none⟩ v7) := by
  have := p.pb_b; have := p.tb_b; have hne := p.ne; have hbs := p.b_s
  have t7 : Turn (fun j => v1.ownBlock = some j) w w7 := (Turn.alloc _ _ _).trans (Turn.of_grown hg (fun k h => h)) (fun _ _ h => h)
  have t8 := turn_set w7 tb 2 v7
  have hs : (w.alloc o).heap.size = w.heap.size + 1 := by simp
  have hlt := h.nam.lt
  have hk := h.kid
  have hkl := hk.lt
  have k1 : RowG TyG 4 63 w base (fun j => (base ≤ j ∧ v1.ownBlock ≠ some j) ∧ v7.ownBlock ≠ some j) v2 l2 := hk.mono foot_ty fun g hg h => ⟨h, fun e => by
    rcases hbk with hb | hb
    · rw [hb] at e; exact h.2 e
    · rw [hb, hs] at e; injection e with e; omega⟩
  have k7 := k1.turn foot_ty t7 (fun g hg e => h.ne g e hg) (fun g _ hg e => hg.1.2 e)
  have k8 := k7.turn foot_ty t8 (fun g hg e => by have := (hkl g hg).1; omega) (fun g _ hg e => by have := hg.1.1; omega)
  refine ⟨⟨block_turn (block_turn h.box t7 (fun e => by have := (hlt _ e).1; omega)) t8 hne, heap_setCell_same _ _ 2 _ _ _ (block_turn h.blk t7 (fun e => by have := (hlt _ e).1; omega)), h7.turn t8 (fun g hg e => by have := (h7.lt g hg).1; omega), k8.mono foot_ty fun g _ h => ⟨h.1.1, h.2⟩, fun g e => ?_⟩, (t7.mono (G := fun j => v1.ownBlock = some j ∨ j = tb) fun _ _ h => .inl h).trans t8 (fun _ _ h => .inr h)⟩
  rcases hbk with hb | hb
  · rw [hb] at e; exact h.ne g e
  · rw [hb, hs] at e
    injection e with e
    intro e2
    have := (hkl g e2).2
    omega
/-- A type more. -/
theorem PrimH.type {pb tb base bp : Nat} {w w6 w8 : World} {l1 : List Bt} {l2 : List TyD} {v1 v2 v7 : Value} {z : List Value} {x : TyD} (h : PrimH pb tb base bp w l1 l2 v1 v2) (p : PrimP pb tb base bp w)
    (t : Turn (fun k => k = bp) w w6) (hx : TyG w6 (fun j => w.heap.size ≤ j) z x) (t8 : Turn (fun j => v2.ownBlock = some j ∨ j = tb) w6 w8) {ys : List Value} {n7 : Nat} (hy : w.ownsRow base 63 4 v2 l2.length ys) (hr : TRow (TyG w (NewB (fun j => base ≤ j ∧ v1.ownBlock ≠ some j) v2)) 4 ys l2)
    (h7 : w8.ownsRow base 63 4 v7 n7 (ys ++ z)) (hbk : v7.ownBlock = v2.ownBlock ∨ ∃ m, w6.heap.size ≤ m ∧ v7.ownBlock = some m) (hb : w8.heap[tb]? = some (.cells #[.int .i64 5, sv [], v1, v7] 63 (0, 0))) :
    PrimH pb tb base bp w8 l1 (l2 ++ [x]) v1 v7 := by
  have := p.pb_b; have := p.tb_b; have hne := p.ne; have hbs := p.b_s; have := p.bp_pb; have := p.bp_tb
  have h6 := h.turn p t
  have hlt := h.nam.lt
  have hkl := h.kid.lt
  have hs6 := t.size
  refine ⟨block_turn h6.box t8 (fun e => ?_), hb, h6.nam.turn t8 (fun g hg e => ?_), ?_, fun g e => ?_⟩
  · rcases e with e | e
    · have := (hkl _ e).1; omega
    · exact hne e
  · rcases e with e | e
    · exact h.ne g hg e
    · have := (hlt g hg).1; omega
  · exact RowG.push foot_ty (F := fun j => base ≤ j ∧ v1.ownBlock ≠ some j) hy hr t hx t8 (fun j _ e => by
      rcases e with e | e
      · exact .inl e
      · exact .inr ⟨fun h => by have := h.1; omega, by omega⟩) hbk h7 (by omega) (fun h => by have := h.1; omega) (fun j hj => ⟨by omega, fun e => by have := (hlt j e).2; omega⟩)
  · have hg1 := (hlt g e).2
    rcases hbk with hb | ⟨m, hm, hb⟩
    · rw [hb]; exact h.ne g e
    · rw [hb]; intro e2
      injection e2 with e2
      omega
/-- What several keeps. -/
def PrimI (pb tb base bp : Nat) (w : World) (l : List (Bt × TyD)) : Prop := ∃ v1 v2, PrimH pb tb base bp w (l.map (·.1)) (l.map (·.2)) v1 v2
theorem PrimH.type2 {pb tb base bp g : Nat} {w w6 w7 : World} {l1 : List Bt} {l2 : List TyD} {v1 v2 v7 : Value} {z : List Value} {x : TyD} (h : PrimH pb tb base bp w l1 l2 v1 v2) (p : PrimP pb tb base bp w)
    (t : Turn (fun k => k = bp) w w6) (hx : TyG w6 (fun j => w.heap.size ≤ j) z x) {ys zs : List Value} {n7 : Nat} (hy : w.ownsRow base 63 4 v2 l2.length ys) (hr : TRow (TyG w (NewB (fun j => base ≤ j ∧ v1.ownBlock ≠ some j) v2)) 4 ys l2) (hzs : zs.length = 4)
    (h7 : w7.ownsRow base 63 4 v7 n7 (ys ++ zs)) (hg : w6.grownBy w7 v2.ownBlock) (hbk : v7.ownBlock = v2.ownBlock ∨ v7.ownBlock = some w6.heap.size) (hv : v7.ownBlock = some g) :
    (PrimH pb tb base bp ((putC w7 g (l2.length * 4) z).setCell ⟨tb, 3, none⟩ v7) l1 (l2 ++ [x]) v1 v7 ∧ Turn (fun k => k = bp ∨ tb ≤ k) w ((putC w7 g (l2.length * 4) z).setCell ⟨tb, 3, none⟩ v7)) ∧
    (PrimH pb tb base bp (putC (w7.setCell ⟨tb, 3, none⟩ v7) g (l2.length * 4) z) l1 (l2 ++ [x]) v1 v7 ∧ Turn (fun k => k = bp ∨ tb ≤ k) w (putC (w7.setCell ⟨tb, 3, none⟩ v7) g (l2.length * 4) z)) := by
  have := p.pb_b; have q1 := p.tb_b; have hne := p.ne; have hbs := p.b_s; have := p.bp_pb; have := p.bp_tb
  have hz : z.length = 4 := by
    obtain ⟨_, _, _, _, _, _, _, _, rfl⟩ := hx.shape'
    rfl
  have hyl : ys.length = l2.length * 4 := hy.1
  have hs6 := t.size
  have hg7 := h7.lt g hv
  have h6 := h.turn p t
  have tg := Turn.of_grown hg (F := fun j => v2.ownBlock = some j) (fun k h => h)
  have hkl := h.kid.lt
  have hgn : ∀ j, j < w6.heap.size → j = g → v2.ownBlock = some j := fun j hj e => by
    subst e
    rcases hbk with hb | hb
    · rw [← hb]; exact hv
    · rw [hb] at hv; injection hv with hv; omega
  have hbk' : v7.ownBlock = v2.ownBlock ∨ ∃ m, w6.heap.size ≤ m ∧ v7.ownBlock = some m := hbk.imp id fun e => ⟨_, Nat.le_refl _, e⟩
  have hb7 := block_turn h6.blk tg (fun e => by have := (hkl _ e).1; omega)
  have tp := fun (w : World) => putC_turn g z w (l2.length * 4)
  have ts := fun (w : World) => turn_set w tb 3 v7
  have tA : Turn (fun j => v2.ownBlock = some j ∨ j = tb) w6 ((putC w7 g (l2.length * 4) z).setCell ⟨tb, 3, none⟩ v7) :=
    ((tg.mono (G := fun j => v2.ownBlock = some j ∨ j = tb) fun _ _ h => .inl h).trans (tp w7) (fun i hi e => .inl (hgn i hi e))).trans (ts _) (fun _ _ h => .inr h)
  have tB : Turn (fun j => v2.ownBlock = some j ∨ j = tb) w6 (putC (w7.setCell ⟨tb, 3, none⟩ v7) g (l2.length * 4) z) :=
    ((tg.mono (G := fun j => v2.ownBlock = some j ∨ j = tb) fun _ _ h => .inl h).trans (ts _) (fun _ _ h => .inr h)).trans (tp _) (fun i hi e => .inl (hgn i hi e))
  have hw : ∀ w8, Turn (fun j => v2.ownBlock = some j ∨ j = tb) w6 w8 → Turn (fun k => k = bp ∨ tb ≤ k) w w8 := fun w8 t8 => (t.mono (G := fun k => k = bp ∨ tb ≤ k) fun _ _ h => .inl h).trans t8 (fun i _ e => by
    rcases e with e | e
    · have := (hkl i e).1; exact .inr (by omega)
    · exact .inr (by omega))
  have hyA : ((putC w7 g (l2.length * 4) z).setCell ⟨tb, 3, none⟩ v7).ownsRow base 63 4 v7 n7 (ys ++ z) := own_turn (own_end h7 hv (by omega) hyl) (ts _) (fun k hk e => by rw [hv] at hk; injection hk with hk; omega)
  have hyB : (putC (w7.setCell ⟨tb, 3, none⟩ v7) g (l2.length * 4) z).ownsRow base 63 4 v7 n7 (ys ++ z) := own_end (own_turn h7 (ts _) (fun k hk e => by rw [hv] at hk; injection hk with hk; omega)) hv (by omega) hyl
  exact ⟨⟨h.type p t hx tA hy hr hyA hbk' (heap_setCell_same _ _ 3 _ _ _ (block_turn hb7 (tp _) (by omega))), hw _ tA⟩, ⟨h.type p t hx tB hy hr hyB hbk' (block_turn (heap_setCell_same _ _ 3 _ _ _ hb7) (tp _) (by omega)), hw _ tB⟩⟩
set_option maxRecDepth 100000 in
set_option maxHeartbeats 4000000 in
theorem prim1_any (d : Int) (typ : Ps TyD) (HTY : TypC d typ) (w : World) (bp B pb tb base : Nat) (ts : List TokD) (l : List (Bt × TyD)) (hl : l.length ≤ 8193) (h : TkAt w bp B ts d) (hI : PrimI pb tb base bp w l) (hP : PrimP pb tb base bp w) :
    Calls Tryz.prog 146 #[.pointer (some ⟨tb, 0, none⟩), .pointer (some ⟨pb, 0, none⟩)] w (AddsP (PrimI pb tb base bp) (fun k => k = bp ∨ tb ≤ k) bp B d w (moreP (fieldR typ) l ts)) := by
  obtain ⟨v1, v2, hH⟩ := hI
  have p1 := hP.bp_pb; have p2 := hP.bp_tb; have p3 := hP.pb_b; have p4 := hP.tb_b; have p5 := hP.ne; have p6 := hP.b_s
  have HN := hid (pname_any w.drew bp B ts d h)
  have hbx := cells1 hH.box
  obtain ⟨t0, t1, t2, t3, tz⟩ := cells4 hH.blk
  obtain ⟨A1, c1, hv1, hn1, hm1⟩ := hH.nam.ss.open_
  obtain ⟨A2, c2, hv2, hn2, hm2⟩ := hH.kid.shape
  simp only [List.length_map] at hv1 hn1 hv2 hn2
  subst hv1 hv2
  have HH := hid hH
  have HP := hid hP
  obtain ⟨Q, hQ⟩ : ∃ Q, moreP (fieldR typ) l ts = Q := ⟨_, rfl⟩
  rw [hQ]
  have HQ : Hid (thenP (fieldR typ) (fun x => retP (l ++ [x])) ts = Q) := hid hQ
  clear hH hP h hm1 hm2 hQ
  have P0 := hid (fun (w' : World) (h : Turn (fun j => j = bp ∨ base ≤ j) w w') => tcell hbx h (by omega))
  have P2 := hid (fun (w' : World) (h : Turn (fun j => j = bp ∨ base ≤ j) w w') => tcell t2 h (by omega))
  have HD0 : Hid (Turn (fun j => j = bp ∨ base ≤ j) w w.drew) := hid ⟨rfl, rfl, rfl, Nat.le_refl _, fun _ _ _ => rfl⟩
  have HDB : Hid (Turn (fun j => j = bp) w w.drew) := hid ⟨rfl, rfl, rfl, Nat.le_refl _, fun _ _ _ => rfl⟩
  go_enter Tryz.func146, Tryz.ntmps146
  go_wp2_with fail
  refine region_x (S := fun w' => Turn (fun j => j = bp ∨ base ≤ j) w w') (x := 9) (by kernel_rfl) ?_
  try simp only [Act.put, List.getElem_toArray, List.getElem_cons_zero, List.getElem_cons_succ, List.setIfInBounds_toArray, List.set_cons_zero, List.set_cons_succ]
  refine tx 0 (.pointer (some ⟨tb, 2, none⟩)) HD0.out ?_
  refine txf 1 (.slice A1 l.length c1) P2.out HD0.out ?_
  refine txf 2 (.pointer (some ⟨bp, 0, none⟩)) P0.out HD0.out ?_
  refine tx 3 (.pointer (some ⟨bp, 0, none⟩)) HD0.out ?_
  refine tx 4 (.pointer (some ⟨bp, 0, none⟩)) HD0.out ?_
  refine anyX_ready (rs := [5]) (by kernel_rfl) (by simp) ?_
  refine ReadyX.cons rfl (fun K hK => ?_) (ReadyX.nil)
  go_simp
  refine (HN.out).mono ?_
  rintro e w2 h2
  rcases hq : nameP ts with g | ⟨s, r⟩
  · obtain ⟨rfl, t2, b2⟩ := h2.bad_ hq
    have HT := hid (((HDB.out.trans t2 (fun _ _ h => h)).mono (G := fun k => k = bp ∨ tb ≤ k) (fun _ _ h => .inl h)))
    have HB := hid b2
    have HQ1 := hid (HQ.out.symm.trans (thenP_bad (thenP_bad hq)))
    clear h2 t2 b2 hq
    exact ⟨rfl, AddsP.fail HQ1.out HT.out HB.out⟩
  · obtain ⟨v, rfl, t2w, rfl, k2⟩ := h2.good_ hq
    have tb2 := HDB.out.trans t2w (fun _ _ h => h)
    have HT2 := hid (tb2.mono (G := fun j => j = bp ∨ base ≤ j) (fun _ _ h => .inl h))
    have HTB2 := hid tb2
    have HK2 := hid k2
    have HH2 := hid (HH.out.turn HP.out tb2)
    have HP2 := hid (HP.out.turn tb2)
    have HQ1 : Hid (thenP (thenP (wantP [58]) fun _ => thenP typ fun t => retP (s, t)) (fun x => retP (l ++ [x])) r = Q) := hid ((then2_good (p := nameP) hq).symm.trans HQ.out)
    clear h2 t2w k2 hq tb2
    refine hK.out _ _ HT2.out ?_
    clear hK K
    try simp only [Act.put, List.getElem_toArray, List.getElem_cons_zero, List.getElem_cons_succ, List.setIfInBounds_toArray, List.set_cons_zero, List.set_cons_succ]
    refine anyX_ready (rs := [6]) (by kernel_rfl) (by simp) ?_
    refine ReadyX.cons rfl (fun K hK => ?_) (ReadyX.nil)
    go_simp
    have HT3 := hid (HT2.out.trans (Turn.alloc (fun j => j = bp ∨ base ≤ j) w2 (.cells #[sv s] 9)) (fun _ _ h => h))
    refine hK.out _ _ HT3.out ?_
    clear hK K
    try simp only [Act.put, List.getElem_toArray, List.getElem_cons_zero, List.getElem_cons_succ, List.setIfInBounds_toArray, List.set_cons_zero, List.set_cons_succ]
    refine anyX_ready (rs := [7]) (by kernel_rfl) (by simp) ?_
    refine ReadyX.cons rfl (fun K hK => ?_) (ReadyX.nil)
    have HROW := hid (HH2.out.nam.alloc (.cells #[sv s] 9))
    have HSS := hid (ss_new w2 s 9)
    have hlen : (svs (l.map (·.1))).length = l.length := by simp [svs]
    refine step_app rfl (.tmp 3) (.tmp 8) _ rfl base el_str (.slice A1 l.length c1) (.slice (some ⟨w2.heap.size, 0, none⟩) 1 1) rfl rfl HROW.out.row HSS.out (svs_one _) (by simp [svs, maxLen]; omega) (by simp [svs]; omega) (by have := HP2.out.b_s; simp; omega) (fun v7 w7 n7 hown7 hg7 hbk7 => ?_)
    obtain ⟨A7, c7, rfl, _, _⟩ := own_sh hown7
    obtain ⟨hH8, ht8⟩ := HH2.out.name HP2.out (o := .cells #[sv s] 9) (s := s) (w7 := w7) ⟨n7, by rw [svs_append]; exact hown7⟩ hg7 hbk7
    have HH8 := hid hH8
    have HT8 := hid ht8
    have HT7 := hid (HT3.out.trans (Turn.of_grown hg7 (F := fun j => j = bp ∨ base ≤ j) (fun k e => .inr (HROW.out.lt k e).1)) (fun _ _ h => h))
    have t7 : w7.cell? ⟨tb, 2, none⟩ = some (.slice A1 l.length c1) := P2.out _ HT7.out
    have z7 : ∀ i, w7.frozen? ⟨tb, i, none⟩ = false := fun i => by
      have hb := block_turn (block_turn HH2.out.blk (Turn.alloc (fun _ => False) w2 (.cells #[sv s] 9)) id) (Turn.of_grown hg7 (F := fun j => base ≤ j) (fun k e => (HROW.out.lt k e).1)) (by omega)
      exact frozen_of_row _ _ _ _ _ hb
    clear hH8 ht8 hown7 hg7 hbk7 hlen
    refine hK.out _ _ HT7.out ?_
    clear hK K
    try simp only [Act.put, List.getElem_toArray, List.getElem_cons_zero, List.getElem_cons_succ, List.setIfInBounds_toArray, List.set_cons_zero, List.set_cons_succ]
    refine tx 8 (.pointer (some ⟨tb, 2, none⟩)) HT7.out ?_
    refine anyX_ready (rs := [9]) (by kernel_rfl) (by simp) ?_
    refine ReadyX.past rfl (by kernel_rfl) (fun K hK => ?_) (ReadyX.nil)
    go_simp
    refine hK.out _ _ ?_
    clear hK K
    try simp only [Act.put, List.getElem_toArray, List.getElem_cons_zero, List.getElem_cons_succ, List.setIfInBounds_toArray, List.set_cons_zero, List.set_cons_succ]
    refine anyX_done (by kernel_rfl) ?_ _
    have hP8 := HP2.out.turn HT8.out
    have hk8 := HK2.out.turn HT8.out (fun e => by rcases e with e | e; (have := (HH2.out.nam.lt _ e).1; omega); omega) (fun k hk e => by
      have := HK2.out.1
      rcases e with e | e
      · have := (HH2.out.nam.lt _ e).1; omega
      · omega)
    have HTT := hid ((HTB2.out.mono (G := fun k => k = bp ∨ tb ≤ k) (fun _ _ h => .inl h)).trans HT8.out (fun i _ e => by
      rcases e with e | e
      · have := (HH2.out.nam.lt i e).1; exact .inr (by omega)
      · exact .inr (by omega)))
    have HP8 := hid hP8
    have HK8 := hid hk8
    have HW := hid (want_lit _ bp B r d hk8 [58] 9 _ rfl)
    generalize w7.setCell ⟨tb, 2, none⟩ _ = w8 at *
    have hbx8 := cells1 HH8.out.box
    clear hP8 hk8 HT7 HT8 t7 z7 HT3 HSS HROW HT2 HH2 HP2 HK2 P0 P2 hbx t0 t1 t2 t3 tz
    go_wp2_with fail
    refine (HW.out).mono ?_
    rintro e w9 h9
    rcases hq : wantP [58] r with g | ⟨u, r9⟩
    · obtain ⟨rfl, t9, b9⟩ := h9.bad_ hq
      have HT := hid (HTT.out.trans t9 (fun _ _ h => .inl h))
      have HB := hid b9
      have HQ2 := hid (HQ1.out.symm.trans (thenP_bad (thenP_bad hq)))
      clear h9 t9 b9 hq
      go_wp2_with fail
      exact ⟨rfl, AddsP.fail HQ2.out HT.out HB.out⟩
    · obtain ⟨v, rfl, t9, -, k9⟩ := h9.good_ hq
      have hH9 := HH8.out.turn HP8.out t9
      have HH9 := hid hH9
      have HP9 := hid (HP8.out.turn t9)
      have HT9 := hid (HTT.out.trans t9 (fun _ _ h => .inl h))
      have HK9 := hid k9
      have HQ2 : Hid (thenP (thenP typ fun t => retP (s, t)) (fun x => retP (l ++ [x])) r9 = Q) := hid ((then2_good (p := wantP [58]) hq).symm.trans HQ1.out)
      have hbx9 := cells1 hH9.box
      obtain ⟨s0, s1, s2, s3, sz⟩ := cells4 hH9.blk
      have P0 := hid (fun (w' : World) (h : Turn (fun j => j = bp ∨ base ≤ j) w9 w') => tcell hbx9 h (by omega))
      have P3 := hid (fun (w' : World) (h : Turn (fun j => j = bp ∨ base ≤ j) w9 w') => tcell s3 h (by omega))
      have HD0 : Hid (Turn (fun j => j = bp ∨ base ≤ j) w9 w9.drew) := hid ⟨rfl, rfl, rfl, Nat.le_refl _, fun _ _ _ => rfl⟩
      have HDB : Hid (Turn (fun j => j = bp) w9 w9.drew) := hid ⟨rfl, rfl, rfl, Nat.le_refl _, fun _ _ _ => rfl⟩
      clear h9 t9 k9 hq hH9 hbx8 hbx9 s0 s1 s2 s3 sz
      go_wp2_with fail
      refine region_x (S := fun w' => Turn (fun j => j = bp ∨ base ≤ j) w9 w') (x := 10) (by kernel_rfl) ?_
      try simp only [Act.put, List.getElem_toArray, List.getElem_cons_zero, List.getElem_cons_succ, List.setIfInBounds_toArray, List.set_cons_zero, List.set_cons_succ]
      refine tx 0 (.pointer (some ⟨tb, 3, none⟩)) HD0.out ?_
      refine txf 1 (.slice A2 l.length c2) P3.out HD0.out ?_
      refine txf 2 (.pointer (some ⟨bp, 0, none⟩)) P0.out HD0.out ?_
      refine tx 4 (.int .i64 (l.length : Int)) HD0.out ?_
      refine anyX_ready (rs := [3, 5]) (by kernel_rfl) (by simp) ?_
      refine ReadyX.cons rfl (fun K hK => ?_) (ReadyX.cons rfl (fun K hK => ?_) ReadyX.nil)
      · have HW9 := HDB
        have HTC := hid (HTY w9.drew bp B r9 HK9.out)
        go_simp
        refine (HTC.out).mono ?_
        rintro e w10 h10
        rcases hq : typ r9 with g | ⟨x, r10⟩
        · obtain ⟨rfl, t10, b10⟩ := h10.bad_ hq
          have HT := hid (HT9.out.trans (HW9.out.trans t10 (fun _ _ h => h)) (fun _ _ h => .inl h))
          have HB := hid b10
          have HQ3 := hid (HQ2.out.symm.trans (thenP_bad (thenP_bad hq)))
          clear h10 t10 b10 hq
          exact ⟨rfl, AddsP.fail HQ3.out HT.out HB.out⟩
        · obtain ⟨v, rfl, t10, ⟨z, rfl, hz⟩, k10⟩ := h10.good_ hq
          obtain ⟨kz, sz, Az1, nz1, cz1, Az2, nz2, cz2, rfl⟩ := hz.shape'
          have HT10 := hid (HW9.out.trans t10 (fun _ _ h => h))
          have HS10 := hid (HT10.out.mono (G := fun j => j = bp ∨ base ≤ j) (fun _ _ h => .inl h))
          have HK10 := hid k10
          have HQ3 : Hid (Pr.good (l ++ [(s, x)]) r10 = Q) := hid ((then2_good (p := typ) hq).symm.trans HQ2.out)
          have HZ := hid (hz.mono (G := fun j => w9.heap.size ≤ j) (fun _ _ h => Nat.le_trans HW9.out.size h))
          clear h10 t10 k10 hq hz
          refine hK.out _ _ HS10.out ?_
          clear hK K
          try simp only [Act.put, List.getElem_toArray, List.getElem_cons_zero, List.getElem_cons_succ, List.setIfInBounds_toArray, List.set_cons_zero, List.set_cons_succ]
          refine anyX_ready (rs := [5]) (by kernel_rfl) (by simp) ?_
          refine ReadyX.cons rfl (fun K hK => ?_) (ReadyX.nil)
          go_simp
          have HTQ := hid (HT10.out.trans (Turn.alloc (fun j => j = bp) w10 (.cells #[.int .i64 0, .string ⟨#[]⟩, .slice none 0 0, .slice none 0 0] 63)) (fun _ _ h => h))
          have HSQ := hid (HTQ.out.mono (G := fun j => j = bp ∨ base ≤ j) (fun _ _ h => .inl h))
          have HZQ := hid (HZ.out.turn (Turn.alloc (fun _ => False) w10 (.cells #[.int .i64 0, .string ⟨#[]⟩, .slice none 0 0, .slice none 0 0] 63)) (fun _ _ _ => id))
          have HKQ := hid (HK10.out.below (new1 w10 (.cells #[.int .i64 0, .string ⟨#[]⟩, .slice none 0 0, .slice none 0 0] 63)))
          have HSL := hid (sl_new w10 #[.int .i64 0, .string ⟨#[]⟩, .slice none 0 0, .slice none 0 0] 63 4 1 rfl (by decide))
          refine hK.out _ _ HSQ.out ?_
          clear hK K
          try simp only [Act.put, List.getElem_toArray, List.getElem_cons_zero, List.getElem_cons_succ, List.setIfInBounds_toArray, List.set_cons_zero, List.set_cons_succ]
          refine anyX_ready (rs := [6]) (by kernel_rfl) (by simp) ?_
          refine ReadyX.cons rfl (fun K hK => ?_) (ReadyX.nil)
          obtain ⟨ys, hy, hr⟩ := HH9.out.kid
          have hyl : ys.length = l.length * 4 := by have := hy.1; simpa using this
          have HROW := hid (own_turn hy HTQ.out (fun g hg e => by have := (hy.lt g hg).1; omega))
          refine step_app rfl (.tmp 17) (.tmp 21) _ rfl base el_ty (.slice A2 l.length c2) _ rfl rfl HROW.out HSL.out ty0_one (by simp [maxLen]; omega) (by simp; omega) (by have := HP9.out.b_s; have := HTQ.out.size; omega) (fun v7 w7 n7 hown7 hg7 hbk7 => ?_)
          have hn7 : n7 = l.length + 1 := by have := hown7.1; rw [List.length_append, hyl] at this; simp at this; omega
          subst hn7
          obtain ⟨g7, c7, rfl, hgb, hgs, hc7, hm7⟩ := own_form hown7 (by omega)
          have he := HH9.out.type2 HP9.out HTQ.out HZQ.out hy hr (by rfl) hown7 hg7 hbk7 rfl
          simp only [List.length_map] at he
          have HE := hid he
          have HS7 := hid ((HTQ.out.mono (G := fun j => j = bp ∨ base ≤ j) (fun _ _ h => .inl h)).trans (Turn.of_grown hg7 (F := fun j => j = bp ∨ base ≤ j) (fun k e => .inr (hy.lt k e).1)) (fun _ _ h => h))
          have HK7 := hid (HKQ.out.turn (Turn.of_grown hg7 (F := fun j => base ≤ j) (fun k e => (hy.lt k e).1)) (by omega) (fun k hk e => by have := HKQ.out.1; omega))
          have hb7 : w7.heap[tb]? = some (.cells #[.int .i64 5, sv [], _, .slice A2 l.length c2] 63 (0, 0)) := block_turn HH9.out.blk HS7.out (by omega)
          obtain ⟨e0, e1, e2, e3, ez⟩ := cells4 hb7
          have o0 := own_cell hown7 rfl (i := l.length * 4) (u := .int .i64 0) (by rw [List.getElem?_append_right (by omega), hyl, Nat.sub_self]; rfl)
          have o1 := own_cell hown7 rfl (i := l.length * 4 + 1) (u := .string ⟨#[]⟩) (by rw [List.getElem?_append_right (by omega), hyl, Nat.add_sub_cancel_left]; rfl)
          have o2 := own_cell hown7 rfl (i := l.length * 4 + 2) (u := .slice none 0 0) (by rw [List.getElem?_append_right (by omega), hyl, Nat.add_sub_cancel_left]; rfl)
          have o3 := own_cell hown7 rfl (i := l.length * 4 + 3) (u := .slice none 0 0) (by rw [List.getElem?_append_right (by omega), hyl, Nat.add_sub_cancel_left]; rfl)
          obtain ⟨o0, q0⟩ := o0
          obtain ⟨o1, q1⟩ := o1
          obtain ⟨o2, q2⟩ := o2
          obtain ⟨o3, q3⟩ := o3
          have hne1 : ¬ g7 = tb := by omega
          have hne2 : ¬ tb = g7 := by omega
          clear he hown7 hg7 hbk7 hb7 hy hr e0 e1 e2
          refine hK.out _ _ HS7.out ?_
          clear hK K
          try simp only [Act.put, List.getElem_toArray, List.getElem_cons_zero, List.getElem_cons_succ, List.setIfInBounds_toArray, List.set_cons_zero, List.set_cons_succ]
          refine tt 7 (.pointer (some ⟨g7, l.length * 4, none⟩)) (fun _ => HS7.out) (hy := by intro w' hSw; go_simp <;> (intro h; omega)) ?_
          refine tt 9 (.pointer (some ⟨tb, 3, none⟩)) (fun _ => HS7.out) ?_
          refine anyX_ready (rs := [8, 10]) (by kernel_rfl) (by simp) ?_
          refine ReadyX.cons rfl (fun K hK => ?_) (ReadyX.past rfl (by kernel_rfl) (fun K hK => ?_) ReadyX.nil)
          · go_simp
            have HSA := hid (HS7.out.trans (putC_turn g7 [.int .i64 kz, sv sz, .slice Az1 nz1 cz1, .slice Az2 nz2 cz2] w7 (l.length * 4)) (fun _ _ h => .inr (by omega)))
            refine hK.out _ _ HSA.out ?_
            clear hK K
            try simp only [Act.put, List.getElem_toArray, List.getElem_cons_zero, List.getElem_cons_succ, List.setIfInBounds_toArray, List.set_cons_zero, List.set_cons_succ]
            refine anyX_ready (rs := [10]) (by kernel_rfl) (by simp) ?_
            refine ReadyX.past rfl (by kernel_rfl) (fun K hK => ?_) (ReadyX.nil)
            go_simp
            refine hK.out _ _ ?_
            clear hK K
            try simp only [Act.put, List.getElem_toArray, List.getElem_cons_zero, List.getElem_cons_succ, List.setIfInBounds_toArray, List.set_cons_zero, List.set_cons_succ]
            refine anyX_done (by kernel_rfl) ?_ _
            have hK8 := HK7.out.turn (((putC_turn g7 [.int .i64 kz, sv sz, .slice Az1 nz1 cz1, .slice Az2 nz2 cz2] w7 (l.length * 4)).mono (G := fun k => k = g7 ∨ k = tb) (fun _ _ h => .inl h)).trans (turn_set _ tb 3 (.slice (some ⟨g7, 0, none⟩) (l.length + 1) c7)) (fun _ _ h => .inr h)) (fun e => by rcases e with e | e <;> omega) (fun k hk e => by have := HKQ.out.1; rcases e with e | e <;> omega)
            go_wp2_with fail
            go_end0
            exact AddsP.done HQ3.out.symm (HT9.out.trans HE.out.1.2 (fun _ _ h => h)) ⟨_, _, by rw [List.map_append, List.map_append]; exact HE.out.1.1⟩ hK8
          · go_simp
            refine hK.out _ _ ?_
            clear hK K
            try simp only [Act.put, List.getElem_toArray, List.getElem_cons_zero, List.getElem_cons_succ, List.setIfInBounds_toArray, List.set_cons_zero, List.set_cons_succ]
            refine anyX_ready (rs := [8]) (by kernel_rfl) (by simp) ?_
            refine ReadyX.past rfl (by kernel_rfl) (fun K hK => ?_) (ReadyX.nil)
            go_simp
            refine hK.out _ _ ?_
            clear hK K
            try simp only [Act.put, List.getElem_toArray, List.getElem_cons_zero, List.getElem_cons_succ, List.setIfInBounds_toArray, List.set_cons_zero, List.set_cons_succ]
            refine anyX_done (by kernel_rfl) ?_ _
            have hK8 := HK7.out.turn (((turn_set w7 tb 3 (.slice (some ⟨g7, 0, none⟩) (l.length + 1) c7)).mono (G := fun k => k = g7 ∨ k = tb) (fun _ _ h => .inr h)).trans (putC_turn g7 [.int .i64 kz, sv sz, .slice Az1 nz1 cz1, .slice Az2 nz2 cz2] _ (l.length * 4)) (fun _ _ h => .inl h)) (fun e => by rcases e with e | e <;> omega) (fun k hk e => by have := HKQ.out.1; rcases e with e | e <;> omega)
            go_wp2_with fail
            go_end0
            exact AddsP.done HQ3.out.symm (HT9.out.trans HE.out.2.2 (fun _ _ h => h)) ⟨_, _, by rw [List.map_append, List.map_append]; exact HE.out.2.1⟩ hK8
      · skip
        go_simp
        have HSD := hid (HD0.out.trans (Turn.alloc (fun j => j = bp ∨ base ≤ j) w9.drew (.cells #[.int .i64 0, .string ⟨#[]⟩, .slice none 0 0, .slice none 0 0] 63)) (fun _ _ h => h))
        have HTC := hid (HTY _ bp B r9 (TkAt.below (w := w9.drew) HK9.out (new1 w9.drew (.cells #[.int .i64 0, .string ⟨#[]⟩, .slice none 0 0, .slice none 0 0] 63))))
        have HW9 := hid (HDB.out.trans (Turn.alloc (fun j => j = bp) w9.drew (.cells #[.int .i64 0, .string ⟨#[]⟩, .slice none 0 0, .slice none 0 0] 63)) (fun _ _ h => h))
        refine hK.out _ _ HSD.out ?_
        clear hK K
        try simp only [Act.put, List.getElem_toArray, List.getElem_cons_zero, List.getElem_cons_succ, List.setIfInBounds_toArray, List.set_cons_zero, List.set_cons_succ]
        refine anyX_ready (rs := [3]) (by kernel_rfl) (by simp) ?_
        refine ReadyX.cons rfl (fun K hK => ?_) (ReadyX.nil)
        go_simp
        refine (HTC.out).mono ?_
        rintro e w10 h10
        rcases hq : typ r9 with g | ⟨x, r10⟩
        · obtain ⟨rfl, t10, b10⟩ := h10.bad_ hq
          have HT := hid (HT9.out.trans (HW9.out.trans t10 (fun _ _ h => h)) (fun _ _ h => .inl h))
          have HB := hid b10
          have HQ3 := hid (HQ2.out.symm.trans (thenP_bad (thenP_bad hq)))
          clear h10 t10 b10 hq
          exact ⟨rfl, AddsP.fail HQ3.out HT.out HB.out⟩
        · obtain ⟨v, rfl, t10, ⟨z, rfl, hz⟩, k10⟩ := h10.good_ hq
          obtain ⟨kz, sz, Az1, nz1, cz1, Az2, nz2, cz2, rfl⟩ := hz.shape'
          have HT10 := hid (HW9.out.trans t10 (fun _ _ h => h))
          have HS10 := hid (HT10.out.mono (G := fun j => j = bp ∨ base ≤ j) (fun _ _ h => .inl h))
          have HK10 := hid k10
          have HQ3 : Hid (Pr.good (l ++ [(s, x)]) r10 = Q) := hid ((then2_good (p := typ) hq).symm.trans HQ2.out)
          have HZ := hid (hz.mono (G := fun j => w9.heap.size ≤ j) (fun _ _ h => Nat.le_trans HW9.out.size h))
          have HTQ := HT10
          have HZQ := HZ
          have HKQ := HK10
          have HSL := hid (sl_new_turn w9.drew #[.int .i64 0, .string ⟨#[]⟩, .slice none 0 0, .slice none 0 0] 63 4 1 rfl (by decide) t10 (by have := HP9.out.b_s; have hs : w9.drew.heap.size = w9.heap.size := rfl; omega))
          clear h10 t10 k10 hq hz
          refine hK.out _ _ HS10.out ?_
          clear hK K
          try simp only [Act.put, List.getElem_toArray, List.getElem_cons_zero, List.getElem_cons_succ, List.setIfInBounds_toArray, List.set_cons_zero, List.set_cons_succ]
          refine anyX_ready (rs := [6]) (by kernel_rfl) (by simp) ?_
          refine ReadyX.cons rfl (fun K hK => ?_) (ReadyX.nil)
          obtain ⟨ys, hy, hr⟩ := HH9.out.kid
          have hyl : ys.length = l.length * 4 := by have := hy.1; simpa using this
          have HROW := hid (own_turn hy HTQ.out (fun g hg e => by have := (hy.lt g hg).1; omega))
          refine step_app rfl (.tmp 17) (.tmp 21) _ rfl base el_ty (.slice A2 l.length c2) _ rfl rfl HROW.out HSL.out ty0_one (by simp [maxLen]; omega) (by simp; omega) (by have := HP9.out.b_s; have := HTQ.out.size; omega) (fun v7 w7 n7 hown7 hg7 hbk7 => ?_)
          have hn7 : n7 = l.length + 1 := by have := hown7.1; rw [List.length_append, hyl] at this; simp at this; omega
          subst hn7
          obtain ⟨g7, c7, rfl, hgb, hgs, hc7, hm7⟩ := own_form hown7 (by omega)
          have he := HH9.out.type2 HP9.out HTQ.out HZQ.out hy hr (by rfl) hown7 hg7 hbk7 rfl
          simp only [List.length_map] at he
          have HE := hid he
          have HS7 := hid ((HTQ.out.mono (G := fun j => j = bp ∨ base ≤ j) (fun _ _ h => .inl h)).trans (Turn.of_grown hg7 (F := fun j => j = bp ∨ base ≤ j) (fun k e => .inr (hy.lt k e).1)) (fun _ _ h => h))
          have HK7 := hid (HKQ.out.turn (Turn.of_grown hg7 (F := fun j => base ≤ j) (fun k e => (hy.lt k e).1)) (by omega) (fun k hk e => by have := HKQ.out.1; omega))
          have hb7 : w7.heap[tb]? = some (.cells #[.int .i64 5, sv [], _, .slice A2 l.length c2] 63 (0, 0)) := block_turn HH9.out.blk HS7.out (by omega)
          obtain ⟨e0, e1, e2, e3, ez⟩ := cells4 hb7
          have o0 := own_cell hown7 rfl (i := l.length * 4) (u := .int .i64 0) (by rw [List.getElem?_append_right (by omega), hyl, Nat.sub_self]; rfl)
          have o1 := own_cell hown7 rfl (i := l.length * 4 + 1) (u := .string ⟨#[]⟩) (by rw [List.getElem?_append_right (by omega), hyl, Nat.add_sub_cancel_left]; rfl)
          have o2 := own_cell hown7 rfl (i := l.length * 4 + 2) (u := .slice none 0 0) (by rw [List.getElem?_append_right (by omega), hyl, Nat.add_sub_cancel_left]; rfl)
          have o3 := own_cell hown7 rfl (i := l.length * 4 + 3) (u := .slice none 0 0) (by rw [List.getElem?_append_right (by omega), hyl, Nat.add_sub_cancel_left]; rfl)
          obtain ⟨o0, q0⟩ := o0
          obtain ⟨o1, q1⟩ := o1
          obtain ⟨o2, q2⟩ := o2
          obtain ⟨o3, q3⟩ := o3
          have hne1 : ¬ g7 = tb := by omega
          have hne2 : ¬ tb = g7 := by omega
          clear he hown7 hg7 hbk7 hb7 hy hr e0 e1 e2
          refine hK.out _ _ HS7.out ?_
          clear hK K
          try simp only [Act.put, List.getElem_toArray, List.getElem_cons_zero, List.getElem_cons_succ, List.setIfInBounds_toArray, List.set_cons_zero, List.set_cons_succ]
          refine tt 7 (.pointer (some ⟨g7, l.length * 4, none⟩)) (fun _ => HS7.out) (hy := by intro w' hSw; go_simp <;> (intro h; omega)) ?_
          refine tt 9 (.pointer (some ⟨tb, 3, none⟩)) (fun _ => HS7.out) ?_
          refine anyX_ready (rs := [8, 10]) (by kernel_rfl) (by simp) ?_
          refine ReadyX.cons rfl (fun K hK => ?_) (ReadyX.past rfl (by kernel_rfl) (fun K hK => ?_) ReadyX.nil)
          · go_simp
            have HSA := hid (HS7.out.trans (putC_turn g7 [.int .i64 kz, sv sz, .slice Az1 nz1 cz1, .slice Az2 nz2 cz2] w7 (l.length * 4)) (fun _ _ h => .inr (by omega)))
            refine hK.out _ _ HSA.out ?_
            clear hK K
            try simp only [Act.put, List.getElem_toArray, List.getElem_cons_zero, List.getElem_cons_succ, List.setIfInBounds_toArray, List.set_cons_zero, List.set_cons_succ]
            refine anyX_ready (rs := [10]) (by kernel_rfl) (by simp) ?_
            refine ReadyX.past rfl (by kernel_rfl) (fun K hK => ?_) (ReadyX.nil)
            go_simp
            refine hK.out _ _ ?_
            clear hK K
            try simp only [Act.put, List.getElem_toArray, List.getElem_cons_zero, List.getElem_cons_succ, List.setIfInBounds_toArray, List.set_cons_zero, List.set_cons_succ]
            refine anyX_done (by kernel_rfl) ?_ _
            have hK8 := HK7.out.turn (((putC_turn g7 [.int .i64 kz, sv sz, .slice Az1 nz1 cz1, .slice Az2 nz2 cz2] w7 (l.length * 4)).mono (G := fun k => k = g7 ∨ k = tb) (fun _ _ h => .inl h)).trans (turn_set _ tb 3 (.slice (some ⟨g7, 0, none⟩) (l.length + 1) c7)) (fun _ _ h => .inr h)) (fun e => by rcases e with e | e <;> omega) (fun k hk e => by have := HKQ.out.1; rcases e with e | e <;> omega)
            go_wp2_with fail
            go_end0
            exact AddsP.done HQ3.out.symm (HT9.out.trans HE.out.1.2 (fun _ _ h => h)) ⟨_, _, by rw [List.map_append, List.map_append]; exact HE.out.1.1⟩ hK8
          · go_simp
            refine hK.out _ _ ?_
            clear hK K
            try simp only [Act.put, List.getElem_toArray, List.getElem_cons_zero, List.getElem_cons_succ, List.setIfInBounds_toArray, List.set_cons_zero, List.set_cons_succ]
            refine anyX_ready (rs := [8]) (by kernel_rfl) (by simp) ?_
            refine ReadyX.past rfl (by kernel_rfl) (fun K hK => ?_) (ReadyX.nil)
            go_simp
            refine hK.out _ _ ?_
            clear hK K
            try simp only [Act.put, List.getElem_toArray, List.getElem_cons_zero, List.getElem_cons_succ, List.setIfInBounds_toArray, List.set_cons_zero, List.set_cons_succ]
            refine anyX_done (by kernel_rfl) ?_ _
            have hK8 := HK7.out.turn (((turn_set w7 tb 3 (.slice (some ⟨g7, 0, none⟩) (l.length + 1) c7)).mono (G := fun k => k = g7 ∨ k = tb) (fun _ _ h => .inr h)).trans (putC_turn g7 [.int .i64 kz, sv sz, .slice Az1 nz1 cz1, .slice Az2 nz2 cz2] _ (l.length * 4)) (fun _ _ h => .inl h)) (fun e => by rcases e with e | e <;> omega) (fun k hk e => by have := HKQ.out.1; rcases e with e | e <;> omega)
            go_wp2_with fail
            go_end0
            exact AddsP.done HQ3.out.symm (HT9.out.trans HE.out.2.2 (fun _ _ h => h)) ⟨_, _, by rw [List.map_append, List.map_append]; exact HE.out.2.1⟩ hK8
end Go.Proofs.YtmbppnbekkbibaaGreatDoor
end
section
/- The contract of what stands between bars in a type. -/
set_option linter.unusedVariables false
namespace Go.Proofs.YtmbppnbekkbibaaGreatDoor
open Go.RowKit

theorem takeP_lt {l : List Bt} {ts r : List TokD} {i : Nat} (h : takeP l ts = .good (some i) r) : i < l.length := by
  unfold takeP at h
  split at h
  · cases h
  · rename_i j hj
    injection h with h1 _
    injection h1 with h1
    subst h1
    exact (List.findIdx?_eq_some_iff_getElem.1 hj).1
theorem new_turn4 {bp a : Nat} {w w1 : World} {v0 v1 v2 v3 : Value} (h : Turn (fun k => k = bp) w w1) (ha : w.heap.size ≤ a) : Turn (fun k => k = bp) w (put4 w1 a v0 v1 v2 v3) := h.trans (put4_turn w1 a v0 v1 v2 v3) (fun i hi e => by omega)
theorem TkAt.put4_ {bp B a : Nat} {w1 : World} {ts : List TokD} {d : Int} {v0 v1 v2 v3 : Value} (h : TkAt w1 bp B ts d) (ha : bp < a) : TkAt (put4 w1 a v0 v1 v2 v3) bp B ts d := h.turn (put4_turn _ _ _ _ _ _) (by omega) (fun k hk e => by have := h.1; omega)
theorem sf_field {typ : Ps TyD} (ht : Sf typ) : Sf (fieldR typ) := Sf.then_ Sf.name fun s => Sf.then_ (Sf.want _) fun _ => Sf.then_ ht fun t => Sf.ret _
theorem PrimH.turn0 {pb tb base bp : Nat} {w w' : World} {l1 : List Bt} {l2 : List TyD} {v1 v2 : Value} (h : PrimH pb tb base bp w l1 l2 v1 v2) (t : Turn (fun k => k = bp) w w') (h1 : bp < pb) (h2 : bp < tb) (h3 : bp < base) : PrimH pb tb base bp w' l1 l2 v1 v2 :=
  ⟨block_turn h.box t (by omega), block_turn h.blk t (by omega), h.nam.turn t (fun g hg e => by have := (h.nam.lt g hg).1; omega), h.kid.turn foot_ty t (fun g hg e => by have := (h.kid.lt g hg).1; omega) (fun g _ hg e => by have := hg.1; omega), h.ne⟩
set_option maxRecDepth 100000 in
set_option maxHeartbeats 4000000 in
theorem prim_any (d : Int) (typ : Ps TyD) (HTY : TypC d typ) (hsf : Sf typ) (w : World) (bp B : Nat) (ts : List TokD) (h : TkAt w bp B ts d) :
    Calls Tryz.prog 99 #[.pointer (some ⟨bp, 0, none⟩)] w (ReadsP (PTy w.heap.size) bp B d w (primP typ ts)) := by
  have hlt := h.lt
  have hB := h.1
  obtain ⟨Q, hQ⟩ : ∃ Q, primP typ ts = Q := ⟨_, rfl⟩
  rw [hQ]
  have HQ := hid hQ
  have HC := hid (take_lit ((w.alloc (.cells #[.pointer (some ⟨bp, 0, none⟩)] 94)).alloc (.cells #[.int .i64 0, .string ⟨#[]⟩, .slice none 0 0, .slice none 0 0] 63)) bp B ts d (h.below (new2 _ _ _)) basesL #[.string ⟨#[97, 110, 121]⟩, .string ⟨#[110, 117, 108, 108]⟩, .string ⟨#[98, 111, 111, 108]⟩, .string ⟨#[105, 110, 116]⟩, .string ⟨#[115, 116, 114]⟩] 9 5 (w.heap.size + 1 + 1))
  clear h hQ
  go_enter Tryz.func99, Tryz.ntmps99
  go_wp2_with fail
  refine (HC.out).mono ?_
  rintro e w1 h1
  rcases hq : takeP basesL ts with g | ⟨o, r1⟩
  · obtain ⟨rfl, tn, bn⟩ := h1.bad_ hq
    exact (takeP_good hq).elim
  · obtain ⟨v1, rfl, tn, hP, kn⟩ := h1.good_ hq
    obtain ⟨tm, hsz, hbx, hrs⟩ := after2 tn
    have HBX := hid (hbx (by omega))
    have HRS := hid (hrs (by omega))
    obtain rfl := hP
    have hq1 := hid hq
    clear hbx hrs
    have hs1 := tm.size
    have HT1 := hid (tm)
    have HK1 := hid kn
    clear h1 tn kn hq
    rcases o with _ | i
    · have HQa : Hid (thenP (takeP [[40], [123]]) (fun c => match c with | none => thenP nameP fun s => retP (.mk 8 s [] []) | some 0 => thenP typ fun t => thenP (wantP [41]) fun _ => retP t | some _ => thenP (hasP [125]) fun e => if e then retP (.mk 5 [] [] []) else thenP (sepP (fieldR typ)) fun l => thenP (wantP [125]) fun _ => retP (.mk 5 [] (l.map (·.1)) (l.map (·.2)))) r1 = Q) := hid ((thenP_good hq1.out).symm.trans HQ.out)
      have HC2 := hid (take_lit w1 bp B r1 d HK1.out [[40], [123]] #[.string ⟨#[40]⟩, .string ⟨#[123]⟩] 9 2 w1.heap.size)
      have hbx := cells1 HBX.out
      go_wp2_with fail
      refine (HC2.out).mono ?_
      rintro e w2 h2
      rcases hq : takeP [[40], [123]] r1 with g | ⟨o, r2⟩
      · obtain ⟨rfl, tn, bn⟩ := h2.bad_ hq
        exact (takeP_good hq).elim
      · obtain ⟨v2, rfl, tn, rfl, kn⟩ := h2.good_ hq
        have hs2 := tn.size
        have HT2 := hid (turn_bp HT1.out tn)
        have HK2 := hid kn
        have HBX_2 := hid (block_turn HBX.out tn (by omega))
        have HRS_2 := hid (block_turn HRS.out tn (by omega))
        have hq2 := hid hq
        clear h2 tn kn hq
        have hbx2 := cells1 HBX_2.out
        clear hbx
        rcases o with _ | j
        · have HQb : Hid (thenP nameP (fun s => retP (TyD.mk 8 s [] [])) r2 = Q) := hid ((thenP_good hq2.out).symm.trans HQa.out)
          have HN := hid (pname_any w2 bp B r2 d HK2.out)
          go_wp2_with fail
          refine (HN.out).mono ?_
          rintro e w3 h3
          rcases hq : nameP r2 with g | ⟨s, r3⟩
          · obtain ⟨rfl, tn, bn⟩ := h3.bad_ hq
            have HB := hid (BadP.mk2 (turn_bp HT2.out tn) bn)
            have HQB := hid (HQb.out.symm.trans (thenP_bad hq))
            clear h3 tn bn hq
            go_wp2_with fail
            exact ⟨rfl, ReadsP.fail HQB.out HB.out⟩
          · obtain ⟨v3, rfl, tn, rfl, kn⟩ := h3.good_ hq
            have hs3 := tn.size
            have HT3 := hid (turn_bp HT2.out tn)
            have HK3 := hid kn
            have HQ3 : Hid (retP (TyD.mk 8 s [] []) r3 = Q) := hid ((thenP_good hq).symm.trans HQb.out)
            have HBX_3 := hid (block_turn HBX_2.out tn (by omega))
            have HRS_3 := hid (block_turn HRS_2.out tn (by omega))
            clear h3 tn kn hq
            obtain ⟨c0, c1, c2, c3, cz⟩ := cells4 HRS_3.out
            go_wp2_with fail
            refine bodyPost_ret (res_cell rfl rfl (put4_block HRS_3.out _ _ _ _) Tryz.underlying63 rfl (by kernel_rfl)) rfl ?_
            exact ReadsP.done HQ3.out.symm (new_turn4 HT3.out (by omega)) ⟨_, rfl, ty_plain _ _ 8 s⟩ (HK3.out.put4_ (by omega))
        · have hj := takeP_lt hq2.out
          simp only [List.length_cons, List.length_nil] at hj
          obtain rfl | rfl : j = 0 ∨ j = 1 := by omega
          · have HQb : Hid (thenP typ (fun t => thenP (wantP [41]) fun _ => retP t) r2 = Q) := hid ((thenP_good hq2.out).symm.trans HQa.out)
            have HN := hid (HTY w2 bp B r2 HK2.out)
            go_wp2_with fail
            refine (HN.out).mono ?_
            rintro e w4 h4
            rcases hq : typ r2 with g | ⟨t, r4⟩
            · obtain ⟨rfl, tn, bn⟩ := h4.bad_ hq
              have HB := hid (BadP.mk2 (turn_bp HT2.out tn) bn)
              have HQB := hid (HQb.out.symm.trans (thenP_bad hq))
              clear h4 tn bn hq
              go_wp2_with fail
              exact ⟨rfl, ReadsP.fail HQB.out HB.out⟩
            · obtain ⟨v4, rfl, tn, ⟨z, rfl, hz⟩, kn⟩ := h4.good_ hq
              obtain ⟨kz, sz, Az1, nz1, cz1, Az2, nz2, cz2, rfl⟩ := hz.shape'
              have hsz4 := tn.size
              have HZ := hid hz.iv
              clear hz
              have hs4 := tn.size
              have HT4 := hid (turn_bp HT2.out tn)
              have HK4 := hid kn
              have HQ4 : Hid (thenP (wantP [41]) (fun _ => retP t) r4 = Q) := hid ((thenP_good hq).symm.trans HQb.out)
              have HBX_4 := hid (block_turn HBX_2.out tn (by omega))
              have HRS_4 := hid (block_turn HRS_2.out tn (by omega))
              clear h4 tn kn hq
              have HN := hid (want_lit (w4.alloc (.cells #[.int .i64 kz, sv sz, .slice Az1 nz1 cz1, .slice Az2 nz2 cz2] 63)) bp B r4 d (HK4.out.below (new1 _ _)) [41] 9 (w4.heap.size + 1))
              have hbx4 := cells1 HBX_4.out
              have hbl4 := World.block_lt_of_cell? _ _ hbx4
              go_wp2_with fail
              refine (HN.out).mono ?_
              rintro e w5 h5
              rcases hq : wantP [41] r4 with g | ⟨u, r5⟩
              · obtain ⟨rfl, tn, bn⟩ := h5.bad_ hq
                have tn := (after1 tn).1
                have HB := hid (BadP.mk2 (turn_bp HT4.out tn) bn)
                have HQB := hid (HQ4.out.symm.trans (thenP_bad hq))
                clear h5 tn bn hq
                go_wp2_with fail
                exact ⟨rfl, ReadsP.fail HQB.out HB.out⟩
              · obtain ⟨v5, rfl, tn, -, kn⟩ := h5.good_ hq
                obtain ⟨tm, hsz5, hbt⟩ := after1 tn
                have HTB := hid (hbt (by omega))
                have HZ5 := hid (HZ.out.turn tm (fun g _ h e => by have := h.1; omega))
                clear hbt
                have hs5 := tm.size
                have HT5 := hid (turn_bp HT4.out tm)
                have HK5 := hid kn
                have HQ5 : Hid (retP t r5 = Q) := hid ((thenP_good hq).symm.trans HQ4.out)
                have HBX_5 := hid (block_turn HBX_4.out tm (by omega))
                have HRS_5 := hid (block_turn HRS_4.out tm (by omega))
                clear h5 tn kn hq
                obtain ⟨c0, c1, c2, c3, cz⟩ := cells4 HRS_5.out
                obtain ⟨e0, e1, e2, e3, ez⟩ := cells4 HTB.out
                go_wp2_with fail
                refine bodyPost_ret (res_cell rfl rfl (put4_block HRS_5.out _ _ _ _) Tryz.underlying63 rfl (by kernel_rfl)) rfl ?_
                exact ReadsP.done HQ5.out.symm (new_turn4 HT5.out (by omega)) ⟨_, rfl, (HZ5.out.turn (put4_turn _ _ _ _ _ _) (fun g _ h e => by have := h.1; omega)).mono (fun g _ h => by have := h.1; omega)⟩ (HK5.out.put4_ (by omega))
          · have HQb : Hid (thenP (hasP [125]) (fun e => if e then retP (TyD.mk 5 [] [] []) else thenP (sepP (fieldR typ)) fun l => thenP (wantP [125]) fun _ => retP (.mk 5 [] (l.map (·.1)) (l.map (·.2)))) r2 = Q) := hid ((thenP_good hq2.out).symm.trans HQa.out)
            have HN := hid (has_any (w2.alloc (.cells #[.int .i64 5, .string ⟨#[]⟩, .slice none 0 0, .slice none 0 0] 63)) bp B r2 d (HK2.out.below (new1 _ _)) [125])
            have hbl2 := World.block_lt_of_cell? _ _ hbx2
            go_wp2_with fail
            refine (HN.out).mono ?_
            rintro e w6 h6
            rcases hq : hasP [125] r2 with g | ⟨b, r6⟩
            · obtain ⟨rfl, tn, bn⟩ := h6.bad_ hq
              exact (hasP_bad hq).elim
            · obtain ⟨v6, rfl, tn, rfl, kn⟩ := h6.good_ hq
              obtain ⟨tm, hsz6, hbt⟩ := after1 tn
              have HTB := hid (hbt (by omega))
              have hq6 := hid hq
              clear hbt
              have hs6 := tm.size
              have HT6 := hid (turn_bp HT2.out tm)
              have HK6 := hid kn
              have HBX_6 := hid (block_turn HBX_2.out tm (by omega))
              have HRS_6 := hid (block_turn HRS_2.out tm (by omega))
              clear h6 tn kn hq
              cases b
              · have HQc : Hid (thenP (sepP (fieldR typ)) (fun l => thenP (wantP [125]) fun _ => retP (.mk 5 [] (l.map (·.1)) (l.map (·.2)))) r6 = Q) := hid ((thenP_good hq6.out).symm.trans HQb.out)
                have hmf : ∀ (fn : Fn) (first cap : Array Value) (w : World), (Instr.makeFunc fn first cap).run Tryz.prog w = .ok (.func fn first cap) w := fun _ _ _ _ => rfl
                have hpp : PrimP w.heap.size w2.heap.size (w2.heap.size + 1) bp w6 := ⟨by omega, by omega, by omega, by omega, by omega, by omega⟩
                have hpi : PrimI w.heap.size w2.heap.size (w2.heap.size + 1) bp w6 [] := ⟨_, _, HBX_6.out, HTB.out, OwnS.nil _ _ _, RowG.nil _ _ _ _ _ _, fun _ h => by cases h⟩
                have HSV := hid (several_any (fieldR typ) (sf_field hsf) 146 #[.pointer (some ⟨w2.heap.size, 0, none⟩), .pointer (some ⟨w.heap.size, 0, none⟩)] (PrimI w.heap.size w2.heap.size (w2.heap.size + 1) bp) (fun k => k = bp ∨ w2.heap.size ≤ k) d w6 bp B r6 (.inl rfl)
                  (fun a b l t h => by obtain ⟨x, y, h⟩ := h; have hs := t.size; exact ⟨x, y, h.turn0 t (by omega) (by omega) (by omega)⟩) (fun g h => .inr (by omega))
                  (fun w1 r l hl hw hi hk => prim1_any d typ HTY w1 bp B _ _ _ r l hl hk hi ⟨hpp.bp_pb, hpp.bp_tb, hpp.pb_b, hpp.tb_b, hpp.ne, by have := hpp.b_s; omega⟩) (fun _ => by kernel_rfl) HK6.out hpi)
                clear hpi
                have hbx := cells1 HBX_6.out
                go_wp2_with fail
                refine (HSV.out).mono ?_
                rintro e w7 h7
                rcases hq : sepP (fieldR typ) r6 with g | ⟨l, r7⟩
                · obtain ⟨rfl, tn, bn⟩ := h7.bad_ hq
                  have HB := hid (BadP.mk2 (HT6.out.trans tn (fun i hi e => by rcases e with e | e <;> omega)) bn)
                  have HQB := hid (HQc.out.symm.trans (thenP_bad hq))
                  clear h7 tn bn hq
                  go_wp2_with fail
                  exact ⟨rfl, ReadsP.fail HQB.out HB.out⟩
                · obtain ⟨rfl, tn, ⟨x1, x2, hI⟩, kn⟩ := h7.good_ hq
                  have hs7 := tn.size
                  have HT7 := hid (HT6.out.trans tn (fun i hi e => by rcases e with e | e <;> omega))
                  have HK7 := hid kn
                  have HQ7 : Hid (thenP (wantP [125]) (fun _ => retP (.mk 5 [] (l.map (·.1)) (l.map (·.2)))) r7 = Q) := hid ((thenP_good hq).symm.trans HQc.out)
                  have HI7 := hid hI
                  have HRS7 := hid (block_turn HRS_6.out tn (by omega))
                  have HN := hid (want_lit w7 bp B r7 d kn [125] 9 w7.heap.size)
                  have hbx7 := cells1 hI.box
                  clear h7 tn kn hq hI hbx
                  go_wp2_with fail
                  refine (HN.out).mono ?_
                  rintro e w8 h8
                  rcases hq : wantP [125] r7 with g | ⟨u, r8⟩
                  · obtain ⟨rfl, tn, bn⟩ := h8.bad_ hq
                    have HB := hid (BadP.mk2 (turn_bp HT7.out tn) bn)
                    have HQB := hid (HQ7.out.symm.trans (thenP_bad hq))
                    clear h8 tn bn hq
                    go_wp2_with fail
                    exact ⟨rfl, ReadsP.fail HQB.out HB.out⟩
                  · obtain ⟨v8, rfl, tn, -, kn⟩ := h8.good_ hq
                    have hI8 := HI7.out.turn0 tn (by omega) (by omega) (by omega)
                    have HI8 := hid hI8
                    have hs8 := tn.size
                    have HT8 := hid (turn_bp HT7.out tn)
                    have HK8 := hid kn
                    have HQ8 : Hid (retP (.mk 5 [] (l.map (·.1)) (l.map (·.2))) r8 = Q) := hid ((thenP_good hq).symm.trans HQ7.out)
                    have HRS_8 := hid (block_turn HRS7.out tn (by omega))
                    clear h8 tn kn hq
                    obtain ⟨A1, d1, hv1, hd1, _⟩ := own_sh HI8.out.nam.row
                    obtain ⟨A2, d2, hv2, hd2, _⟩ := HI8.out.kid.shape
                    rw [List.length_map] at hv1 hv2
                    subst hv1 hv2
                    obtain ⟨e0, e1, e2, e3, ez⟩ := cells4 HI8.out.blk
                    obtain ⟨c0, c1, c2, c3, cz⟩ := cells4 HRS_8.out
                    go_wp2_with fail
                    have tF := put4_turn w8 (w.heap.size + 1) (.int .i64 5) (sv []) (.slice A1 l.length d1) (.slice A2 l.length d2)
                    obtain ⟨xs, k1, k2⟩ := HI8.out.kid.sl foot_ty
                    have kN := SlG.own HI8.out.nam.row (F := fun j => w2.heap.size + 1 ≤ j) (fun g hg => (HI8.out.nam.lt g hg).1)
                    refine bodyPost_ret (res_cell rfl rfl (put4_block HRS_8.out _ _ _ _) Tryz.underlying63 rfl (by kernel_rfl)) rfl ?_
                    exact ReadsP.done HQ8.out.symm (new_turn4 HT8.out (by omega)) ⟨_, rfl, .mk ((kN.turn tF (fun g _ h e => by omega)).mono (fun g _ h => by omega)) ((k1.turn tF (fun g _ h e => by rcases h with h | h; omega; (have := h.1; omega))).mono (fun g _ h => by rcases h with h | h; omega; (have := h.1; omega))) (tys_row (row_mono foot_ty (fun g _ h => by rcases h with h | h; omega; (have := h.1; omega)) (row_turn foot_ty tF (fun g _ h e => by rcases h with h | h; omega; (have := h.1; omega)) k2)))⟩ (HK8.out.put4_ (by omega))
              · have HQc : Hid (Pr.good (TyD.mk 5 [] [] []) r6 = Q) := hid ((thenP_good hq6.out).symm.trans HQb.out)
                obtain ⟨c0, c1, c2, c3, cz⟩ := cells4 HRS_6.out
                obtain ⟨e0, e1, e2, e3, ez⟩ := cells4 HTB.out
                go_wp2_with fail
                refine bodyPost_ret (res_cell rfl rfl (put4_block HRS_6.out _ _ _ _) Tryz.underlying63 rfl (by kernel_rfl)) rfl ?_
                exact ReadsP.done HQc.out.symm (new_turn4 HT6.out (by omega)) ⟨_, rfl, ty_plain _ _ 5 []⟩ (HK6.out.put4_ (by omega))
    · have hi := takeP_lt hq1.out
      have HQ1 : Hid (Pr.good (TyD.mk i [] [] []) r1 = Q) := hid ((thenP_good hq1.out).symm.trans HQ.out)
      obtain ⟨c0, c1, c2, c3, cz⟩ := cells4 HRS.out
      go_wp2_with fail
      refine bodyPost_ret (res_cell rfl rfl (put4_block HRS.out _ _ _ _) Tryz.underlying63 rfl (by kernel_rfl)) rfl ?_
      exact ReadsP.done HQ1.out.symm (new_turn4 HT1.out (by omega)) ⟨_, rfl, ty_plain _ _ i []⟩ (HK1.out.put4_ (by omega))
end Go.Proofs.YtmbppnbekkbibaaGreatDoor
end
section
/- The contract of typ. -/
set_option linter.unusedVariables false
namespace Go.Proofs.YtmbppnbekkbibaaGreatDoor
open Go.RowKit

/-- What follows on a reading. -/
def onP {α β : Type} (q : Pr α) (f : α → Ps β) : Pr β := match q with
  | .good a r => f a r
  | .bad g => .bad g
theorem thenP_on {α β : Type} (p : Ps α) (f : α → Ps β) (ts : List TokD) : thenP p f ts = onP (p ts) f := by
  unfold thenP onP
  cases p ts <;> rfl
section
variable {α : Type} {fn : Func} {tmps : Array Value} {P : World → Value → α → Prop} {bp B x : Nat} {d : Int} {w w2 : World} {Q : Pr α}
/-- Out of a function that had gone one deeper: the parser gives up. -/
theorem out_bad {g : DgD} (hb : BpAt w2 bp) (hx : w2.cell? ⟨x, 0, none⟩ = some (.pointer (some ⟨bp, 0, none⟩))) (t : Turn (fun k => k = bp) w w2) (hq : Q = .bad g) :
    Leaves Tryz.prog fn tmps (ReadsP P bp B d w Q) [{ target := .fn (.func 137) #[.pointer (some ⟨x, 0, none⟩)], args := #[] }] (.panicking [{ v := .iface 135 (.agg #[.int .i64 0, .int .i64 (g.1 : Nat), .int .i64 (g.2.1 : Nat), .int .i64 g.2.2]), recovered := false }]) w2 := by
  obtain ⟨v0, d0, hb⟩ := hb
  refine leaves_cons (f := 137) (args := #[.pointer (some ⟨x, 0, none⟩)]) (by simp) (by simp [go_sem]) ?_
  refine (leave_any w2 bp x v0 d0 _ hb hx).mono ?_
  rintro e u3 w3 ⟨rfl, rfl, rfl⟩
  exact ReadsP.fail hq ⟨turn_bp t (turn_set w2 bp 1 _), _, _, heap_setCell_same _ bp 1 _ _ _ hb⟩
/-- The same: what was read lies in a block. -/
theorem out_good {v : Value} {y : α} {r : List TokD} (hres : ∀ w3, Turn (fun k => k = bp) w2 w3 → (results fn tmps).run Tryz.prog w3 = .ok v w3)
    (hk : TkAt w2 bp B r (d + 1)) (h0 : 0 ≤ d) (h1 : d < 100) (hx : w2.cell? ⟨x, 0, none⟩ = some (.pointer (some ⟨bp, 0, none⟩))) (t : Turn (fun k => k = bp) w w2) (hq : Q = .good y r) (hP : ∀ w3, Turn (fun k => k = bp) w2 w3 → P w3 v y) :
    Leaves Tryz.prog fn tmps (ReadsP P bp B d w Q) [{ target := .fn (.func 137) #[.pointer (some ⟨x, 0, none⟩)], args := #[] }] .returning w2 := by
  have hk0 := hk
  obtain ⟨_, _, _, v0, hb, _⟩ := hk
  refine leaves_cons (f := 137) (args := #[.pointer (some ⟨x, 0, none⟩)]) (by simp) (by simp [go_sem]) ?_
  refine (leave_any w2 bp x v0 (d + 1) _ hb hx).mono ?_
  rintro e u3 w3 ⟨rfl, rfl, rfl⟩
  have e1 : wrap64 (d + 1 - 1) = d := by unfold wrap64; omega
  rw [e1]
  have t3 := turn_set w2 bp 1 (.int .i64 d)
  exact ⟨_, hres _ t3, ReadsP.done hq (turn_bp t t3) (hP _ t3) (hk0.deep rfl)⟩
end
theorem own_new {w : World} {base k : Nat} {e : TypeId} {z : List Value} (hz : z.length = k) (hb : base ≤ w.heap.size) : (w.alloc (.cells z.toArray e)).ownsRow base e k (.slice (some ⟨w.heap.size, 0, none⟩) 1 1) 1 z :=
  ⟨by omega, .inr ⟨w.heap.size, 1, z.toArray, rfl, hb, heap_alloc_new w _, Nat.le_refl _, by decide, by simp; omega, by simp [← hz]⟩⟩
/-- A row of one thing. -/
theorem row_one {α : Type} {R : World → (Nat → Prop) → List Value → α → Prop} {k : Nat} (hR : FootR R k) {w : World} {base : Nat} {F G : Nat → Prop} {e : TypeId} {z : List Value} {x : α} (hx : R w F z x) (hb : base ≤ w.heap.size) (hF : ∀ g, g < w.heap.size → F g → G g) :
    RowG R k e (w.alloc (.cells z.toArray e)) base G (.slice (some ⟨w.heap.size, 0, none⟩) 1 1) [x] := by
  refine ⟨z, own_new (hR.len hx) hb, trow1 (hR.len hx) ?_⟩
  have h1 : R w (fun j => j < w.heap.size ∧ G j) z x := hR.mono hx fun g hg h => ⟨hg, hF g hg h⟩
  exact hR.mono (hR.turn h1 (Turn.alloc (fun _ => False) _ _) (fun _ _ _ => id)) fun g _ h => ⟨fun e => by injection e with e; simp at e; omega, h.2⟩
set_option maxRecDepth 100000 in
set_option maxHeartbeats 8000000 in
theorem typ_step (d : Int) (h0 : 0 ≤ d) (h1 : d < 100) (typ : Ps TyD) (HTY : TypC (d + 1) typ) (hsf : Sf typ) : TypC d (typP typ) := by
  intro w bp B ts h
  have hlt := h.lt
  have hB := h.1
  obtain ⟨Q, hQ⟩ : ∃ Q, typP typ ts = Q := ⟨_, rfl⟩
  rw [hQ]
  have HQ : Hid (thenP (primP typ) (fun a => thenP (fun ts => altF typ ts.length [a] ts) fun l => thenP (hasP [45, 62]) fun b =>
    if b then thenP typ fun r => retP (.mk 6 [] [] [unionT l, r]) else retP (unionT l)) ts = Q) := hid hQ
  have HE := hid (enter_any (w.alloc (.cells #[.int .i64 0, .string ⟨#[]⟩, .slice none 0 0, .slice none 0 0] 63)) bp B ts d (h.below (new1 _ _)) h0 h1)
  clear h hQ
  go_enter_defers Tryz.func53, Tryz.ntmps53
  go_wp2_with fail
  refine (HE.out).mono ?_
  rintro e w1 ⟨rfl, tn, hbx, hk⟩
  obtain ⟨tm, hsz, hrs⟩ := after1 tn
  simp at hbx
  have hxb := World.block_lt_of_cell? _ _ hbx
  simp at hxb
  have HRS1 := hid (hrs (by omega))
  have HT1 := hid tm
  have HK1 := hid hk
  have HBX1 := hid hbx
  have hs1 := tm.size
  have HP := hid (prim_any (d + 1) typ HTY hsf w1 bp B ts hk)
  clear tn tm hrs hk hbx
  go_wp2_with fail
  refine (HP.out).mono ?_
  rintro e w2 h2
  rcases hq : primP typ ts with g | ⟨t, r2⟩
  · obtain ⟨rfl, tn, bn⟩ := h2.bad_ hq
    clear h2
    have HQB := hid (HQ.out.symm.trans (thenP_bad hq))
    have HOB := hid ((turn_bp HT1.out tn))
    have hxo := (tcell HBX1.out tn (by omega))
    have HBN := hid bn
    clear tn bn hq
    go_wp2_with fail
    exact out_bad HBN.out hxo HOB.out HQB.out
  · obtain ⟨v2, rfl, tn, ⟨z, rfl, hz⟩, kn⟩ := h2.good_ hq
    obtain ⟨kz, sz, Az1, nz1, cz1, Az2, nz2, cz2, rfl⟩ := hz.shape'
    have HBX2 := hid (tcell HBX1.out tn (by omega))
    have hrow := row_one foot_ty (base := w1.heap.size) (G := fun j => w1.heap.size ≤ j) (e := 63) hz tn.size (fun _ _ h => h)
    have HROW := hid hrow
    have HSF := hid ((Sf.prim hsf).good HK1.out.wf hq).2.length_le
    have HLEN := hid HK1.out.2.1.1
    clear hz hrow
    have hs2 := tn.size
    have HT2 := hid (turn_bp HT1.out tn)
    have HK2 := hid kn
    have HQ2 : Hid (thenP (fun ts => altF typ ts.length [t] ts) (fun l => thenP (hasP [45, 62]) fun b => if b then thenP typ fun r => retP (.mk 6 [] [] [unionT l, r]) else retP (unionT l)) r2 = Q) := hid ((thenP_good hq).symm.trans HQ.out)
    have HRS_2 := hid (block_turn HRS1.out tn (by omega))
    clear h2 tn kn hq
    obtain ⟨A, hA⟩ : ∃ A, altF typ r2.length [t] r2 = A := ⟨_, rfl⟩
    have HA := hid hA
    have HQA : Hid (onP A (fun l => thenP (hasP [45, 62]) (fun b => if b then thenP typ fun r => retP (.mk 6 [] [] [unionT l, r]) else retP (unionT l))) = Q) := hid (by
      have := HQ2.out
      rw [thenP_on] at this
      rw [← HA.out]
      exact this)
    have HK3 := hid (HK2.out.below (new1 w2 (.cells #[.int .i64 kz, sv sz, .slice Az1 nz1 cz1, .slice Az2 nz2 cz2] 63)))
    have HT3 := hid (turn_bp HT2.out (Turn.alloc (fun k => k = bp) w2 (.cells #[.int .i64 kz, sv sz, .slice Az1 nz1 cz1, .slice Az2 nz2 cz2] 63)))
    have HRW := hid (block_turn HRS_2.out (Turn.alloc (fun _ => False) w2 (.cells #[.int .i64 kz, sv sz, .slice Az1 nz1 cz1, .slice Az2 nz2 cz2] 63)) id)
    have HXW := hid (tcell HBX2.out (Turn.alloc (fun _ => False) w2 (.cells #[.int .i64 kz, sv sz, .slice Az1 nz1 cz1, .slice Az2 nz2 cz2] 63)) id)
    clear hA
    go_wp2_with fail
    go_loopw [3] (fun v3 wr => ∃ (f : Nat) (l : List TyD) (r : List TokD), RowG TyG 4 63 wr w1.heap.size (fun j => w1.heap.size ≤ j) v3 l ∧ l ≠ [] ∧ altF typ f l r = A ∧ r.length ≤ f ∧ l.length + r.length ≤ 8194 ∧ Turn (fun k => k = bp) w wr ∧ w1.heap.size ≤ wr.heap.size ∧ TkAt wr bp B r (d + 1) ∧ wr.cell? ⟨w.heap.size + 1, 0, none⟩ = some (.pointer (some ⟨bp, 0, none⟩)) ∧ wr.heap[w.heap.size]? = some (.cells #[.int .i64 0, .string ⟨#[]⟩, .slice none 0 0, .slice none 0 0] 63 (0, 0))) (fun _ wr => leftOf wr bp)
    case atStart => exact ⟨_, [t], r2, HROW.out, by simp, HA.out, Nat.le_refl _, by have := HSF.out; have := HLEN.out; simp; omega, HT3.out, by simp; omega, HK3.out, HXW.out, HRW.out⟩
    case round =>
      obtain ⟨f, l, r, hrow, hne, ha, hf, hlr, ht, hsw, hk, hx, hr⟩ := hrel
      have hwf := hk.wf
      have hpos := hwf.pos
      obtain ⟨f, rfl⟩ : ∃ f', f = f' + 1 := ⟨f - 1, by omega⟩
      have HALT : Hid (thenP (hasP [124]) (fun b => if b then thenP (primP typ) fun a => altF typ f (l ++ [a]) else retP l) r = A) := hid ha
      have HLE := hid hk.left
      have HF := hid hf
      have HLR := hid hlr
      have HTR := hid ht
      have HKR := hid hk
      have HXR := hid hx
      have HRR := hid hr
      have HWF := hid hwf
      have HH := hid (has_any wr bp B r (d + 1) hk [124])
      have HPO := hid hpos
      have HROWR := hid hrow
      obtain ⟨Al, cl, hvl, hcl, hml⟩ := hrow.shape
      subst hvl
      clear hrow ha hf hlr ht hk hx hr hwf hpos
      go_wp2_with fail
      refine (HH.out).mono ?_
      rintro e w3 h3
      rcases hq : hasP [124] r with g | ⟨b, r3⟩
      · obtain ⟨rfl, tn, bn⟩ := h3.bad_ hq
        exact (hasP_bad hq).elim
      · obtain ⟨v3, rfl, tn, rfl, kn⟩ := h3.good_ hq
        have hq3 := hid hq
        have HX3 := hid (tcell HXR.out tn (by omega))
        have HROW3 := hid (HROWR.out.turn foot_ty tn (fun g hg e => by have := (HROWR.out.lt g hg).1; omega) (fun g _ hg e => by omega))
        have hs3 := tn.size
        have HT3 := hid (turn_bp HTR.out tn)
        have HK3 := hid kn
        have HRS_3 := hid (block_turn HRR.out tn (by omega))
        clear h3 tn kn hq
        cases b
        · have HA3 : Hid (Pr.good l r3 = A) := hid ((thenP_good hq3.out).symm.trans HALT.out)
          have HQ3 : Hid (thenP (hasP [45, 62]) (fun b => if b then thenP typ fun r => retP (.mk 6 [] [] [unionT l, r]) else retP (unionT l)) r3 = Q) := hid (by have := HQA.out; rw [← HA3.out] at this; exact this)
          have HNE := hid hne
          obtain ⟨ys, hy, hrr⟩ := HROW3.out
          obtain ⟨ta, l', rfl⟩ : ∃ a l', l = a :: l' := by cases l with | nil => exact absurd rfl hne | cons a l' => exact ⟨a, l', rfl⟩
          obtain ⟨g0, c9, hg0, hgb, hgs, hc9, hm9⟩ := own_form hy (by simp)
          injection hg0 with hg0 hg1 hg2
          subst hg0 hg2
          cases hrr with
          | @cons z0 y0 _ _ hz0 hx0 hrt =>
            obtain ⟨k0, s0, A10, n10, c10, A20, n20, c20, rfl⟩ := hx0.shape'
            have o0 := (own_cell hy rfl (i := 0) (u := .int .i64 k0) rfl).1
            have o1 := (own_cell hy rfl (i := 1) (u := sv s0) rfl).1
            have o2 := (own_cell hy rfl (i := 2) (u := .slice A10 n10 c10) rfl).1
            have o3 := (own_cell hy rfl (i := 3) (u := .slice A20 n20 c20) rfl).1
            have HZ0 := hid (hx0.mono (G := fun j => w1.heap.size ≤ j) (fun _ _ h => h.2))
            have hll : ((ta :: l').length : Int) = (l'.length : Int) + 1 := by simp
            clear hy hx0 hrt hz0 hne
            cases l' with
            | nil =>
              simp only [List.length_nil] at *
              have HN := hid (has_any (w3.alloc (.cells #[.int .i64 k0, sv s0, .slice A10 n10 c10, .slice A20 n20 c20] 63)) bp B r3 (d + 1) (HK3.out.below (new1 _ _)) [45, 62])
              go_wp2_with fail
              refine (HN.out).mono ?_
              rintro e w4 h4
              rcases hq : hasP [45, 62] r3 with g | ⟨b, r4⟩
              · obtain ⟨rfl, tn, bn⟩ := h4.bad_ hq
                exact (hasP_bad hq).elim
              · obtain ⟨v4, rfl, tn, rfl, kn⟩ := h4.good_ hq
                obtain ⟨tm, hsz4, hbt⟩ := after1 tn
                have HTB := hid (hbt (by omega))
                have hq4 := hid hq
                have HX4 := hid (tcell HX3.out tm (by omega))
                have HTU : Hid (TyG w4 (fun j => w1.heap.size ≤ j) [.int .i64 k0, sv s0, .slice A10 n10 c10, .slice A20 n20 c20] (unionT [ta])) := hid (HZ0.out.turn tm (fun g _ h e => by omega))
                clear hbt
                have hs4 := tm.size
                have HT4 := hid (turn_bp HT3.out tm)
                have HK4 := hid kn
                have HRS_4 := hid (block_turn HRS_3.out tm (by omega))
                clear h4 tn kn hq
                cases b
                · have HQ4 : Hid (Pr.good (unionT ([ta])) r4 = Q) := hid ((thenP_good hq4.out).symm.trans HQ3.out)
                  obtain ⟨e0, e1, e2, e3, ez⟩ := cells4 HTB.out
                  obtain ⟨c0, c1, c2, c3, cz⟩ := cells4 HRS_4.out
                  go_wp2_with fail
                  have tF := put4_turn w4 w.heap.size (.int .i64 k0) (sv s0) (.slice A10 n10 c10) (.slice A20 n20 c20)
                  exact out_good (fun w9 t9 => res_cell rfl rfl (block_turn (put4_block HRS_4.out _ _ _ _) t9 (by omega)) Tryz.underlying63 rfl (by kernel_rfl)) (HK4.out.put4_ (by omega)) h0 h1 (tcell HX4.out tF (by omega)) (new_turn4 HT4.out (by omega)) HQ4.out.symm
                    (fun w9 t9 => ⟨[.int .i64 k0, sv s0, .slice A10 n10 c10, .slice A20 n20 c20], rfl, ((HTU.out.turn tF (fun g _ h e => by omega)).turn t9 (fun g _ h e => by omega)).mono (fun g _ h => by omega)⟩)
                · have HQ4 : Hid (thenP typ (fun r => retP (TyD.mk 6 [] [] [unionT ([ta]), r])) r4 = Q) := hid ((thenP_good hq4.out).symm.trans HQ3.out)
                  obtain ⟨e0, e1, e2, e3, ez⟩ := cells4 HTB.out
                  have PT := hid (fun (w' : World) (h : Turn (fun j => j = bp) w4 w') => (⟨tcell e0 h (by omega), tcell e1 h (by omega), tcell e2 h (by omega), tcell e3 h (by omega)⟩ : w'.cell? ⟨w3.heap.size, 0, none⟩ = some (.int .i64 k0) ∧ w'.cell? ⟨w3.heap.size, 1, none⟩ = some (sv s0) ∧ w'.cell? ⟨w3.heap.size, 2, none⟩ = some (.slice A10 n10 c10) ∧ w'.cell? ⟨w3.heap.size, 3, none⟩ = some (.slice A20 n20 c20)))
                  have HD0 : Hid (Turn (fun j => j = bp) w4 w4.drew) := hid ⟨rfl, rfl, rfl, Nat.le_refl _, fun _ _ _ => rfl⟩
                  have HTC := hid (HTY w4.drew bp B r4 HK4.out)
                  clear e0 e1 e2 e3 ez
                  go_wp2_with fail
                  refine region_x (S := fun w' => Turn (fun j => j = bp) w4 w') (x := 5) (by kernel_rfl) ?_
                  try simp only [Act.put, List.getElem_toArray, List.getElem_cons_zero, List.getElem_cons_succ, List.setIfInBounds_toArray, List.set_cons_zero, List.set_cons_succ]
                  refine txf 0 (.agg #[.int .i64 k0, sv s0, .slice A10 n10 c10, .slice A20 n20 c20]) PT.out HD0.out (hQ := hq_cell rfl (by decide)) ?_
                  refine tx 1 (.pointer (some ⟨bp, 0, none⟩)) HD0.out (hQ := hq_cell rfl (by decide)) ?_
                  refine anyX_ready (rs := [2]) (by kernel_rfl) (by simp) ?_
                  refine ReadyX.cons rfl (fun K hK => ?_) (ReadyX.nil)
                  go_simp
                  refine (HTC.out).mono ?_
                  rintro e w5 h5
                  rcases hq : typ r4 with g | ⟨x5, r5⟩
                  · obtain ⟨rfl, tn, bn⟩ := h5.bad_ hq
                    have t5 := turn_bp HD0.out tn
                    exact out_bad bn (tcell HX4.out t5 (by omega)) (turn_bp HT4.out t5) (HQ4.out.symm.trans (thenP_bad hq))
                  · obtain ⟨v5, rfl, tn, ⟨z5, rfl, hz5⟩, kn⟩ := h5.good_ hq
                    obtain ⟨k5, s5, A15, n15, c15, A25, n25, c25, rfl⟩ := hz5.shape'
                    have HT5 := hid (turn_bp HD0.out tn)
                    have hs5 := HT5.out.size
                    have HK5 := hid kn
                    have HZ5 := hid (hz5.mono (G := fun j => w1.heap.size ≤ j) (fun g _ h => by have h : w4.heap.size ≤ g := h; omega))
                    have HQ5 : Hid (Pr.good (TyD.mk 6 [] [] [unionT ([ta]), x5]) r5 = Q) := hid ((thenP_good hq).symm.trans HQ4.out)
                    clear h5 tn hz5 kn hq
                    refine hK.out _ _ HT5.out ?_
                    clear hK K
                    try simp only [Act.put, List.getElem_toArray, List.getElem_cons_zero, List.getElem_cons_succ, List.setIfInBounds_toArray, List.set_cons_zero, List.set_cons_succ]
                    refine anyX_ready (rs := [3]) (by kernel_rfl) (by simp) ?_
                    refine ReadyX.cons rfl (fun K hK => ?_) (ReadyX.nil)
                    go_simp
                    have HT6 := hid (turn_bp HT5.out (Turn.alloc (fun k => k = bp) w5 (.cells #[.int .i64 k0, sv s0, .slice A10 n10 c10, .slice A20 n20 c20, .int .i64 k5, sv s5, .slice A15 n15 c15, .slice A25 n25 c25] 63)))
                    refine hK.out _ _ HT6.out ?_
                    clear hK K
                    try simp only [Act.put, List.getElem_toArray, List.getElem_cons_zero, List.getElem_cons_succ, List.setIfInBounds_toArray, List.set_cons_zero, List.set_cons_succ]
                    refine tx 4 (.agg #[.int .i64 6, .string ⟨#[]⟩, .slice none 0 0, .slice (some ⟨w5.heap.size, 0, none⟩) 2 2]) HT6.out (hQ := hq_cell rfl (by decide)) ?_
                    have HR6 := hid (block_turn HRS_4.out HT6.out (by omega))
                    obtain ⟨c0, c1, c2, c3, cz⟩ := cells4 HR6.out
                    refine anyX_ready (rs := [5]) (by kernel_rfl) (by simp) ?_
                    refine ReadyX.past rfl (by kernel_rfl) (fun K hK => ?_) (ReadyX.nil)
                    go_simp
                    refine hK.out _ _ ?_
                    clear hK K
                    try simp only [Act.put, List.getElem_toArray, List.getElem_cons_zero, List.getElem_cons_succ, List.setIfInBounds_toArray, List.set_cons_zero, List.set_cons_succ]
                    refine anyX_done (by kernel_rfl) ?_ _
                    have tA := Turn.alloc (fun _ => False) w5 (.cells #[.int .i64 k0, sv s0, .slice A10 n10 c10, .slice A20 n20 c20, .int .i64 k5, sv s5, .slice A15 n15 c15, .slice A25 n25 c25] 63)
                    have tF := put4_turn (w5.alloc (.cells #[.int .i64 k0, sv s0, .slice A10 n10 c10, .slice A20 n20 c20, .int .i64 k5, sv s5, .slice A15 n15 c15, .slice A25 n25 c25] 63)) w.heap.size (.int .i64 6) (sv []) (.slice none 0 0) (.slice (some ⟨w5.heap.size, 0, none⟩) 2 2)
                    have y1 := ((HTU.out.turn HT5.out (fun g _ h e => by omega)).turn tA (fun _ _ _ => id)).turn tF (fun g _ h e => by omega)
                    have y2 := (HZ5.out.turn tA (fun _ _ _ => id)).turn tF (fun g _ h e => by omega)
                    have y3 := (slG_new w5 #[.int .i64 k0, sv s0, .slice A10 n10 c10, .slice A20 n20 c20, .int .i64 k5, sv s5, .slice A15 n15 c15, .slice A25 n25 c25] 63 4 2 rfl (by decide)).turn tF (fun g _ h e => by omega)
                    go_wp2_with fail
                    exact out_good (fun w9 t9 => res_cell rfl rfl (block_turn (put4_block HR6.out _ _ _ _) t9 (by omega)) Tryz.underlying63 rfl (by kernel_rfl)) ((HK5.out.below (new1 _ _)).put4_ (by omega)) h0 h1 (tcell (tcell HX4.out HT6.out (by omega)) tF (by omega)) (new_turn4 (turn_bp HT4.out HT6.out) (by omega)) HQ5.out.symm
                      (fun w9 t9 => ⟨_, rfl, .mk (SlG.nil _ _ _) ((y3.turn t9 (fun g _ h e => by omega)).mono (fun g _ h => by omega)) (.cons ((y1.turn t9 (fun g _ h e => by omega)).mono (fun g _ h => by omega)) (.cons ((y2.turn t9 (fun g _ h e => by omega)).mono (fun g _ h => by omega)) .nil))⟩)
            | cons tb2 l2 =>
              have hgt : decide ((1 : Int) < (l2.length : Int) + 1 + 1) = true := by simp; omega
              obtain ⟨xsu, ku1, ku2⟩ := HROW3.out.sl foot_ty
              have KU1 := hid ku1
              have KU2 := hid ku2
              clear ku1 ku2
              have HN := hid (has_any (w3.alloc (.cells #[.int .i64 7, .string ⟨#[]⟩, .slice none 0 0, .slice (some ⟨g0, 0, none⟩) (l2.length + 1 + 1) cl] 63)) bp B r3 (d + 1) (HK3.out.below (new1 _ _)) [45, 62])
              go_wp2_with fail
              refine (HN.out).mono ?_
              rintro e w4 h4
              rcases hq : hasP [45, 62] r3 with g | ⟨b, r4⟩
              · obtain ⟨rfl, tn, bn⟩ := h4.bad_ hq
                exact (hasP_bad hq).elim
              · obtain ⟨v4, rfl, tn, rfl, kn⟩ := h4.good_ hq
                obtain ⟨tm, hsz4, hbt⟩ := after1 tn
                have HTB := hid (hbt (by omega))
                have hq4 := hid hq
                have HX4 := hid (tcell HX3.out tm (by omega))
                have HTU : Hid (TyG w4 (fun j => w1.heap.size ≤ j) [.int .i64 7, .string ⟨#[]⟩, .slice none 0 0, .slice (some ⟨g0, 0, none⟩) (l2.length + 1 + 1) cl] (unionT (ta :: tb2 :: l2))) := hid (.mk (SlG.nil _ _ _) ((KU1.out.turn tm (fun g _ h e => by rcases h with h | h <;> omega)).mono (fun g _ h => by rcases h with h | h <;> omega)) (tys_row (row_mono foot_ty (fun g _ h => by rcases h with h | h <;> omega) (row_turn foot_ty tm (fun g _ h e => by rcases h with h | h <;> omega) KU2.out))))
                clear hbt
                have hs4 := tm.size
                have HT4 := hid (turn_bp HT3.out tm)
                have HK4 := hid kn
                have HRS_4 := hid (block_turn HRS_3.out tm (by omega))
                clear h4 tn kn hq
                cases b
                · have HQ4 : Hid (Pr.good (unionT (ta :: tb2 :: l2)) r4 = Q) := hid ((thenP_good hq4.out).symm.trans HQ3.out)
                  obtain ⟨e0, e1, e2, e3, ez⟩ := cells4 HTB.out
                  obtain ⟨c0, c1, c2, c3, cz⟩ := cells4 HRS_4.out
                  go_wp2_with fail
                  have tF := put4_turn w4 w.heap.size (.int .i64 7) (.string ⟨#[]⟩) (.slice none 0 0) (.slice (some ⟨g0, 0, none⟩) (l2.length + 1 + 1) cl)
                  exact out_good (fun w9 t9 => res_cell rfl rfl (block_turn (put4_block HRS_4.out _ _ _ _) t9 (by omega)) Tryz.underlying63 rfl (by kernel_rfl)) (HK4.out.put4_ (by omega)) h0 h1 (tcell HX4.out tF (by omega)) (new_turn4 HT4.out (by omega)) HQ4.out.symm
                    (fun w9 t9 => ⟨[.int .i64 7, .string ⟨#[]⟩, .slice none 0 0, .slice (some ⟨g0, 0, none⟩) (l2.length + 1 + 1) cl], rfl, ((HTU.out.turn tF (fun g _ h e => by omega)).turn t9 (fun g _ h e => by omega)).mono (fun g _ h => by omega)⟩)
                · have HQ4 : Hid (thenP typ (fun r => retP (TyD.mk 6 [] [] [unionT (ta :: tb2 :: l2), r])) r4 = Q) := hid ((thenP_good hq4.out).symm.trans HQ3.out)
                  obtain ⟨e0, e1, e2, e3, ez⟩ := cells4 HTB.out
                  have PT := hid (fun (w' : World) (h : Turn (fun j => j = bp) w4 w') => (⟨tcell e0 h (by omega), tcell e1 h (by omega), tcell e2 h (by omega), tcell e3 h (by omega)⟩ : w'.cell? ⟨w3.heap.size, 0, none⟩ = some (.int .i64 7) ∧ w'.cell? ⟨w3.heap.size, 1, none⟩ = some (.string ⟨#[]⟩) ∧ w'.cell? ⟨w3.heap.size, 2, none⟩ = some (.slice none 0 0) ∧ w'.cell? ⟨w3.heap.size, 3, none⟩ = some (.slice (some ⟨g0, 0, none⟩) (l2.length + 1 + 1) cl)))
                  have HD0 : Hid (Turn (fun j => j = bp) w4 w4.drew) := hid ⟨rfl, rfl, rfl, Nat.le_refl _, fun _ _ _ => rfl⟩
                  have HTC := hid (HTY w4.drew bp B r4 HK4.out)
                  clear e0 e1 e2 e3 ez
                  go_wp2_with fail
                  refine region_x (S := fun w' => Turn (fun j => j = bp) w4 w') (x := 5) (by kernel_rfl) ?_
                  try simp only [Act.put, List.getElem_toArray, List.getElem_cons_zero, List.getElem_cons_succ, List.setIfInBounds_toArray, List.set_cons_zero, List.set_cons_succ]
                  refine txf 0 (.agg #[.int .i64 7, .string ⟨#[]⟩, .slice none 0 0, .slice (some ⟨g0, 0, none⟩) (l2.length + 1 + 1) cl]) PT.out HD0.out (hQ := hq_cell rfl (by decide)) ?_
                  refine tx 1 (.pointer (some ⟨bp, 0, none⟩)) HD0.out (hQ := hq_cell rfl (by decide)) ?_
                  refine anyX_ready (rs := [2]) (by kernel_rfl) (by simp) ?_
                  refine ReadyX.cons rfl (fun K hK => ?_) (ReadyX.nil)
                  go_simp
                  refine (HTC.out).mono ?_
                  rintro e w5 h5
                  rcases hq : typ r4 with g | ⟨x5, r5⟩
                  · obtain ⟨rfl, tn, bn⟩ := h5.bad_ hq
                    have t5 := turn_bp HD0.out tn
                    exact out_bad bn (tcell HX4.out t5 (by omega)) (turn_bp HT4.out t5) (HQ4.out.symm.trans (thenP_bad hq))
                  · obtain ⟨v5, rfl, tn, ⟨z5, rfl, hz5⟩, kn⟩ := h5.good_ hq
                    obtain ⟨k5, s5, A15, n15, c15, A25, n25, c25, rfl⟩ := hz5.shape'
                    have HT5 := hid (turn_bp HD0.out tn)
                    have hs5 := HT5.out.size
                    have HK5 := hid kn
                    have HZ5 := hid (hz5.mono (G := fun j => w1.heap.size ≤ j) (fun g _ h => by have h : w4.heap.size ≤ g := h; omega))
                    have HQ5 : Hid (Pr.good (TyD.mk 6 [] [] [unionT (ta :: tb2 :: l2), x5]) r5 = Q) := hid ((thenP_good hq).symm.trans HQ4.out)
                    clear h5 tn hz5 kn hq
                    refine hK.out _ _ HT5.out ?_
                    clear hK K
                    try simp only [Act.put, List.getElem_toArray, List.getElem_cons_zero, List.getElem_cons_succ, List.setIfInBounds_toArray, List.set_cons_zero, List.set_cons_succ]
                    refine anyX_ready (rs := [3]) (by kernel_rfl) (by simp) ?_
                    refine ReadyX.cons rfl (fun K hK => ?_) (ReadyX.nil)
                    go_simp
                    have HT6 := hid (turn_bp HT5.out (Turn.alloc (fun k => k = bp) w5 (.cells #[.int .i64 7, .string ⟨#[]⟩, .slice none 0 0, .slice (some ⟨g0, 0, none⟩) (l2.length + 1 + 1) cl, .int .i64 k5, sv s5, .slice A15 n15 c15, .slice A25 n25 c25] 63)))
                    refine hK.out _ _ HT6.out ?_
                    clear hK K
                    try simp only [Act.put, List.getElem_toArray, List.getElem_cons_zero, List.getElem_cons_succ, List.setIfInBounds_toArray, List.set_cons_zero, List.set_cons_succ]
                    refine tx 4 (.agg #[.int .i64 6, .string ⟨#[]⟩, .slice none 0 0, .slice (some ⟨w5.heap.size, 0, none⟩) 2 2]) HT6.out (hQ := hq_cell rfl (by decide)) ?_
                    have HR6 := hid (block_turn HRS_4.out HT6.out (by omega))
                    obtain ⟨c0, c1, c2, c3, cz⟩ := cells4 HR6.out
                    refine anyX_ready (rs := [5]) (by kernel_rfl) (by simp) ?_
                    refine ReadyX.past rfl (by kernel_rfl) (fun K hK => ?_) (ReadyX.nil)
                    go_simp
                    refine hK.out _ _ ?_
                    clear hK K
                    try simp only [Act.put, List.getElem_toArray, List.getElem_cons_zero, List.getElem_cons_succ, List.setIfInBounds_toArray, List.set_cons_zero, List.set_cons_succ]
                    refine anyX_done (by kernel_rfl) ?_ _
                    have tA := Turn.alloc (fun _ => False) w5 (.cells #[.int .i64 7, .string ⟨#[]⟩, .slice none 0 0, .slice (some ⟨g0, 0, none⟩) (l2.length + 1 + 1) cl, .int .i64 k5, sv s5, .slice A15 n15 c15, .slice A25 n25 c25] 63)
                    have tF := put4_turn (w5.alloc (.cells #[.int .i64 7, .string ⟨#[]⟩, .slice none 0 0, .slice (some ⟨g0, 0, none⟩) (l2.length + 1 + 1) cl, .int .i64 k5, sv s5, .slice A15 n15 c15, .slice A25 n25 c25] 63)) w.heap.size (.int .i64 6) (sv []) (.slice none 0 0) (.slice (some ⟨w5.heap.size, 0, none⟩) 2 2)
                    have y1 := ((HTU.out.turn HT5.out (fun g _ h e => by omega)).turn tA (fun _ _ _ => id)).turn tF (fun g _ h e => by omega)
                    have y2 := (HZ5.out.turn tA (fun _ _ _ => id)).turn tF (fun g _ h e => by omega)
                    have y3 := (slG_new w5 #[.int .i64 7, .string ⟨#[]⟩, .slice none 0 0, .slice (some ⟨g0, 0, none⟩) (l2.length + 1 + 1) cl, .int .i64 k5, sv s5, .slice A15 n15 c15, .slice A25 n25 c25] 63 4 2 rfl (by decide)).turn tF (fun g _ h e => by omega)
                    go_wp2_with fail
                    exact out_good (fun w9 t9 => res_cell rfl rfl (block_turn (put4_block HR6.out _ _ _ _) t9 (by omega)) Tryz.underlying63 rfl (by kernel_rfl)) ((HK5.out.below (new1 _ _)).put4_ (by omega)) h0 h1 (tcell (tcell HX4.out HT6.out (by omega)) tF (by omega)) (new_turn4 (turn_bp HT4.out HT6.out) (by omega)) HQ5.out.symm
                      (fun w9 t9 => ⟨_, rfl, .mk (SlG.nil _ _ _) ((y3.turn t9 (fun g _ h e => by omega)).mono (fun g _ h => by omega)) (.cons ((y1.turn t9 (fun g _ h e => by omega)).mono (fun g _ h => by omega)) (.cons ((y2.turn t9 (fun g _ h e => by omega)).mono (fun g _ h => by omega)) .nil))⟩)
        · have HQ3 : Hid (thenP (primP typ) (fun a => altF typ f (l ++ [a])) r3 = A) := hid ((thenP_good hq3.out).symm.trans HALT.out)
          have HL3 := hid (hasP_less hq3.out HPO.out)
          have HP := hid (prim_any (d + 1) typ HTY hsf w3 bp B r3 HK3.out)
          go_wp2_with fail
          refine (HP.out).mono ?_
          rintro e w4 h4
          rcases hq : primP typ r3 with g | ⟨t4, r4⟩
          · obtain ⟨rfl, tn, bn⟩ := h4.bad_ hq
            clear h4
            have HQB := hid (HQA.out.symm.trans (congrArg (fun q => onP q _) (HQ3.out.symm.trans (thenP_bad hq))))
            have HOB := hid ((turn_bp HT3.out tn))
            have hxo := (tcell HX3.out tn (by omega))
            have HBN := hid bn
            clear tn bn hq
            go_wp2_with fail
            exact out_bad HBN.out hxo HOB.out HQB.out
          · obtain ⟨v4, rfl, tn, ⟨z4, rfl, hz⟩, kn⟩ := h4.good_ hq
            obtain ⟨k4, s4, A14, n14, c14, A24, n24, c24, rfl⟩ := hz.shape'
            have HX4 := hid (tcell HX3.out tn (by omega))
            have HZ4 := hid hz
            have HTN := hid tn
            have HSF := hid ((Sf.prim hsf).good HK3.out.wf hq).2.length_le
            clear hz
            have hs4 := tn.size
            have HT4 := hid (turn_bp HT3.out tn)
            have HK4 := hid kn
            have HQ4 : Hid (altF typ f (l ++ [t4]) r4 = A) := hid ((thenP_good hq).symm.trans HQ3.out)
            have HRS_4 := hid (block_turn HRS_3.out tn (by omega))
            clear h4 tn kn hq
            obtain ⟨ys, hy, hrr⟩ := HROW3.out
            have hyl : ys.length = l.length * 4 := hy.1
            have hyw := own_turn hy HTN.out (fun g hg e => by have := (hy.lt g hg).1; omega)
            have HY := hid hy
            have HRR := hid hrr
            have HYW := hid hyw
            have hl8 : l.length ≤ 8194 := by have := HLR.out; omega
            clear hy hrr hyw
            go_wp2_with (at_builtin; go_must (refine wpList_app rfl (.tmp 14) (.tmp 17) _ rfl w1.heap.size el_ty _ _ rfl rfl (HYW.out.alloc (.cells #[.int .i64 k4, sv s4, .slice A14 n14 c14, .slice A24 n24 c24] 63)) (sl_new w4 #[.int .i64 k4, sv s4, .slice A14 n14 c14, .slice A24 n24 c24] 63 4 1 rfl (by decide)) (pty_one k4 s4 _ _ _ _ _ _) (by simp [maxLen]; omega) (by simp; omega) (by simp; omega) (fun v9 w9 n9 hown9 hg9 hbk9 => ?_)); have HOWN9 := hid hown9; have HG9 := hid hg9; have HBK9 := hid hbk9; clear hown9 hg9 hbk9)
            have ta := Turn.alloc (fun j => (Value.slice Al l.length cl).ownBlock = some j) w4 (.cells #[.int .i64 k4, sv s4, .slice A14 n14 c14, .slice A24 n24 c24] 63)
            have t9 := ta.trans (Turn.of_grown HG9.out (F := fun j => (Value.slice Al l.length cl).ownBlock = some j) (fun _ h => h)) (fun _ _ h => h)
            have hlt9 := HROW3.out.lt
            have hrow9 := RowG.push foot_ty (F := fun j => w1.heap.size ≤ j) HY.out HRR.out HTN.out HZ4.out t9 (fun j _ h => .inl h) (HBK9.out.imp id fun e => ⟨_, by simp, e⟩) HOWN9.out (by omega) (by omega) (fun j hj => by omega)
            go_roundw
            case rel => exact ⟨f, _, r4, hrow9, by simp, HQ4.out, by have := HSF.out; have := HL3.out; have := HF.out; omega, by have := HSF.out; have := HL3.out; have := HLR.out; simp; omega, HT4.out.trans t9 (fun i hi e => by have := (hlt9 i e).1; omega), by have := t9.size; omega, HK4.out.turn t9 (fun e => by have := (hlt9 _ e).1; omega) (fun k hk e => by have := (hlt9 _ e).1; omega), tcell HX4.out t9 (fun e => by have := (hlt9 _ e).1; omega), block_turn HRS_4.out t9 (fun e => by have := (hlt9 _ e).1; omega)⟩
            case measure => rw [(HK4.out.turn t9 (fun e => by have := (hlt9 _ e).1; omega) (fun k hk e => by have := (hlt9 _ e).1; omega)).left, HLE.out]; have := HSF.out; have := HL3.out; omega
theorem typ_deep : TypC 100 (failP 6) := by
  intro w bp B ts h
  have HE := hid (enter_deep (w.alloc (.cells #[.int .i64 0, .string ⟨#[]⟩, .slice none 0 0, .slice none 0 0] 63)) bp B ts (h.below (new1 _ _)))
  clear h
  go_enter_defers Tryz.func53, Tryz.ntmps53
  go_wp2_with fail
  refine (HE.out).mono ?_
  rintro e w1 ⟨rfl, hb⟩
  go_wp2_with fail
  exact ReadsP.fail (P := PTy w.heap.size) (B := B) (d := 100) (q := failP 6 ts) rfl ⟨(after1 hb.1).1, hb.2⟩
/-- typ, at each level. -/
theorem typ_all : ∀ n : Nat, n ≤ 100 → TypC (100 - (n : Int)) (levP n).typ
  | 0, _ => typ_deep
  | n + 1, h => by
    have ih := typ_all n (by omega)
    have e : (100 : Int) - ((n + 1 : Nat) : Int) + 1 = 100 - (n : Int) := by omega
    refine typ_step (100 - ((n + 1 : Nat) : Int)) (by omega) (by omega) (levP n).typ ?_ (Sf.lev n).1
    rw [e]; exact ih
end Go.Proofs.YtmbppnbekkbibaaGreatDoor
end
