/- HG, HH, HI -/
import Derived.Test.YtmbppnbekkbibaaGreatDoorPF10
set_option linter.unusedSimpArgs false
set_option linter.unusedVariables false
section
/- The contracts of imported and of its function that reads a name. -/
set_option linter.unusedVariables false
namespace Go.Proofs.YtmbppnbekkbibaaGreatDoor
open Go.RowKit

/-- An import while its names are read. -/
def ImpI (pb ib base bp : Nat) (s0 : Bt) (t : TokD) (w : World) (l : List Bt) : Prop :=
  w.heap[pb]? = some (.cells #[.pointer (some ⟨bp, 0, none⟩)] 94 (0, 0)) ∧ ∃ v, w.heap[ib]? = some (.cells #[sv s0, v, .int .i64 (t.line : Nat), .int .i64 (t.col : Nat)] 88 (0, 0)) ∧ OwnS w base 9 v l
theorem ImpI.turn {pb ib base bp : Nat} {s0 : Bt} {t : TokD} {w w' : World} {l : List Bt} {G : Nat → Prop} (h : ImpI pb ib base bp s0 t w l) (tn : Turn G w w') (h1 : ¬ G pb) (h2 : ¬ G ib) (h3 : ∀ j, base ≤ j → j < w.heap.size → ¬ G j) : ImpI pb ib base bp s0 t w' l := by
  obtain ⟨hb, v, hn, hr⟩ := h
  exact ⟨block_turn hb tn h1, v, block_turn hn tn h2, hr.turn tn (fun g hg => h3 g (hr.lt g hg).1 (hr.lt g hg).2)⟩
set_option maxRecDepth 100000 in
set_option maxHeartbeats 8000000 in
theorem imported1_any (d : Int) (w : World) (bp B pb ib base : Nat) (s0 : Bt) (t : TokD) (ts : List TokD) (l : List Bt) (hl : l.length ≤ 8193) (h : TkAt w bp B ts d) (hI : ImpI pb ib base bp s0 t w l) (p1 : bp < pb) (p2 : bp < ib) (p3 : pb < base) (p4 : ib < base) (p5 : pb ≠ ib) (p6 : base ≤ w.heap.size) :
    Calls Tryz.prog 131 #[.pointer (some ⟨ib, 0, none⟩), .pointer (some ⟨pb, 0, none⟩)] w (AddsP (ImpI pb ib base bp s0 t) (fun k => k = bp ∨ k = ib ∨ base ≤ k) bp B d w (moreP nameP l ts)) := by
  have hlt := h.lt
  obtain ⟨Q, hQ⟩ : ∃ Q, moreP nameP l ts = Q := ⟨_, rfl⟩
  rw [hQ]
  have HQ : Hid (thenP nameP (fun x => retP (l ++ [x])) ts = Q) := hid hQ
  have HN := hid (pname_any w.drew bp B ts d h)
  obtain ⟨hbox, vk, hblk, hrow⟩ := hI
  obtain ⟨A1, c1, rfl, hn1, hm1⟩ := hrow.ss.open_
  have hbx := cells1 hbox
  obtain ⟨t0, t1, t2, t3, tz⟩ := cells4 hblk
  have HBOX := hid hbox
  have HBLK := hid hblk
  have HNAM := hid hrow
  have HLO := hid hrow.lt
  have P0 := hid (fun (w' : World) (h : Turn (fun j => j = bp ∨ base ≤ j) w w') => tcell hbx h (by omega))
  have P2 := hid (fun (w' : World) (h : Turn (fun j => j = bp ∨ base ≤ j) w w') => tcell t1 h (by omega))
  have HD0 : Hid (Turn (fun j => j = bp ∨ base ≤ j) w w.drew) := hid ⟨rfl, rfl, rfl, Nat.le_refl _, fun _ _ _ => rfl⟩
  have HDB : Hid (Turn (fun j => j = bp) w w.drew) := hid ⟨rfl, rfl, rfl, Nat.le_refl _, fun _ _ _ => rfl⟩
  clear h hQ hbox hblk hrow hbx t0 t1 t2 t3 tz hm1
  go_enter Tryz.func131, Tryz.ntmps131
  go_wp2_with fail
  refine region_x (S := fun w' => Turn (fun j => j = bp ∨ base ≤ j) w w') (x := 9) (by kernel_rfl) ?_
  try simp only [Act.put, List.getElem_toArray, List.getElem_cons_zero, List.getElem_cons_succ, List.setIfInBounds_toArray, List.set_cons_zero, List.set_cons_succ]
  refine tx 0 (.pointer (some ⟨ib, 1, none⟩)) HD0.out ?_
  refine txf 1 (.slice A1 l.length c1) P2.out HD0.out ?_
  refine txf 2 (.pointer (some ⟨bp, 0, none⟩)) P0.out HD0.out ?_
  refine tx 3 (.pointer (some ⟨bp, 0, none⟩)) HD0.out ?_
  refine tx 4 (.pointer (some ⟨bp, 0, none⟩)) HD0.out ?_
  refine anyX_ready (rs := [5]) (by kernel_rfl) (by simp) ?_
  refine ReadyX.cons rfl (fun K hK => ?_) (ReadyX.nil)
  go_simp
  refine (HN.out).mono ?_
  rintro e w2 h2
  rcases hq : nameP ts with g | ⟨s, r⟩
  · obtain ⟨rfl, t2, b2⟩ := h2.bad_ hq
    exact ⟨rfl, AddsP.fail (HQ.out.symm.trans (thenP_bad hq)) (((HDB.out.trans t2 (fun _ _ h => h)).mono (G := fun k => k = bp ∨ k = ib ∨ base ≤ k) (fun _ _ h => .inl h))) b2⟩
  · obtain ⟨v, rfl, t2w, rfl, k2⟩ := h2.good_ hq
    have tb2 := HDB.out.trans t2w (fun _ _ h => h)
    have HT2 := hid (tb2.mono (G := fun j => j = bp ∨ base ≤ j) (fun _ _ h => .inl h))
    have HK2 := hid k2
    have hs2 := tb2.size
    have HROW := hid ((HNAM.out.turn tb2 (fun g hg e => by have := (HLO.out g hg).1; omega)).alloc (.cells #[sv s] 9))
    have HBLK2 := hid (keep_alloc (o' := .cells #[sv s] 9) (block_turn HBLK.out tb2 (by omega)))
    have HBOX2 := hid (keep_alloc (o' := .cells #[sv s] 9) (block_turn HBOX.out tb2 (by omega)))
    have HQ1 : Hid (Pr.good (l ++ [s]) r = Q) := hid ((thenP_good hq).symm.trans HQ.out)
    clear h2 t2w k2 hq tb2
    refine hK.out _ _ HT2.out ?_
    clear hK K
    try simp only [Act.put, List.getElem_toArray, List.getElem_cons_zero, List.getElem_cons_succ, List.setIfInBounds_toArray, List.set_cons_zero, List.set_cons_succ]
    refine anyX_ready (rs := [6]) (by kernel_rfl) (by simp) ?_
    refine ReadyX.cons rfl (fun K hK => ?_) (ReadyX.nil)
    go_simp
    have HT3 := hid (HT2.out.trans (Turn.alloc (fun j => j = bp ∨ base ≤ j) w2 (.cells #[sv s] 9)) (fun _ _ h => h))
    refine hK.out _ _ HT3.out ?_
    clear hK K
    try simp only [Act.put, List.getElem_toArray, List.getElem_cons_zero, List.getElem_cons_succ, List.setIfInBounds_toArray, List.set_cons_zero, List.set_cons_succ]
    refine anyX_ready (rs := [7]) (by kernel_rfl) (by simp) ?_
    refine ReadyX.cons rfl (fun K hK => ?_) (ReadyX.nil)
    have HSS := hid (ss_new w2 s 9)
    have hlen : (svs l).length = l.length := by simp [svs]
    refine step_app rfl (.tmp 3) (.tmp 8) _ rfl base el_str (.slice A1 l.length c1) (.slice (some ⟨w2.heap.size, 0, none⟩) 1 1) rfl rfl HROW.out.row HSS.out (svs_one _) (by simp [svs, maxLen]; omega) (by simp [svs]; omega) (by simp; omega) (fun v7 w7 n7 hown7 hg7 hbk7 => ?_)
    obtain ⟨A7, c7, rfl, _, _⟩ := own_sh hown7
    have tg := Turn.of_grown hg7 (F := fun j => base ≤ j) (fun k e => (HLO.out k e).1)
    have HT7 := hid (HT3.out.trans (tg.mono (G := fun j => j = bp ∨ base ≤ j) (fun _ _ h => .inr h)) (fun _ _ h => h))
    have hb7 := block_turn HBLK2.out tg (by omega)
    have HBOX7 := hid (block_turn HBOX2.out tg (by omega))
    have HK7 := hid ((HK2.out.below (new1 _ _)).turn tg (by omega) (fun k hk e => by have := HK2.out.1; omega))
    have t7 : w7.cell? ⟨ib, 1, none⟩ = some (.slice A1 l.length c1) := (cell_of_row _ _ _ _ _ _ hb7).trans rfl
    have z7 : ∀ i, w7.frozen? ⟨ib, i, none⟩ = false := fun i => frozen_of_row _ _ _ _ _ hb7
    have HB7 := hid hb7
    have HN7 : Hid (OwnS w7 base 9 (.slice A7 n7 c7) (l ++ [s])) := hid ⟨n7, by rw [svs_append]; exact hown7⟩
    clear hown7 hg7 hbk7 hlen tg hb7
    refine hK.out _ _ HT7.out ?_
    clear hK K
    try simp only [Act.put, List.getElem_toArray, List.getElem_cons_zero, List.getElem_cons_succ, List.setIfInBounds_toArray, List.set_cons_zero, List.set_cons_succ]
    refine tx 8 (.pointer (some ⟨ib, 1, none⟩)) HT7.out ?_
    refine anyX_ready (rs := [9]) (by kernel_rfl) (by simp) ?_
    refine ReadyX.past rfl (by kernel_rfl) (fun K hK => ?_) (ReadyX.nil)
    go_simp
    refine hK.out _ _ ?_
    clear hK K
    try simp only [Act.put, List.getElem_toArray, List.getElem_cons_zero, List.getElem_cons_succ, List.setIfInBounds_toArray, List.set_cons_zero, List.set_cons_succ]
    refine anyX_done (by kernel_rfl) ?_ _
    have tl := turn_set w7 ib 1 (.slice A7 n7 c7)
    go_end0
    exact AddsP.done HQ1.out.symm ((HT7.out.mono (G := fun k => k = bp ∨ k = ib ∨ base ≤ k) (fun _ _ h => by rcases h with h | h; exact .inl h; exact .inr (.inr h))).trans tl (fun i hi e => .inr (.inl e))) ⟨block_turn HBOX7.out tl p5, _, heap_setCell_same _ _ 1 _ _ _ HB7.out, HN7.out.turn tl (fun g hg e => by have := (HN7.out.lt g hg).1; omega)⟩ (HK7.out.turn tl (by omega) (fun k hk e => by have := HK7.out.1; omega))
/-- An import, of new memory. -/
def PImp (base : Nat) (w : World) (v : Value) (i : ImD) : Prop := ∃ z : List Value, v = .agg z.toArray ∧ ImG w (fun j => base ≤ j) z i
theorem new_turn4' {bp a : Nat} {w w1 : World} {v0 v1 v2 v3 : Value} (h : Turn (fun k => k = bp) w w1) (ha : w.heap.size ≤ a) : Turn (fun k => k = bp) w (put4 w1 a v0 v1 v2 v3) := h.trans (put4_turn w1 a v0 v1 v2 v3) (fun i hi e => by omega)
set_option maxRecDepth 100000 in
set_option maxHeartbeats 8000000 in
theorem imported_any (w : World) (bp B : Nat) (ts : List TokD) (h : TkAt w bp B ts 0) (t : TokD) : Calls Tryz.prog 77 #[.pointer (some ⟨bp, 0, none⟩), tokG t] w (ReadsP (PImp w.heap.size) bp B 0 w (importP t ts)) := by
  unfold tokG
  have hlt := h.lt
  have hB := h.1
  obtain ⟨Q, hQ⟩ : ∃ Q, importP t ts = Q := ⟨_, rfl⟩
  rw [hQ]
  have HQ : Hid (thenP nameP (fun s => thenP (wantP [58]) fun _ => thenP (sepP nameP) fun l => thenP (wantP [59]) fun _ => retP (⟨s, l, t.line, t.col⟩ : ImD)) ts = Q) := hid hQ
  obtain ⟨W0, hW0⟩ : ∃ W0, (((w.alloc (.cells #[.pointer (some ⟨bp, 0, none⟩)] 94)).alloc (.cells #[.int .i64 t.kind, sv t.text, .int .i64 (t.line : Nat), .int .i64 (t.col : Nat)] 70)).alloc (.cells #[.string ⟨#[]⟩, .slice none 0 0, .int .i64 0, .int .i64 0] 88)) = W0 := ⟨_, rfl⟩
  obtain ⟨tw, hs0, hb0, htb0, hrs0⟩ := after3 (G := fun _ => False) (Turn.refl _ (((w.alloc (.cells #[.pointer (some ⟨bp, 0, none⟩)] 94)).alloc (.cells #[.int .i64 t.kind, sv t.text, .int .i64 (t.line : Nat), .int .i64 (t.col : Nat)] 70)).alloc (.cells #[.string ⟨#[]⟩, .slice none 0 0, .int .i64 0, .int .i64 0] 88)))
  rw [hW0] at tw hs0 hb0 htb0 hrs0
  have hs0 : W0.heap.size = w.heap.size + 3 := by rw [← hW0]; simp
  have hb0 := hb0 id
  have htb0 := htb0 id
  have hbx := cells1 hb0
  obtain ⟨t0, t1, t2, t3, tz⟩ := cells4 htb0
  have HBX := hid hb0
  have HRS := hid (hrs0 id)
  have HTW := hid (tw.mono (G := fun k => k = bp) (fun _ _ h => h.elim))
  have HK0 := hid (h.turn tw id (fun _ _ => id))
  have P0 := hid (fun (w' : World) (h : Turn (fun j => j = bp) W0 w') => tcell hbx h (by omega))
  have PL := hid (fun (w' : World) (h : Turn (fun j => j = bp) W0 w') => tcell t2 h (by omega))
  have PC := hid (fun (w' : World) (h : Turn (fun j => j = bp) W0 w') => tcell t3 h (by omega))
  have HD0 : Hid (Turn (fun j => j = bp) W0 W0.drew) := hid ⟨rfl, rfl, rfl, Nat.le_refl _, fun _ _ _ => rfl⟩
  have HW0 := hid hW0
  have hmf : ∀ (fn : Fn) (first cap : Array Value) (w : World), (Instr.makeFunc fn first cap).run Tryz.prog w = .ok (.func fn first cap) w := fun _ _ _ _ => rfl
  clear h hQ tw hb0 htb0 hrs0 hbx t0 t1 t2 t3 tz hW0
  go_enter Tryz.func77, Tryz.ntmps77
  go_wp2_with fail
  rw [HW0.out]
  refine region_x (S := fun w' => Turn (fun j => j = bp) W0 w') (x := 10) (by kernel_rfl) ?_
  try simp only [Act.put, List.getElem_toArray, List.getElem_cons_zero, List.getElem_cons_succ, List.setIfInBounds_toArray, List.set_cons_zero, List.set_cons_succ]
  refine txf 0 (.pointer (some ⟨bp, 0, none⟩)) P0.out HD0.out ?_
  refine tx 1 (.pointer (some ⟨bp, 0, none⟩)) HD0.out ?_
  refine tx 2 (.pointer (some ⟨bp, 0, none⟩)) HD0.out ?_
  refine tx 4 (.pointer (some ⟨w.heap.size + 1, 2, none⟩)) HD0.out ?_
  refine txf 5 (.int .i64 (t.line : Nat)) PL.out HD0.out ?_
  refine tx 6 (.pointer (some ⟨w.heap.size + 1, 3, none⟩)) HD0.out ?_
  refine txf 7 (.int .i64 (t.col : Nat)) PC.out HD0.out ?_
  refine anyX_ready (rs := [3, 9]) (by kernel_rfl) (by simp) ?_
  refine ReadyX.cons rfl (fun K hK => ?_) (ReadyX.cons rfl (fun K hK => ?_) ReadyX.nil)
  · go_simp
    refine (pname_any W0.drew bp B ts 0 HK0.out).mono ?_
    rintro e w1 h1
    rcases hq : nameP ts with g | ⟨s, r1⟩
    · obtain ⟨rfl, tn, bn⟩ := h1.bad_ hq
      have HQB := hid (HQ.out.symm.trans (thenP_bad hq))
      exact ⟨rfl, ReadsP.fail HQB.out (BadP.mk2 (turn_bp HTW.out (turn_bp HD0.out tn)) bn)⟩
    · obtain ⟨v1, rfl, tn, rfl, kn⟩ := h1.good_ hq
      have HS1 := hid (turn_bp HD0.out tn)
      have hs1 := tn.size
      simp at hs1
      have HQ1 : Hid (thenP (wantP [58]) (fun _ => thenP (sepP nameP) fun l => thenP (wantP [59]) fun _ => retP (⟨s, l, t.line, t.col⟩ : ImD)) r1 = Q) := hid ((thenP_good hq).symm.trans HQ.out)
      have HT1 := hid (turn_bp (turn_bp HTW.out HS1.out) (Turn.alloc (fun k => k = bp) w1 (.cells #[sv s, .slice none 0 0, .int .i64 (t.line : Nat), .int .i64 (t.col : Nat)] 88)))
      have HK1 := hid (kn.below (new1 w1 (.cells #[sv s, .slice none 0 0, .int .i64 (t.line : Nat), .int .i64 (t.col : Nat)] 88)))
      have HRS1 := hid (keep_alloc (o' := (.cells #[sv s, .slice none 0 0, .int .i64 (t.line : Nat), .int .i64 (t.col : Nat)] 88)) (block_turn HRS.out HS1.out (by omega)))
      have HBX1 := hid (keep_alloc (o' := (.cells #[sv s, .slice none 0 0, .int .i64 (t.line : Nat), .int .i64 (t.col : Nat)] 88)) (block_turn HBX.out HS1.out (by omega)))
      have HIB1 := hid (at1 w1 (.cells #[sv s, .slice none 0 0, .int .i64 (t.line : Nat), .int .i64 (t.col : Nat)] 88))
      have hbx1 := cells1 (block_turn HBX.out HS1.out (by omega))
      have hlw1 : w.heap.size < w1.heap.size := by omega
      clear h1 tn kn hq
      refine hK.out _ _ HS1.out ?_
      clear hK K
      try simp only [Act.put, List.getElem_toArray, List.getElem_cons_zero, List.getElem_cons_succ, List.setIfInBounds_toArray, List.set_cons_zero, List.set_cons_succ]
      refine tt 8 (.agg #[sv s, .slice none 0 0, .int .i64 (t.line : Nat), .int .i64 (t.col : Nat)]) (fun _ => HS1.out) ?_
      refine anyX_ready (rs := [9]) (by kernel_rfl) (by simp) ?_
      refine ReadyX.cons rfl (fun K hK => ?_) (ReadyX.nil)
      go_simp
      have HS2 := hid (turn_bp HS1.out (Turn.alloc (fun k => k = bp) w1 (.cells #[.string ⟨#[]⟩, .slice none 0 0, .int .i64 0, .int .i64 0] 88)))
      refine hK.out _ _ HS2.out ?_
      clear hK K
      try simp only [Act.put, List.getElem_toArray, List.getElem_cons_zero, List.getElem_cons_succ, List.setIfInBounds_toArray, List.set_cons_zero, List.set_cons_succ]
      refine anyX_ready (rs := [10]) (by kernel_rfl) (by simp) ?_
      refine ReadyX.past rfl (by kernel_rfl) (fun K hK => ?_) (ReadyX.nil)
      go_simp
      refine hK.out _ _ ?_
      clear hK K
      try simp only [Act.put, List.getElem_toArray, List.getElem_cons_zero, List.getElem_cons_succ, List.setIfInBounds_toArray, List.set_cons_zero, List.set_cons_succ]
      refine anyX_done (by kernel_rfl) ?_ _
      have HN := hid (want_lit (w1.alloc (.cells #[sv s, .slice none 0 0, .int .i64 (t.line : Nat), .int .i64 (t.col : Nat)] 88)) bp B r1 0 HK1.out [58] 9 (w1.heap.size + 1))
      go_wp2_with fail
      refine (HN.out).mono ?_
      rintro e w4 h4
      rcases hq : wantP [58] r1 with g | ⟨u, r4⟩
      · obtain ⟨rfl, tn, bn⟩ := h4.bad_ hq
        have HB := hid (BadP.mk2 (turn_bp HT1.out tn) bn)
        have HQB := hid (HQ1.out.symm.trans (thenP_bad hq))
        clear h4 tn bn hq
        go_wp2_with fail
        exact ⟨rfl, ReadsP.fail HQB.out HB.out⟩
      · obtain ⟨v4, rfl, tn, -, kn⟩ := h4.good_ hq
        have hs4 := tn.size
        simp at hs4
        have HT4 := hid (turn_bp HT1.out tn)
        have hb4 := block_turn HBX1.out tn (by omega)
        have hi4 := block_turn HIB1.out tn (by omega)
        have HI4 : Hid (ImpI w.heap.size (w1.heap.size) w4.heap.size bp s t w4 []) := hid ⟨hb4, _, hi4, OwnS.nil _ _ _⟩
        have HRS4 := hid (block_turn HRS1.out tn (by omega))
        have hbx4 := cells1 hb4
        have HQ4 : Hid (thenP (sepP nameP) (fun l => thenP (wantP [59]) fun _ => retP (⟨s, l, t.line, t.col⟩ : ImD)) r4 = Q) := hid ((thenP_good hq).symm.trans HQ1.out)
        have HSV := hid (several_any nameP Sf.name 131 #[.pointer (some ⟨w1.heap.size, 0, none⟩), .pointer (some ⟨w.heap.size, 0, none⟩)] (ImpI w.heap.size (w1.heap.size) w4.heap.size bp s t) (fun k => k = bp ∨ k = w1.heap.size ∨ w4.heap.size ≤ k) 0 w4 bp B r4 (.inl rfl)
          (fun a b l tn h => h.turn tn (by omega) (by omega) (fun j hj _ e => by omega)) (fun g h => .inr (.inr h))
          (fun w1 r l hl hw hi hk => imported1_any 0 w1 bp B _ _ _ s t r l hl hk hi (by omega) (by omega) (by omega) (by omega) (by omega) hw) (fun _ => by kernel_rfl) kn HI4.out)
        clear h4 tn kn hq hb4 hi4
        go_wp2_with fail
        refine (HSV.out).mono ?_
        rintro e w5 h5
        rcases hq : sepP nameP r4 with g | ⟨l, r5⟩
        · obtain ⟨rfl, tn, bn⟩ := h5.bad_ hq
          have HB := hid (BadP.mk2 (HT4.out.trans tn (fun i hi e => by rcases e with e | e | e; exact e; omega; omega)) bn)
          have HQB := hid (HQ4.out.symm.trans (thenP_bad hq))
          clear h5 tn bn hq
          go_wp2_with fail
          exact ⟨rfl, ReadsP.fail HQB.out HB.out⟩
        · obtain ⟨rfl, tn, hI5, kn⟩ := h5.good_ hq
          have hs5 := tn.size
          have HT5 := hid (HT4.out.trans tn (fun i hi e => by rcases e with e | e | e; exact e; omega; omega))
          have HRS5 := hid (block_turn HRS4.out tn (fun e => by rcases e with e | e | e <;> omega))
          have HI5 := hid hI5
          have hbx5 := cells1 hI5.1
          have HQ5 : Hid (thenP (wantP [59]) (fun _ => retP (⟨s, l, t.line, t.col⟩ : ImD)) r5 = Q) := hid ((thenP_good hq).symm.trans HQ4.out)
          have HN5 := hid (want_lit w5 bp B r5 0 kn [59] 9 w5.heap.size)
          clear h5 tn hI5 kn hq hbx4
          go_wp2_with fail
          refine (HN5.out).mono ?_
          rintro e w6 h6
          rcases hq : wantP [59] r5 with g | ⟨u, r6⟩
          · obtain ⟨rfl, tn, bn⟩ := h6.bad_ hq
            have HB := hid (BadP.mk2 (turn_bp HT5.out tn) bn)
            have HQB := hid (HQ5.out.symm.trans (thenP_bad hq))
            clear h6 tn bn hq
            go_wp2_with fail
            exact ⟨rfl, ReadsP.fail HQB.out HB.out⟩
          · obtain ⟨v6, rfl, tn, -, kn⟩ := h6.good_ hq
            have hs6 := tn.size
            have HT6 := hid (turn_bp HT5.out tn)
            have HK6 := hid kn
            have HRS6 := hid (block_turn HRS5.out tn (by omega))
            have HQ6 : Hid (Pr.good (⟨s, l, t.line, t.col⟩ : ImD) r6 = Q) := hid ((thenP_good hq).symm.trans HQ5.out)
            obtain ⟨_, v, hi6, hn6⟩ := HI5.out.turn tn (by omega) (by omega) (fun j hj hl e => by omega)
            obtain ⟨A6, c6, rfl, _, _⟩ := hn6.ss.open_
            have HN6 := hid hn6
            obtain ⟨f0, f1, f2, f3, fz⟩ := cells4 hi6
            obtain ⟨c0', c1', c2', c3', cz'⟩ := cells4 HRS6.out
            clear h6 tn kn hq hi6 hn6 hbx5
            go_wp2_with fail
            have tF := put4_turn w6 (w.heap.size + 2) (sv s) (.slice A6 l.length c6) (.int .i64 (t.line : Nat)) (.int .i64 (t.col : Nat))
            refine bodyPost_ret (res_cell rfl rfl (put4_block HRS6.out _ _ _ _) Tryz.underlying88 rfl (by kernel_rfl)) rfl ?_
            obtain ⟨n6, ho6⟩ := HN6.out
            have hlo6 := ho6.lt
            exact ReadsP.done HQ6.out.symm (new_turn4' HT6.out (by omega)) ⟨_, rfl, _, rfl, (SlG.own (F := fun j => w4.heap.size ≤ j) ho6 (fun g hg => (hlo6 g hg).1)).turn tF (fun g _ h e => by omega) |>.mono (fun g _ h => by omega)⟩ (HK6.out.turn tF (by omega) (fun k hk e => by have := HK6.out.1; omega))
  · go_simp
    have HS0 := hid (turn_bp HD0.out (Turn.alloc (fun k => k = bp) W0.drew (.cells #[.string ⟨#[]⟩, .slice none 0 0, .int .i64 0, .int .i64 0] 88)))
    have HKB := hid (TkAt.below (w := W0.drew) HK0.out (new1 W0.drew (.cells #[.string ⟨#[]⟩, .slice none 0 0, .int .i64 0, .int .i64 0] 88)))
    refine hK.out _ _ HS0.out ?_
    clear hK K
    try simp only [Act.put, List.getElem_toArray, List.getElem_cons_zero, List.getElem_cons_succ, List.setIfInBounds_toArray, List.set_cons_zero, List.set_cons_succ]
    refine anyX_ready (rs := [3]) (by kernel_rfl) (by simp) ?_
    refine ReadyX.cons rfl (fun K hK => ?_) (ReadyX.nil)
    go_simp
    refine (pname_any _ bp B ts 0 HKB.out).mono ?_
    rintro e w1 h1
    rcases hq : nameP ts with g | ⟨s, r1⟩
    · obtain ⟨rfl, tn, bn⟩ := h1.bad_ hq
      have HQB := hid (HQ.out.symm.trans (thenP_bad hq))
      exact ⟨rfl, ReadsP.fail HQB.out (BadP.mk2 (turn_bp HTW.out (turn_bp HS0.out tn)) bn)⟩
    · obtain ⟨v1, rfl, tn, rfl, kn⟩ := h1.good_ hq
      have HS1 := hid (turn_bp HS0.out tn)
      have hs1 := tn.size
      simp at hs1
      have HQ1 : Hid (thenP (wantP [58]) (fun _ => thenP (sepP nameP) fun l => thenP (wantP [59]) fun _ => retP (⟨s, l, t.line, t.col⟩ : ImD)) r1 = Q) := hid ((thenP_good hq).symm.trans HQ.out)
      have hi1 : w1.heap[w.heap.size + 3]? = some (.cells #[.string ⟨#[]⟩, .slice none 0 0, .int .i64 0, .int .i64 0] 88 (0, 0)) := by
        have := block_turn (at1 W0.drew _) tn (by show ¬ W0.heap.size = bp; omega)
        rwa [show W0.drew.heap.size = w.heap.size + 3 from hs0] at this
      have tP := put4_turn w1 (w.heap.size + 3) (sv s) (.slice none 0 0) (.int .i64 (t.line : Nat)) (.int .i64 (t.col : Nat))
      have HT1 := hid ((turn_bp HTW.out HS1.out).trans tP (fun i hi e => by omega))
      have HK1 := hid (kn.turn tP (by omega) (fun k hk e => by have := HK0.out.1; omega))
      have HRS1 := hid (block_turn (block_turn HRS.out HS1.out (by omega)) tP (by omega))
      have hb1 := block_turn HBX.out HS1.out (by omega)
      have HBX1 := hid (block_turn hb1 tP (by omega))
      have HIB1 := hid (put4_block hi1 (sv s) (.slice none 0 0) (.int .i64 (t.line : Nat)) (.int .i64 (t.col : Nat)))
      obtain ⟨i0, i1, i2, i3, iz⟩ := cells4 hi1
      have hbx1 := cells1 hb1
      have hlw1 : w.heap.size < w1.heap.size := by omega
      have hne1 : ¬ w.heap.size + 3 = w.heap.size := by omega
      have hne2 : ¬ w.heap.size = w.heap.size + 3 := by omega
      clear h1 tn kn hq hi1 tP hb1
      refine hK.out _ _ HS1.out ?_
      clear hK K
      try simp only [Act.put, List.getElem_toArray, List.getElem_cons_zero, List.getElem_cons_succ, List.setIfInBounds_toArray, List.set_cons_zero, List.set_cons_succ]
      refine tt 8 (.agg #[sv s, .slice none 0 0, .int .i64 (t.line : Nat), .int .i64 (t.col : Nat)]) (fun _ => HS1.out) ?_
      refine anyX_ready (rs := [10]) (by kernel_rfl) (by simp) ?_
      refine ReadyX.past rfl (by kernel_rfl) (fun K hK => ?_) (ReadyX.nil)
      go_simp
      refine hK.out _ _ ?_
      clear hK K
      try simp only [Act.put, List.getElem_toArray, List.getElem_cons_zero, List.getElem_cons_succ, List.setIfInBounds_toArray, List.set_cons_zero, List.set_cons_succ]
      refine anyX_done (by kernel_rfl) ?_ _
      have HN := hid (want_lit (put4 w1 (w.heap.size + 3) (sv s) (.slice none 0 0) (.int .i64 (t.line : Nat)) (.int .i64 (t.col : Nat))) bp B r1 0 HK1.out [58] 9 (w1.heap.size))
      go_wp2_with fail
      refine (HN.out).mono ?_
      rintro e w4 h4
      rcases hq : wantP [58] r1 with g | ⟨u, r4⟩
      · obtain ⟨rfl, tn, bn⟩ := h4.bad_ hq
        have HB := hid (BadP.mk2 (turn_bp HT1.out tn) bn)
        have HQB := hid (HQ1.out.symm.trans (thenP_bad hq))
        clear h4 tn bn hq
        go_wp2_with fail
        exact ⟨rfl, ReadsP.fail HQB.out HB.out⟩
      · obtain ⟨v4, rfl, tn, -, kn⟩ := h4.good_ hq
        have hs4 := tn.size
        simp at hs4
        have HT4 := hid (turn_bp HT1.out tn)
        have hb4 := block_turn HBX1.out tn (by omega)
        have hi4 := block_turn HIB1.out tn (by omega)
        have HI4 : Hid (ImpI w.heap.size (w.heap.size + 3) w4.heap.size bp s t w4 []) := hid ⟨hb4, _, hi4, OwnS.nil _ _ _⟩
        have HRS4 := hid (block_turn HRS1.out tn (by omega))
        have hbx4 := cells1 hb4
        have HQ4 : Hid (thenP (sepP nameP) (fun l => thenP (wantP [59]) fun _ => retP (⟨s, l, t.line, t.col⟩ : ImD)) r4 = Q) := hid ((thenP_good hq).symm.trans HQ1.out)
        have HSV := hid (several_any nameP Sf.name 131 #[.pointer (some ⟨w.heap.size + 3, 0, none⟩), .pointer (some ⟨w.heap.size, 0, none⟩)] (ImpI w.heap.size (w.heap.size + 3) w4.heap.size bp s t) (fun k => k = bp ∨ k = w.heap.size + 3 ∨ w4.heap.size ≤ k) 0 w4 bp B r4 (.inl rfl)
          (fun a b l tn h => h.turn tn (by omega) (by omega) (fun j hj _ e => by omega)) (fun g h => .inr (.inr h))
          (fun w1 r l hl hw hi hk => imported1_any 0 w1 bp B _ _ _ s t r l hl hk hi (by omega) (by omega) (by omega) (by omega) (by omega) hw) (fun _ => by kernel_rfl) kn HI4.out)
        clear h4 tn kn hq hb4 hi4
        go_wp2_with fail
        refine (HSV.out).mono ?_
        rintro e w5 h5
        rcases hq : sepP nameP r4 with g | ⟨l, r5⟩
        · obtain ⟨rfl, tn, bn⟩ := h5.bad_ hq
          have HB := hid (BadP.mk2 (HT4.out.trans tn (fun i hi e => by rcases e with e | e | e; exact e; omega; omega)) bn)
          have HQB := hid (HQ4.out.symm.trans (thenP_bad hq))
          clear h5 tn bn hq
          go_wp2_with fail
          exact ⟨rfl, ReadsP.fail HQB.out HB.out⟩
        · obtain ⟨rfl, tn, hI5, kn⟩ := h5.good_ hq
          have hs5 := tn.size
          have HT5 := hid (HT4.out.trans tn (fun i hi e => by rcases e with e | e | e; exact e; omega; omega))
          have HRS5 := hid (block_turn HRS4.out tn (fun e => by rcases e with e | e | e <;> omega))
          have HI5 := hid hI5
          have hbx5 := cells1 hI5.1
          have HQ5 : Hid (thenP (wantP [59]) (fun _ => retP (⟨s, l, t.line, t.col⟩ : ImD)) r5 = Q) := hid ((thenP_good hq).symm.trans HQ4.out)
          have HN5 := hid (want_lit w5 bp B r5 0 kn [59] 9 w5.heap.size)
          clear h5 tn hI5 kn hq hbx4
          go_wp2_with fail
          refine (HN5.out).mono ?_
          rintro e w6 h6
          rcases hq : wantP [59] r5 with g | ⟨u, r6⟩
          · obtain ⟨rfl, tn, bn⟩ := h6.bad_ hq
            have HB := hid (BadP.mk2 (turn_bp HT5.out tn) bn)
            have HQB := hid (HQ5.out.symm.trans (thenP_bad hq))
            clear h6 tn bn hq
            go_wp2_with fail
            exact ⟨rfl, ReadsP.fail HQB.out HB.out⟩
          · obtain ⟨v6, rfl, tn, -, kn⟩ := h6.good_ hq
            have hs6 := tn.size
            have HT6 := hid (turn_bp HT5.out tn)
            have HK6 := hid kn
            have HRS6 := hid (block_turn HRS5.out tn (by omega))
            have HQ6 : Hid (Pr.good (⟨s, l, t.line, t.col⟩ : ImD) r6 = Q) := hid ((thenP_good hq).symm.trans HQ5.out)
            obtain ⟨_, v, hi6, hn6⟩ := HI5.out.turn tn (by omega) (by omega) (fun j hj hl e => by omega)
            obtain ⟨A6, c6, rfl, _, _⟩ := hn6.ss.open_
            have HN6 := hid hn6
            obtain ⟨f0, f1, f2, f3, fz⟩ := cells4 hi6
            obtain ⟨c0', c1', c2', c3', cz'⟩ := cells4 HRS6.out
            clear h6 tn kn hq hi6 hn6 hbx5
            go_wp2_with fail
            have tF := put4_turn w6 (w.heap.size + 2) (sv s) (.slice A6 l.length c6) (.int .i64 (t.line : Nat)) (.int .i64 (t.col : Nat))
            refine bodyPost_ret (res_cell rfl rfl (put4_block HRS6.out _ _ _ _) Tryz.underlying88 rfl (by kernel_rfl)) rfl ?_
            obtain ⟨n6, ho6⟩ := HN6.out
            have hlo6 := ho6.lt
            exact ReadsP.done HQ6.out.symm (new_turn4' HT6.out (by omega)) ⟨_, rfl, _, rfl, (SlG.own (F := fun j => w4.heap.size ≤ j) ho6 (fun g hg => (hlo6 g hg).1)).turn tF (fun g _ h e => by omega) |>.mono (fun g _ h => by omega)⟩ (HK6.out.turn tF (by omega) (fun k hk e => by have := HK6.out.1; omega))
end Go.Proofs.YtmbppnbekkbibaaGreatDoor
end
section
/- The contract of decl. -/
set_option linter.unusedVariables false
namespace Go.Proofs.YtmbppnbekkbibaaGreatDoor
open Go.RowKit

abbrev put15 (w : World) (b : Nat) (v0 v1 v2 v3 v4 v5 v6 v7 v8 v9 v10 v11 v12 v13 v14 : Value) : World := ((((((((((((((w.setCell ⟨b, 0, none⟩ v0).setCell ⟨b, 1, none⟩ v1).setCell ⟨b, 2, none⟩ v2).setCell ⟨b, 3, none⟩ v3).setCell ⟨b, 4, none⟩ v4).setCell ⟨b, 5, none⟩ v5).setCell ⟨b, 6, none⟩ v6).setCell ⟨b, 7, none⟩ v7).setCell ⟨b, 8, none⟩ v8).setCell ⟨b, 9, none⟩ v9).setCell ⟨b, 10, none⟩ v10).setCell ⟨b, 11, none⟩ v11).setCell ⟨b, 12, none⟩ v12).setCell ⟨b, 13, none⟩ v13).setCell ⟨b, 14, none⟩ v14
theorem put15_turn (w : World) (b : Nat) (v0 v1 v2 v3 v4 v5 v6 v7 v8 v9 v10 v11 v12 v13 v14 : Value) : Turn (fun k => k = b) w (put15 w b v0 v1 v2 v3 v4 v5 v6 v7 v8 v9 v10 v11 v12 v13 v14) :=
  ((((((((((((((turn_set w b 0 v0).trans (turn_set _ b 1 v1) (fun _ _ h => h)).trans (turn_set _ b 2 v2) (fun _ _ h => h)).trans (turn_set _ b 3 v3) (fun _ _ h => h)).trans (turn_set _ b 4 v4) (fun _ _ h => h)).trans (turn_set _ b 5 v5) (fun _ _ h => h)).trans (turn_set _ b 6 v6) (fun _ _ h => h)).trans (turn_set _ b 7 v7) (fun _ _ h => h)).trans (turn_set _ b 8 v8) (fun _ _ h => h)).trans (turn_set _ b 9 v9) (fun _ _ h => h)).trans (turn_set _ b 10 v10) (fun _ _ h => h)).trans (turn_set _ b 11 v11) (fun _ _ h => h)).trans (turn_set _ b 12 v12) (fun _ _ h => h)).trans (turn_set _ b 13 v13) (fun _ _ h => h)).trans (turn_set _ b 14 v14) (fun _ _ h => h)
theorem put15_block {w : World} {b : Nat} {a0 a1 a2 a3 a4 a5 a6 a7 a8 a9 a10 a11 a12 a13 a14 : Value} {t : TypeId} (h : w.heap[b]? = some (.cells #[a0, a1, a2, a3, a4, a5, a6, a7, a8, a9, a10, a11, a12, a13, a14] t (0, 0))) (v0 v1 v2 v3 v4 v5 v6 v7 v8 v9 v10 v11 v12 v13 v14 : Value) : (put15 w b v0 v1 v2 v3 v4 v5 v6 v7 v8 v9 v10 v11 v12 v13 v14).heap[b]? = some (.cells #[v0, v1, v2, v3, v4, v5, v6, v7, v8, v9, v10, v11, v12, v13, v14] t (0, 0)) := by
  have h0 : (w.setCell ⟨b, 0, none⟩ v0).heap[b]? = some (.cells #[v0, a1, a2, a3, a4, a5, a6, a7, a8, a9, a10, a11, a12, a13, a14] t (0, 0)) := heap_setCell_same _ b 0 _ _ v0 h
  have h1 : ((w.setCell ⟨b, 0, none⟩ v0).setCell ⟨b, 1, none⟩ v1).heap[b]? = some (.cells #[v0, v1, a2, a3, a4, a5, a6, a7, a8, a9, a10, a11, a12, a13, a14] t (0, 0)) := heap_setCell_same _ b 1 _ _ v1 h0
  have h2 : (((w.setCell ⟨b, 0, none⟩ v0).setCell ⟨b, 1, none⟩ v1).setCell ⟨b, 2, none⟩ v2).heap[b]? = some (.cells #[v0, v1, v2, a3, a4, a5, a6, a7, a8, a9, a10, a11, a12, a13, a14] t (0, 0)) := heap_setCell_same _ b 2 _ _ v2 h1
  have h3 : ((((w.setCell ⟨b, 0, none⟩ v0).setCell ⟨b, 1, none⟩ v1).setCell ⟨b, 2, none⟩ v2).setCell ⟨b, 3, none⟩ v3).heap[b]? = some (.cells #[v0, v1, v2, v3, a4, a5, a6, a7, a8, a9, a10, a11, a12, a13, a14] t (0, 0)) := heap_setCell_same _ b 3 _ _ v3 h2
  have h4 : (((((w.setCell ⟨b, 0, none⟩ v0).setCell ⟨b, 1, none⟩ v1).setCell ⟨b, 2, none⟩ v2).setCell ⟨b, 3, none⟩ v3).setCell ⟨b, 4, none⟩ v4).heap[b]? = some (.cells #[v0, v1, v2, v3, v4, a5, a6, a7, a8, a9, a10, a11, a12, a13, a14] t (0, 0)) := heap_setCell_same _ b 4 _ _ v4 h3
  have h5 : ((((((w.setCell ⟨b, 0, none⟩ v0).setCell ⟨b, 1, none⟩ v1).setCell ⟨b, 2, none⟩ v2).setCell ⟨b, 3, none⟩ v3).setCell ⟨b, 4, none⟩ v4).setCell ⟨b, 5, none⟩ v5).heap[b]? = some (.cells #[v0, v1, v2, v3, v4, v5, a6, a7, a8, a9, a10, a11, a12, a13, a14] t (0, 0)) := heap_setCell_same _ b 5 _ _ v5 h4
  have h6 : (((((((w.setCell ⟨b, 0, none⟩ v0).setCell ⟨b, 1, none⟩ v1).setCell ⟨b, 2, none⟩ v2).setCell ⟨b, 3, none⟩ v3).setCell ⟨b, 4, none⟩ v4).setCell ⟨b, 5, none⟩ v5).setCell ⟨b, 6, none⟩ v6).heap[b]? = some (.cells #[v0, v1, v2, v3, v4, v5, v6, a7, a8, a9, a10, a11, a12, a13, a14] t (0, 0)) := heap_setCell_same _ b 6 _ _ v6 h5
  have h7 : ((((((((w.setCell ⟨b, 0, none⟩ v0).setCell ⟨b, 1, none⟩ v1).setCell ⟨b, 2, none⟩ v2).setCell ⟨b, 3, none⟩ v3).setCell ⟨b, 4, none⟩ v4).setCell ⟨b, 5, none⟩ v5).setCell ⟨b, 6, none⟩ v6).setCell ⟨b, 7, none⟩ v7).heap[b]? = some (.cells #[v0, v1, v2, v3, v4, v5, v6, v7, a8, a9, a10, a11, a12, a13, a14] t (0, 0)) := heap_setCell_same _ b 7 _ _ v7 h6
  have h8 : (((((((((w.setCell ⟨b, 0, none⟩ v0).setCell ⟨b, 1, none⟩ v1).setCell ⟨b, 2, none⟩ v2).setCell ⟨b, 3, none⟩ v3).setCell ⟨b, 4, none⟩ v4).setCell ⟨b, 5, none⟩ v5).setCell ⟨b, 6, none⟩ v6).setCell ⟨b, 7, none⟩ v7).setCell ⟨b, 8, none⟩ v8).heap[b]? = some (.cells #[v0, v1, v2, v3, v4, v5, v6, v7, v8, a9, a10, a11, a12, a13, a14] t (0, 0)) := heap_setCell_same _ b 8 _ _ v8 h7
  have h9 : ((((((((((w.setCell ⟨b, 0, none⟩ v0).setCell ⟨b, 1, none⟩ v1).setCell ⟨b, 2, none⟩ v2).setCell ⟨b, 3, none⟩ v3).setCell ⟨b, 4, none⟩ v4).setCell ⟨b, 5, none⟩ v5).setCell ⟨b, 6, none⟩ v6).setCell ⟨b, 7, none⟩ v7).setCell ⟨b, 8, none⟩ v8).setCell ⟨b, 9, none⟩ v9).heap[b]? = some (.cells #[v0, v1, v2, v3, v4, v5, v6, v7, v8, v9, a10, a11, a12, a13, a14] t (0, 0)) := heap_setCell_same _ b 9 _ _ v9 h8
  have h10 : (((((((((((w.setCell ⟨b, 0, none⟩ v0).setCell ⟨b, 1, none⟩ v1).setCell ⟨b, 2, none⟩ v2).setCell ⟨b, 3, none⟩ v3).setCell ⟨b, 4, none⟩ v4).setCell ⟨b, 5, none⟩ v5).setCell ⟨b, 6, none⟩ v6).setCell ⟨b, 7, none⟩ v7).setCell ⟨b, 8, none⟩ v8).setCell ⟨b, 9, none⟩ v9).setCell ⟨b, 10, none⟩ v10).heap[b]? = some (.cells #[v0, v1, v2, v3, v4, v5, v6, v7, v8, v9, v10, a11, a12, a13, a14] t (0, 0)) := heap_setCell_same _ b 10 _ _ v10 h9
  have h11 : ((((((((((((w.setCell ⟨b, 0, none⟩ v0).setCell ⟨b, 1, none⟩ v1).setCell ⟨b, 2, none⟩ v2).setCell ⟨b, 3, none⟩ v3).setCell ⟨b, 4, none⟩ v4).setCell ⟨b, 5, none⟩ v5).setCell ⟨b, 6, none⟩ v6).setCell ⟨b, 7, none⟩ v7).setCell ⟨b, 8, none⟩ v8).setCell ⟨b, 9, none⟩ v9).setCell ⟨b, 10, none⟩ v10).setCell ⟨b, 11, none⟩ v11).heap[b]? = some (.cells #[v0, v1, v2, v3, v4, v5, v6, v7, v8, v9, v10, v11, a12, a13, a14] t (0, 0)) := heap_setCell_same _ b 11 _ _ v11 h10
  have h12 : (((((((((((((w.setCell ⟨b, 0, none⟩ v0).setCell ⟨b, 1, none⟩ v1).setCell ⟨b, 2, none⟩ v2).setCell ⟨b, 3, none⟩ v3).setCell ⟨b, 4, none⟩ v4).setCell ⟨b, 5, none⟩ v5).setCell ⟨b, 6, none⟩ v6).setCell ⟨b, 7, none⟩ v7).setCell ⟨b, 8, none⟩ v8).setCell ⟨b, 9, none⟩ v9).setCell ⟨b, 10, none⟩ v10).setCell ⟨b, 11, none⟩ v11).setCell ⟨b, 12, none⟩ v12).heap[b]? = some (.cells #[v0, v1, v2, v3, v4, v5, v6, v7, v8, v9, v10, v11, v12, a13, a14] t (0, 0)) := heap_setCell_same _ b 12 _ _ v12 h11
  have h13 : ((((((((((((((w.setCell ⟨b, 0, none⟩ v0).setCell ⟨b, 1, none⟩ v1).setCell ⟨b, 2, none⟩ v2).setCell ⟨b, 3, none⟩ v3).setCell ⟨b, 4, none⟩ v4).setCell ⟨b, 5, none⟩ v5).setCell ⟨b, 6, none⟩ v6).setCell ⟨b, 7, none⟩ v7).setCell ⟨b, 8, none⟩ v8).setCell ⟨b, 9, none⟩ v9).setCell ⟨b, 10, none⟩ v10).setCell ⟨b, 11, none⟩ v11).setCell ⟨b, 12, none⟩ v12).setCell ⟨b, 13, none⟩ v13).heap[b]? = some (.cells #[v0, v1, v2, v3, v4, v5, v6, v7, v8, v9, v10, v11, v12, v13, a14] t (0, 0)) := heap_setCell_same _ b 13 _ _ v13 h12
  have h14 : (((((((((((((((w.setCell ⟨b, 0, none⟩ v0).setCell ⟨b, 1, none⟩ v1).setCell ⟨b, 2, none⟩ v2).setCell ⟨b, 3, none⟩ v3).setCell ⟨b, 4, none⟩ v4).setCell ⟨b, 5, none⟩ v5).setCell ⟨b, 6, none⟩ v6).setCell ⟨b, 7, none⟩ v7).setCell ⟨b, 8, none⟩ v8).setCell ⟨b, 9, none⟩ v9).setCell ⟨b, 10, none⟩ v10).setCell ⟨b, 11, none⟩ v11).setCell ⟨b, 12, none⟩ v12).setCell ⟨b, 13, none⟩ v13).setCell ⟨b, 14, none⟩ v14).heap[b]? = some (.cells #[v0, v1, v2, v3, v4, v5, v6, v7, v8, v9, v10, v11, v12, v13, v14] t (0, 0)) := heap_setCell_same _ b 14 _ _ v14 h13
  exact h14
theorem cells15 {w : World} {b : Nat} {a0 a1 a2 a3 a4 a5 a6 a7 a8 a9 a10 a11 a12 a13 a14 : Value} {t : TypeId} (h : w.heap[b]? = some (.cells #[a0, a1, a2, a3, a4, a5, a6, a7, a8, a9, a10, a11, a12, a13, a14] t (0, 0))) : w.cell? ⟨b, 0, none⟩ = some a0 ∧ w.cell? ⟨b, 1, none⟩ = some a1 ∧ w.cell? ⟨b, 2, none⟩ = some a2 ∧ w.cell? ⟨b, 3, none⟩ = some a3 ∧ w.cell? ⟨b, 4, none⟩ = some a4 ∧ w.cell? ⟨b, 5, none⟩ = some a5 ∧ w.cell? ⟨b, 6, none⟩ = some a6 ∧ w.cell? ⟨b, 7, none⟩ = some a7 ∧ w.cell? ⟨b, 8, none⟩ = some a8 ∧ w.cell? ⟨b, 9, none⟩ = some a9 ∧ w.cell? ⟨b, 10, none⟩ = some a10 ∧ w.cell? ⟨b, 11, none⟩ = some a11 ∧ w.cell? ⟨b, 12, none⟩ = some a12 ∧ w.cell? ⟨b, 13, none⟩ = some a13 ∧ w.cell? ⟨b, 14, none⟩ = some a14 ∧ ∀ i, w.frozen? ⟨b, i, none⟩ = false :=
  ⟨(cell_of_row _ _ _ _ _ _ h).trans rfl, (cell_of_row _ _ _ _ _ _ h).trans rfl, (cell_of_row _ _ _ _ _ _ h).trans rfl, (cell_of_row _ _ _ _ _ _ h).trans rfl, (cell_of_row _ _ _ _ _ _ h).trans rfl, (cell_of_row _ _ _ _ _ _ h).trans rfl, (cell_of_row _ _ _ _ _ _ h).trans rfl, (cell_of_row _ _ _ _ _ _ h).trans rfl, (cell_of_row _ _ _ _ _ _ h).trans rfl, (cell_of_row _ _ _ _ _ _ h).trans rfl, (cell_of_row _ _ _ _ _ _ h).trans rfl, (cell_of_row _ _ _ _ _ _ h).trans rfl, (cell_of_row _ _ _ _ _ _ h).trans rfl, (cell_of_row _ _ _ _ _ _ h).trans rfl, (cell_of_row _ _ _ _ _ _ h).trans rfl, fun i => frozen_of_row _ _ _ _ _ h⟩
theorem new_turn15 {bp a : Nat} {w w1 : World} {v0 v1 v2 v3 v4 v5 v6 v7 v8 v9 v10 v11 v12 v13 v14 : Value} (h : Turn (fun k => k = bp) w w1) (ha : w.heap.size ≤ a) : Turn (fun k => k = bp) w (put15 w1 a v0 v1 v2 v3 v4 v5 v6 v7 v8 v9 v10 v11 v12 v13 v14) := h.trans (put15_turn w1 a _ _ _ _ _ _ _ _ _ _ _ _ _ _ _) (fun i hi e => by omega)
/-- A function, of new memory. -/
def PDec (base : Nat) (w : World) (v : Value) (i : DeD) : Prop := ∃ z : List Value, v = .agg z.toArray ∧ DeG w (fun j => base ≤ j) z i
set_option maxRecDepth 100000 in
set_option maxHeartbeats 16000000 in
theorem decl_any (w : World) (bp B : Nat) (ts : List TokD) (h : TkAt w bp B ts 0) : Calls Tryz.prog 78 #[.pointer (some ⟨bp, 0, none⟩)] w (ReadsP (PDec w.heap.size) bp B 0 w (declP ts)) := by
  have hlt := h.lt
  have hB := h.1
  obtain ⟨Q, hQ⟩ : ∃ Q, declP ts = Q := ⟨_, rfl⟩
  rw [hQ]
  have HQ : Hid (thenP (hasP [101, 120, 112, 111, 114, 116]) (fun b => thenP hereP fun h => thenP (wantP [102, 110]) fun _ => thenP nameP fun s => thenP varsP fun v => thenP (headP (levP 100).typ [anyT]) fun p => thenP (wantP [61]) fun _ => thenP (levP 100).expr fun x => thenP (wantP [59]) fun _ => retP (⟨s, b, v, p.1, p.2, x, h.line, h.col⟩ : DeD)) ts = Q) := hid hQ
  have HH := hid (has_any (w.alloc (.cells #[.string ⟨#[]⟩, .bool false, .slice none 0 0, .string ⟨#[]⟩, .slice none 0 0, .int .i64 0, .string ⟨#[]⟩, .int .i64 0, .int .i64 0, .int .i64 0, .slice none 0 0, .slice none 0 0, .slice none 0 0, .int .i64 0, .int .i64 0] 51)) bp B ts 0 (h.below (new1 _ _)) [101, 120, 112, 111, 114, 116])
  clear h hQ
  go_enter Tryz.func78, Tryz.ntmps78
  go_wp2_with fail
  refine (HH.out).mono ?_
  rintro e w1 h1
  rcases hq : hasP [101, 120, 112, 111, 114, 116] ts with g | ⟨b, r1⟩
  · exact (hasP_bad hq).elim
  · obtain ⟨v1, rfl, tn, rfl, kn⟩ := h1.good_ hq
    obtain ⟨tm, hs1, hrs⟩ := after1 tn
    have HT1 := hid (turn_bp tm (Turn.alloc (fun k => k = bp) w1 (.cells #[.string ⟨#[]⟩, .bool b, .slice none 0 0, .string ⟨#[]⟩, .slice none 0 0, .int .i64 0, .string ⟨#[]⟩, .int .i64 0, .int .i64 0, .int .i64 0, .slice none 0 0, .slice none 0 0, .slice none 0 0, .int .i64 0, .int .i64 0] 51)))
    have HRS1 := hid (keep_alloc (o' := (.cells #[.string ⟨#[]⟩, .bool b, .slice none 0 0, .string ⟨#[]⟩, .slice none 0 0, .int .i64 0, .string ⟨#[]⟩, .int .i64 0, .int .i64 0, .int .i64 0, .slice none 0 0, .slice none 0 0, .slice none 0 0, .int .i64 0, .int .i64 0] 51)) (hrs (by omega)))
    obtain ⟨W1, hW1⟩ : ∃ W1, w1.alloc (.cells #[.string ⟨#[]⟩, .bool b, .slice none 0 0, .string ⟨#[]⟩, .slice none 0 0, .int .i64 0, .string ⟨#[]⟩, .int .i64 0, .int .i64 0, .int .i64 0, .slice none 0 0, .slice none 0 0, .slice none 0 0, .int .i64 0, .int .i64 0] 51) = W1 := ⟨_, rfl⟩
    have hsW : W1.heap.size = w1.heap.size + 1 := by rw [← hW1]; simp
    have HDB1 := hid (at1 w1 (.cells #[.string ⟨#[]⟩, .bool b, .slice none 0 0, .string ⟨#[]⟩, .slice none 0 0, .int .i64 0, .string ⟨#[]⟩, .int .i64 0, .int .i64 0, .int .i64 0, .slice none 0 0, .slice none 0 0, .slice none 0 0, .int .i64 0, .int .i64 0] 51))
    have HK1 := hid (kn.below (new1 w1 (.cells #[.string ⟨#[]⟩, .bool b, .slice none 0 0, .string ⟨#[]⟩, .slice none 0 0, .int .i64 0, .string ⟨#[]⟩, .int .i64 0, .int .i64 0, .int .i64 0, .slice none 0 0, .slice none 0 0, .slice none 0 0, .int .i64 0, .int .i64 0] 51)))
    rw [hW1] at HT1 HRS1 HDB1 HK1
    obtain ⟨t0, ht0⟩ : ∃ t0, nextP r1 = t0 := ⟨_, rfl⟩
    have HQ1 : Hid (thenP (wantP [102, 110]) (fun _ => thenP nameP fun s => thenP varsP fun v => thenP (headP (levP 100).typ [anyT]) fun p => thenP (wantP [61]) fun _ => thenP (levP 100).expr fun x => thenP (wantP [59]) fun _ => retP (⟨s, b, v, p.1, p.2, x, t0.line, t0.col⟩ : DeD)) r1 = Q) := hid (by subst ht0; exact (thenP_good hq).symm.trans HQ.out)
    have HNX := hid (fun (w' : World) (h : TkAt w' bp B r1 0) => nxt_any w' bp B r1 0 h)
    rw [ht0] at HNX
    have HDB : Hid (Turn (fun j => j = bp) W1 W1.drew) := hid ⟨rfl, rfl, rfl, Nat.le_refl _, fun _ _ _ => rfl⟩
    have HD0 := hid (HDB.out.mono (G := fun j => j = bp ∨ j = w1.heap.size) (fun _ _ h => .inl h))
    have HW1 := hid hW1
    have hrb : w.heap.size < w1.heap.size := by omega
    clear h1 tn tm kn hrs hq ht0 hW1
    unfold tokG at HNX
    have hfl : ∀ w : World, (Instr.field 70 (.agg #[.int .i64 t0.kind, sv t0.text, .int .i64 (t0.line : Nat), .int .i64 (t0.col : Nat)]) 2).run Tryz.prog w = .ok (.int .i64 (t0.line : Nat)) w := fun _ => rfl
    have hfc : ∀ w : World, (Instr.field 70 (.agg #[.int .i64 t0.kind, sv t0.text, .int .i64 (t0.line : Nat), .int .i64 (t0.col : Nat)]) 3).run Tryz.prog w = .ok (.int .i64 (t0.col : Nat)) w := fun _ => rfl
    go_wp2_with fail
    rw [HW1.out]
    refine region_x (S := fun w' => Turn (fun j => j = bp ∨ j = w1.heap.size) W1 w') (x := 13) (by kernel_rfl) ?_
    try simp only [Act.put, List.getElem_toArray, List.getElem_cons_zero, List.getElem_cons_succ, List.setIfInBounds_toArray, List.set_cons_zero, List.set_cons_succ]
    refine tx 0 (.pointer (some ⟨bp, 0, none⟩)) HD0.out ?_
    refine tx 1 (.pointer (some ⟨bp, 0, none⟩)) HD0.out ?_
    refine tx 2 (.pointer (some ⟨bp, 0, none⟩)) HD0.out ?_
    refine tx 5 (.pointer (some ⟨bp, 0, none⟩)) HD0.out ?_
    refine tx 6 (.pointer (some ⟨bp, 0, none⟩)) HD0.out ?_
    refine tx 7 (.pointer (some ⟨bp, 0, none⟩)) HD0.out ?_
    refine anyX_ready (rs := [3]) (by kernel_rfl) (by simp) ?_
    refine ReadyX.cons rfl (fun K hK => ?_) (ReadyX.nil)
    go_simp
    refine (HNX.out W1.drew HK1.out).mono ?_
    rintro e wa ⟨rfl, hba⟩
    have HTA := hid (turn_bp HDB.out (Turn.of_below (F := fun k => k = bp) hba))
    have HSA := hid (HTA.out.mono (G := fun j => j = bp ∨ j = w1.heap.size) (fun _ _ h => .inl h))
    have HKA := hid (TkAt.below (w := W1.drew) HK1.out hba)
    clear hba
    refine hK.out _ _ HSA.out ?_
    clear hK K
    try simp only [Act.put, List.getElem_toArray, List.getElem_cons_zero, List.getElem_cons_succ, List.setIfInBounds_toArray, List.set_cons_zero, List.set_cons_succ]
    refine tt 4 (.int .i64 (t0.line : Nat)) (fun _ => HSA.out) ?_
    refine tt 10 (.pointer (some ⟨w1.heap.size, 13, none⟩)) (fun _ => HSA.out) ?_
    refine anyX_ready (rs := [8]) (by kernel_rfl) (by simp) ?_
    refine ReadyX.cons rfl (fun K hK => ?_) (ReadyX.nil)
    go_simp
    refine (HNX.out wa HKA.out).mono ?_
    rintro e wb ⟨rfl, hbb⟩
    have HTB := hid (turn_bp HTA.out (Turn.of_below (F := fun k => k = bp) hbb))
    have HSB := hid (HTB.out.mono (G := fun j => j = bp ∨ j = w1.heap.size) (fun _ _ h => .inl h))
    have HKB := hid (HKA.out.below hbb)
    have hdb := block_turn HDB1.out HTB.out (by omega)
    have t3 := turn_set wb w1.heap.size 13 (.int .i64 (t0.line : Nat))
    have HSC := hid (HSB.out.trans t3 (fun _ _ h => .inr h))
    have t4 := t3.trans (turn_set _ w1.heap.size 14 (.int .i64 (t0.col : Nat))) (fun _ _ h => h)
    obtain ⟨m0, m1, m2, m3, m4, m5, m6, m7, m8, m9, m10, m11, m12, m13, m14, mz⟩ := cells15 hdb
    clear hbb m0 m1 m2 m3 m4 m5 m6 m7 m8 m9 m10 m11 m12
    refine hK.out _ _ HSB.out ?_
    clear hK K
    try simp only [Act.put, List.getElem_toArray, List.getElem_cons_zero, List.getElem_cons_succ, List.setIfInBounds_toArray, List.set_cons_zero, List.set_cons_succ]
    refine tt 9 (.int .i64 (t0.col : Nat)) (fun _ => HSB.out) ?_
    refine anyX_ready (rs := [11]) (by kernel_rfl) (by simp) ?_
    refine ReadyX.cons rfl (fun K hK => ?_) (ReadyX.nil)
    go_simp
    refine hK.out _ _ HSC.out ?_
    clear hK K
    try simp only [Act.put, List.getElem_toArray, List.getElem_cons_zero, List.getElem_cons_succ, List.setIfInBounds_toArray, List.set_cons_zero, List.set_cons_succ]
    refine tt 12 (.pointer (some ⟨w1.heap.size, 14, none⟩)) (fun _ => HSC.out) ?_
    refine anyX_ready (rs := [13]) (by kernel_rfl) (by simp) ?_
    refine ReadyX.past rfl (by kernel_rfl) (fun K hK => ?_) (ReadyX.nil)
    go_simp
    refine hK.out _ _ ?_
    clear hK K
    try simp only [Act.put, List.getElem_toArray, List.getElem_cons_zero, List.getElem_cons_succ, List.setIfInBounds_toArray, List.set_cons_zero, List.set_cons_succ]
    refine anyX_done (by kernel_rfl) ?_ _
    have HDB3 := hid (show ((wb.setCell ⟨w1.heap.size, 13, none⟩ (.int .i64 (t0.line : Nat))).setCell ⟨w1.heap.size, 14, none⟩ (.int .i64 (t0.col : Nat))).heap[w1.heap.size]? = some (.cells #[.string ⟨#[]⟩, .bool b, .slice none 0 0, .string ⟨#[]⟩, .slice none 0 0, .int .i64 0, .string ⟨#[]⟩, .int .i64 0, .int .i64 0, .int .i64 0, .slice none 0 0, .slice none 0 0, .slice none 0 0, .int .i64 (t0.line : Nat), .int .i64 (t0.col : Nat)] 51 (0, 0)) from heap_setCell_same _ _ 14 _ _ (.int .i64 (t0.col : Nat)) (heap_setCell_same _ _ 13 _ _ (.int .i64 (t0.line : Nat)) hdb))
    have HK3 := hid (HKB.out.turn t4 (by omega) (fun k hk e => by omega))
    have HT3 := hid ((turn_bp HT1.out HTB.out).trans t4 (fun i hi e => by omega))
    have HRS3 := hid (block_turn (block_turn HRS1.out HTB.out (by omega)) t4 (by omega))
    have hs3 := HTB.out.size
    have HN := hid (want_lit ((wb.setCell ⟨w1.heap.size, 13, none⟩ (.int .i64 (t0.line : Nat))).setCell ⟨w1.heap.size, 14, none⟩ (.int .i64 (t0.col : Nat))) bp B r1 0 HK3.out [102, 110] 9 wb.heap.size)
    clear hdb t3 t4
    go_wp2_with fail
    refine (HN.out).mono ?_
    rintro e w4 h5
    rcases hq : wantP [102, 110] r1 with g | ⟨u, r4⟩
    · obtain ⟨rfl, tn, bn⟩ := h5.bad_ hq
      have HB := hid (BadP.mk2 (turn_bp HT3.out tn) bn)
      have HQB := hid (HQ1.out.symm.trans (thenP_bad hq))
      clear h5 tn bn hq
      go_wp2_with fail
      exact ⟨rfl, ReadsP.fail HQB.out HB.out⟩
    · obtain ⟨v4, rfl, tn, -, kn⟩ := h5.good_ hq
      have hs4 := tn.size
      simp at hs4
      have HT4 := hid (turn_bp HT3.out tn)
      have HK4 := hid kn
      have HDB4 := hid (block_turn HDB3.out tn (by omega))
      have HRS4 := hid (block_turn HRS3.out tn (by omega))
      have HQ4 : Hid (thenP nameP (fun s => thenP varsP fun v => thenP (headP (levP 100).typ [anyT]) fun p => thenP (wantP [61]) fun _ => thenP (levP 100).expr fun x => thenP (wantP [59]) fun _ => retP (⟨s, b, v, p.1, p.2, x, t0.line, t0.col⟩ : DeD)) r4 = Q) := hid ((thenP_good hq).symm.trans HQ1.out)
      have HP := hid (pname_any w4 bp B r4 0 kn)
      clear h5 tn kn hq m13 m14 mz
      go_wp2_with fail
      refine (HP.out).mono ?_
      rintro e w5 h5
      rcases hq : nameP r4 with g | ⟨s, r5⟩
      · obtain ⟨rfl, tn, bn⟩ := h5.bad_ hq
        have HB := hid (BadP.mk2 (turn_bp HT4.out tn) bn)
        have HQB := hid (HQ4.out.symm.trans (thenP_bad hq))
        clear h5 tn bn hq
        go_wp2_with fail
        exact ⟨rfl, ReadsP.fail HQB.out HB.out⟩
      · obtain ⟨v5, rfl, tn, rfl, kn⟩ := h5.good_ hq
        have hs5 := tn.size
        have HT5 := hid (turn_bp HT4.out tn)
        have HDB5 := hid (block_turn HDB4.out tn (by omega))
        have HRS5 := hid (block_turn HRS4.out tn (by omega))
        have HQ5 : Hid (thenP varsP (fun v => thenP (headP (levP 100).typ [anyT]) fun p => thenP (wantP [61]) fun _ => thenP (levP 100).expr fun x => thenP (wantP [59]) fun _ => retP (⟨s, b, v, p.1, p.2, x, t0.line, t0.col⟩ : DeD)) r5 = Q) := hid ((thenP_good hq).symm.trans HQ4.out)
        have HP5 := hid (pvars_any w5 bp B r5 kn)
        clear h5 tn kn hq
        go_wp2_with fail
        refine (HP5.out).mono ?_
        rintro e w6 h5
        rcases hq : varsP r5 with g | ⟨v, r6⟩
        · obtain ⟨rfl, tn, bn⟩ := h5.bad_ hq
          have HB := hid (BadP.mk2 (turn_bp HT5.out tn) bn)
          have HQB := hid (HQ5.out.symm.trans (thenP_bad hq))
          clear h5 tn bn hq
          go_wp2_with fail
          exact ⟨rfl, ReadsP.fail HQB.out HB.out⟩
        · obtain ⟨v6, rfl, tn, ⟨xs, hv1, hv2⟩, kn⟩ := h5.good_ hq
          have hv1' := hv1
          obtain ⟨A6, n6, c6, rfl, _⟩ := hv1'
          have hs6 := tn.size
          have hdb := block_turn HDB5.out tn (by omega)
          have t7 := (turn_set w6 w1.heap.size 0 (sv s)).trans (turn_set _ w1.heap.size 2 (.slice A6 n6 c6)) (fun _ _ h => h)
          have HDB7 := hid (show ((w6.setCell ⟨w1.heap.size, 0, none⟩ (sv s)).setCell ⟨w1.heap.size, 2, none⟩ (.slice A6 n6 c6)).heap[w1.heap.size]? = some (.cells #[sv s, .bool b, .slice A6 n6 c6, .string ⟨#[]⟩, .slice none 0 0, .int .i64 0, .string ⟨#[]⟩, .int .i64 0, .int .i64 0, .int .i64 0, .slice none 0 0, .slice none 0 0, .slice none 0 0, .int .i64 (t0.line : Nat), .int .i64 (t0.col : Nat)] 51 (0, 0)) from heap_setCell_same _ _ 2 _ _ (.slice A6 n6 c6) (heap_setCell_same _ _ 0 _ _ (sv s) hdb))
          have HK7 := hid (kn.turn t7 (by omega) (fun k hk e => by omega))
          have HT7 := hid ((turn_bp HT5.out tn).trans t7 (fun i hi e => by omega))
          have HRS7 := hid (block_turn (block_turn HRS5.out tn (by omega)) t7 (by omega))
          have HV1 := hid (hv1.turn t7 (fun g _ h e => by omega))
          have HV2 := hid (row_turn foot_va t7 (fun g _ h e => by omega) hv2)
          have hsz7 : ((w6.setCell ⟨w1.heap.size, 0, none⟩ (sv s)).setCell ⟨w1.heap.size, 2, none⟩ (.slice A6 n6 c6)).heap.size = w6.heap.size := by simp
          have HQ7 : Hid (thenP (headP (levP 100).typ [anyT]) (fun p => thenP (wantP [61]) fun _ => thenP (levP 100).expr fun x => thenP (wantP [59]) fun _ => retP (⟨s, b, v, p.1, p.2, x, t0.line, t0.col⟩ : DeD)) r6 = Q) := hid ((thenP_good hq).symm.trans HQ5.out)
          have hm := slG_new ((w6.setCell ⟨w1.heap.size, 0, none⟩ (sv s)).setCell ⟨w1.heap.size, 2, none⟩ (.slice A6 n6 c6)) #[.int .i64 0, .string ⟨#[]⟩, .slice none 0 0, .slice none 0 0] 63 4 1 rfl (by decide)
          rw [hsz7] at hm
          have HP7 := hid (head_any 0 (levP 100).typ (typ_all 100 (Nat.le_refl _)) (Sf.lev 100).1 (((w6.setCell ⟨w1.heap.size, 0, none⟩ (sv s)).setCell ⟨w1.heap.size, 2, none⟩ (.slice A6 n6 c6)).alloc (.cells #[.int .i64 0, .string ⟨#[]⟩, .slice none 0 0, .slice none 0 0] 63)) bp B r6 (HK7.out.below (new1 _ _)) (.slice (some ⟨w6.heap.size, 0, none⟩) 1 1) [anyT] _ (hm.mono (fun g _ h => by omega)) (fun w F => trow1 rfl (ty_plain w F 0 [])) (by simp))
          obtain ⟨m0, m1, m2, m3, m4, m5, m6, m7, m8, m9, m10, m11, m12, m13, m14, mz⟩ := cells15 hdb
          clear h5 tn kn hq hv1 hv2 hdb t7 hm m1 m3 m4 m5 m6 m7 m8 m9 m10 m11 m12 m13 m14
          go_wp2_with fail
          refine (HP7.out).mono ?_
          rintro e w8 h5
          rcases hq : headP (levP 100).typ [anyT] r6 with g | ⟨p, r8⟩
          · obtain ⟨rfl, tn, bn⟩ := h5.bad_ hq
            have tn := (after1 tn).1
            have HB := hid (BadP.mk2 (turn_bp HT7.out tn) bn)
            have HQB := hid (HQ7.out.symm.trans (thenP_bad hq))
            clear h5 tn bn hq
            go_wp2_with fail
            exact ⟨rfl, ReadsP.fail HQB.out HB.out⟩
          · obtain ⟨v8, rfl, tn, ⟨u, rfl, hr8⟩, kn⟩ := h5.good_ hq
            obtain ⟨A8, c8, rfl, _, _⟩ := hr8.shape
            have tm := (after1 tn).1
            have hs8 := tn.size
            simp at hs8
            have hdb := block_turn HDB7.out tm (by omega)
            have t9 := (turn_set w8 w1.heap.size 3 (sv p.1)).trans (turn_set _ w1.heap.size 4 (.slice A8 p.2.length c8)) (fun _ _ h => h)
            have HDB9 := hid (show ((w8.setCell ⟨w1.heap.size, 3, none⟩ (sv p.1)).setCell ⟨w1.heap.size, 4, none⟩ (.slice A8 p.2.length c8)).heap[w1.heap.size]? = some (.cells #[sv s, .bool b, .slice A6 n6 c6, sv p.1, .slice A8 p.2.length c8, .int .i64 0, .string ⟨#[]⟩, .int .i64 0, .int .i64 0, .int .i64 0, .slice none 0 0, .slice none 0 0, .slice none 0 0, .int .i64 (t0.line : Nat), .int .i64 (t0.col : Nat)] 51 (0, 0)) from heap_setCell_same _ _ 4 _ _ (.slice A8 p.2.length c8) (heap_setCell_same _ _ 3 _ _ (sv p.1) hdb))
            have HK9 := hid (kn.turn t9 (by omega) (fun k hk e => by omega))
            have HT9 := hid ((turn_bp HT7.out tm).trans t9 (fun i hi e => by omega))
            have HRS9 := hid (block_turn (block_turn HRS7.out tm (by omega)) t9 (by omega))
            have HV19 := hid ((HV1.out.turn tm (fun g _ h e => by omega)).turn t9 (fun g _ h e => by omega))
            have HV29 := hid (row_turn foot_va t9 (fun g _ h e => by omega) (row_turn foot_va tm (fun g _ h e => by omega) HV2.out))
            rw [show (((w6.setCell ⟨w1.heap.size, 0, none⟩ (sv s)).setCell ⟨w1.heap.size, 2, none⟩ (.slice A6 n6 c6)).alloc (.cells #[.int .i64 0, .string ⟨#[]⟩, .slice none 0 0, .slice none 0 0] 63)).heap.size = w6.heap.size + 1 by simp] at hr8
            obtain ⟨ys, y1, y2⟩ := hr8.sl foot_ty
            have HY1 := hid ((y1.turn t9 (fun g _ h e => by rcases h with h | h <;> omega)).mono (G := fun j => w6.heap.size ≤ j) (fun g _ h => by rcases h with h | h <;> omega))
            have HY2 := hid (row_mono foot_ty (G := fun j => w6.heap.size ≤ j) (fun g _ h => by rcases h with h | h <;> omega) (row_turn foot_ty t9 (fun g _ h e => by rcases h with h | h <;> omega) y2))
            have HQ9 : Hid (thenP (wantP [61]) (fun _ => thenP (levP 100).expr fun x => thenP (wantP [59]) fun _ => retP (⟨s, b, v, p.1, p.2, x, t0.line, t0.col⟩ : DeD)) r8 = Q) := hid ((thenP_good hq).symm.trans HQ7.out)
            have HN9 := hid (want_lit ((w8.setCell ⟨w1.heap.size, 3, none⟩ (sv p.1)).setCell ⟨w1.heap.size, 4, none⟩ (.slice A8 p.2.length c8)) bp B r8 0 HK9.out [61] 9 w8.heap.size)
            clear m0 m2 mz
            obtain ⟨m0, m1, m2, m3, m4, m5, m6, m7, m8, m9, m10, m11, m12, m13, m14, mz⟩ := cells15 hdb
            clear h5 tn tm kn hq hr8 y1 y2 hdb t9 m0 m1 m2 m5 m6 m7 m8 m9 m10 m11 m12 m13 m14
            go_wp2_with fail
            refine (HN9.out).mono ?_
            rintro e w10 h5
            rcases hq : wantP [61] r8 with g | ⟨u, r10⟩
            · obtain ⟨rfl, tn, bn⟩ := h5.bad_ hq
              have HB := hid (BadP.mk2 (turn_bp HT9.out tn) bn)
              have HQB := hid (HQ9.out.symm.trans (thenP_bad hq))
              clear h5 tn bn hq
              go_wp2_with fail
              exact ⟨rfl, ReadsP.fail HQB.out HB.out⟩
            · obtain ⟨v10, rfl, tn, -, kn⟩ := h5.good_ hq
              have hs10 := tn.size
              simp at hs10
              have HT10 := hid (turn_bp HT9.out tn)
              have HDB10 := hid (block_turn HDB9.out tn (by omega))
              have HRS10 := hid (block_turn HRS9.out tn (by omega))
              have HV10 := hid (HV19.out.turn tn (fun g _ h e => by omega))
              have HV20 := hid (row_turn foot_va tn (fun g _ h e => by omega) HV29.out)
              have HY10 := hid (HY1.out.turn tn (fun g _ h e => by omega))
              have HY20 := hid (row_turn foot_ty tn (fun g _ h e => by omega) HY2.out)
              have HQ10 : Hid (thenP (levP 100).expr (fun x => thenP (wantP [59]) fun _ => retP (⟨s, b, v, p.1, p.2, x, t0.line, t0.col⟩ : DeD)) r10 = Q) := hid ((thenP_good hq).symm.trans HQ9.out)
              have HP10 := hid (expr_any w10 bp B r10 kn)
              clear h5 tn kn hq m3 m4 mz
              go_wp2_with fail
              refine (HP10.out).mono ?_
              rintro e w11 h5
              rcases hq : (levP 100).expr r10 with g | ⟨x, r11⟩
              · obtain ⟨rfl, tn, bn⟩ := h5.bad_ hq
                have HB := hid (BadP.mk2 (turn_bp HT10.out tn) bn)
                have HQB := hid (HQ10.out.symm.trans (thenP_bad hq))
                clear h5 tn bn hq
                go_wp2_with fail
                exact ⟨rfl, ReadsP.fail HQB.out HB.out⟩
              · obtain ⟨v11, rfl, tn, ⟨z, rfl, hz⟩, kn⟩ := h5.good_ hq
                obtain ⟨kz, sz, nz, lz, oz, Az1, nz1, cz1, Az2, nz2, cz2, Az3, nz3, cz3, rfl⟩ := hz.shape'
                have hs11 := tn.size
                have hdb := block_turn HDB10.out tn (by omega)
                have t12 := (((((((turn_set w11 w1.heap.size 5 (.int .i64 kz)).trans (turn_set _ w1.heap.size 6 (sv sz)) (fun _ _ h => h)).trans (turn_set _ w1.heap.size 7 (.int .i64 nz)) (fun _ _ h => h)).trans (turn_set _ w1.heap.size 8 (.int .i64 lz)) (fun _ _ h => h)).trans (turn_set _ w1.heap.size 9 (.int .i64 oz)) (fun _ _ h => h)).trans (turn_set _ w1.heap.size 10 (.slice Az1 nz1 cz1)) (fun _ _ h => h)).trans (turn_set _ w1.heap.size 11 (.slice Az2 nz2 cz2)) (fun _ _ h => h)).trans (turn_set _ w1.heap.size 12 (.slice Az3 nz3 cz3)) (fun _ _ h => h)
                have HDB12 := hid (show ((((((((w11.setCell ⟨w1.heap.size, 5, none⟩ (.int .i64 kz)).setCell ⟨w1.heap.size, 6, none⟩ (sv sz)).setCell ⟨w1.heap.size, 7, none⟩ (.int .i64 nz)).setCell ⟨w1.heap.size, 8, none⟩ (.int .i64 lz)).setCell ⟨w1.heap.size, 9, none⟩ (.int .i64 oz)).setCell ⟨w1.heap.size, 10, none⟩ (.slice Az1 nz1 cz1)).setCell ⟨w1.heap.size, 11, none⟩ (.slice Az2 nz2 cz2)).setCell ⟨w1.heap.size, 12, none⟩ (.slice Az3 nz3 cz3)).heap[w1.heap.size]? = some (.cells #[sv s, .bool b, .slice A6 n6 c6, sv p.1, .slice A8 p.2.length c8, .int .i64 kz, sv sz, .int .i64 nz, .int .i64 lz, .int .i64 oz, .slice Az1 nz1 cz1, .slice Az2 nz2 cz2, .slice Az3 nz3 cz3, .int .i64 (t0.line : Nat), .int .i64 (t0.col : Nat)] 51 (0, 0)) from (heap_setCell_same _ _ 12 _ _ (.slice Az3 nz3 cz3) (heap_setCell_same _ _ 11 _ _ (.slice Az2 nz2 cz2) (heap_setCell_same _ _ 10 _ _ (.slice Az1 nz1 cz1) (heap_setCell_same _ _ 9 _ _ (.int .i64 oz) (heap_setCell_same _ _ 8 _ _ (.int .i64 lz) (heap_setCell_same _ _ 7 _ _ (.int .i64 nz) (heap_setCell_same _ _ 6 _ _ (sv sz) (heap_setCell_same _ _ 5 _ _ (.int .i64 kz) hdb)))))))))
                have HK12 := hid (kn.turn t12 (by omega) (fun k hk e => by omega))
                have HT12 := hid ((turn_bp HT10.out tn).trans t12 (fun i hi e => by omega))
                have HRS12 := hid (block_turn (block_turn HRS10.out tn (by omega)) t12 (by omega))
                have HV1a := hid (HV10.out.turn tn (fun g _ h e => by omega))
                have HV2a := hid (row_turn foot_va tn (fun g _ h e => by omega) HV20.out)
                have HY1a := hid (HY10.out.turn tn (fun g _ h e => by omega))
                have HY2a := hid (row_turn foot_ty tn (fun g _ h e => by omega) HY20.out)
                have HV1b := hid (HV1a.out.turn t12 (fun g _ h e => by omega))
                have HV2b := hid (row_turn foot_va t12 (fun g _ h e => by omega) HV2a.out)
                have HY1b := hid (HY1a.out.turn t12 (fun g _ h e => by omega))
                have HY2b := hid (row_turn foot_ty t12 (fun g _ h e => by omega) HY2a.out)
                have HZ12 := hid (hz.turn t12 (fun g _ h e => by omega))
                have HQ12 : Hid (thenP (wantP [59]) (fun _ => retP (⟨s, b, v, p.1, p.2, x, t0.line, t0.col⟩ : DeD)) r11 = Q) := hid ((thenP_good hq).symm.trans HQ10.out)
                have HN12 := hid (want_lit ((((((((w11.setCell ⟨w1.heap.size, 5, none⟩ (.int .i64 kz)).setCell ⟨w1.heap.size, 6, none⟩ (sv sz)).setCell ⟨w1.heap.size, 7, none⟩ (.int .i64 nz)).setCell ⟨w1.heap.size, 8, none⟩ (.int .i64 lz)).setCell ⟨w1.heap.size, 9, none⟩ (.int .i64 oz)).setCell ⟨w1.heap.size, 10, none⟩ (.slice Az1 nz1 cz1)).setCell ⟨w1.heap.size, 11, none⟩ (.slice Az2 nz2 cz2)).setCell ⟨w1.heap.size, 12, none⟩ (.slice Az3 nz3 cz3)) bp B r11 0 HK12.out [59] 9 w11.heap.size)
                obtain ⟨m0, m1, m2, m3, m4, m5, m6, m7, m8, m9, m10, m11, m12, m13, m14, mz⟩ := cells15 hdb
                clear h5 tn kn hq hz hdb t12 m0 m1 m2 m3 m4 m13 m14
                go_wp2_with fail
                refine (HN12.out).mono ?_
                rintro e w13 h5
                rcases hq : wantP [59] r11 with g | ⟨u, r13⟩
                · obtain ⟨rfl, tn, bn⟩ := h5.bad_ hq
                  have HB := hid (BadP.mk2 (turn_bp HT12.out tn) bn)
                  have HQB := hid (HQ12.out.symm.trans (thenP_bad hq))
                  clear h5 tn bn hq
                  go_wp2_with fail
                  exact ⟨rfl, ReadsP.fail HQB.out HB.out⟩
                · obtain ⟨v13, rfl, tn, -, kn⟩ := h5.good_ hq
                  have hs13 := tn.size
                  simp at hs13
                  have HT13 := hid (turn_bp HT12.out tn)
                  have HK13 := hid kn
                  have hdb := block_turn HDB12.out tn (by omega)
                  have HRS13 := hid (block_turn HRS12.out tn (by omega))
                  have HV1c := hid (HV1b.out.turn tn (fun g _ h e => by omega))
                  have HV2c := hid (row_turn foot_va tn (fun g _ h e => by omega) HV2b.out)
                  have HY1c := hid (HY1b.out.turn tn (fun g _ h e => by omega))
                  have HY2c := hid (row_turn foot_ty tn (fun g _ h e => by omega) HY2b.out)
                  have HZ13 := hid (HZ12.out.turn tn (fun g _ h e => by omega))
                  have HQ13 : Hid (Pr.good (⟨s, b, v, p.1, p.2, x, t0.line, t0.col⟩ : DeD) r13 = Q) := hid ((thenP_good hq).symm.trans HQ12.out)
                  clear m5 m6 m7 m8 m9 m10 m11 m12 mz
                  obtain ⟨m0, m1, m2, m3, m4, m5, m6, m7, m8, m9, m10, m11, m12, m13, m14, mz⟩ := cells15 hdb
                  obtain ⟨f0, f1, f2, f3, f4, f5, f6, f7, f8, f9, f10, f11, f12, f13, f14, fz⟩ := cells15 HRS13.out
                  have hne1 : ¬ w1.heap.size = w.heap.size := by omega
                  have hne2 : ¬ w.heap.size = w1.heap.size := by omega
                  clear h5 tn kn hq hdb
                  go_wp2_with fail
                  have tF := put15_turn w13 w.heap.size (sv s) (.bool b) (.slice A6 n6 c6) (sv p.1) (.slice A8 p.2.length c8) (.int .i64 kz) (sv sz) (.int .i64 nz) (.int .i64 lz) (.int .i64 oz) (.slice Az1 nz1 cz1) (.slice Az2 nz2 cz2) (.slice Az3 nz3 cz3) (.int .i64 (t0.line : Nat)) (.int .i64 (t0.col : Nat))
                  refine bodyPost_ret (res_cell rfl rfl (put15_block HRS13.out _ _ _ _ _ _ _ _ _ _ _ _ _ _ _) Tryz.underlying51 rfl (by kernel_rfl)) rfl ?_
                  exact ReadsP.done HQ13.out.symm (new_turn15 HT13.out (by omega)) ⟨_, rfl, _, _, _, _, _, rfl, (HV1c.out.turn tF (fun g _ h e => by omega)).mono (fun g _ h => by omega), row_mono foot_va (fun g _ h => by omega) (row_turn foot_va tF (fun g _ h e => by omega) HV2c.out), (HY1c.out.turn tF (fun g _ h e => by omega)).mono (fun g _ h => by omega), tys_row (row_mono foot_ty (fun g _ h => by omega) (row_turn foot_ty tF (fun g _ h e => by omega) HY2c.out)), (HZ13.out.turn tF (fun g _ h e => by omega)).mono (fun g _ h => by omega)⟩ (HK13.out.turn tF (by omega) (fun k hk e => by omega))
end Go.Proofs.YtmbppnbekkbibaaGreatDoor
end
section
/- The contract of module. -/
set_option linter.unusedVariables false
namespace Go.Proofs.YtmbppnbekkbibaaGreatDoor
open Go.RowKit

theorem cells2 {w : World} {b : Nat} {a0 a1 : Value} {t : TypeId} (h : w.heap[b]? = some (.cells #[a0, a1] t (0, 0))) : w.cell? ⟨b, 0, none⟩ = some a0 ∧ w.cell? ⟨b, 1, none⟩ = some a1 ∧ ∀ i, w.frozen? ⟨b, i, none⟩ = false :=
  ⟨(cell_of_row _ _ _ _ _ _ h).trans rfl, (cell_of_row _ _ _ _ _ _ h).trans rfl, fun i => frozen_of_row _ _ _ _ _ h⟩
theorem el_im : ElemIs Tryz.prog 37 88 (.agg #[.string ⟨#[]⟩, .slice none 0 0, .int .i64 0, .int .i64 0]) 4 56 := ⟨Tryz.underlying37, by kernel_rfl, rfl, by omega⟩
theorem el_de : ElemIs Tryz.prog 38 51 (.agg #[.string ⟨#[]⟩, .bool false, .slice none 0 0, .string ⟨#[]⟩, .slice none 0 0, .int .i64 0, .string ⟨#[]⟩, .int .i64 0, .int .i64 0, .int .i64 0, .slice none 0 0, .slice none 0 0, .slice none 0 0, .int .i64 0, .int .i64 0]) 15 224 := ⟨Tryz.underlying38, by kernel_rfl, rfl, by omega⟩
theorem hasP_le {s : Bt} {ts r : List TokD} {b : Bool} (h : hasP s ts = .good b r) : r.length ≤ ts.length := by
  unfold hasP at h
  split at h
  · injection h with _ h; subst h; simp
  · injection h with _ h; subst h; exact Nat.le_refl _
theorem wantP_less {s : Bt} {ts r : List TokD} {u : Unit} (h : wantP s ts = .good u r) (hw : 1 ≤ ts.length) : r.length < ts.length := by
  unfold wantP at h
  rcases hq : hasP s ts with g | ⟨b, r1⟩
  · exact (hasP_bad hq).elim
  rw [thenP_good hq] at h
  cases b
  · cases h
  · injection h with _ h; subst h; exact hasP_less hq hw
/-- A function takes a token at least. -/
theorem declP_less {ts r : List TokD} {d : DeD} (h : declP ts = .good d r) (hw : Wf ts) : r.length < ts.length := by
  unfold declP at h
  rcases h1 : hasP [101, 120, 112, 111, 114, 116] ts with g | ⟨b, r1⟩
  · exact (hasP_bad h1).elim
  rw [thenP_good h1] at h
  have w1 := ((Sf.has _).good hw h1).1
  have l1 := hasP_le h1
  rw [thenP_good (show hereP r1 = .good (nextP r1) r1 from rfl)] at h
  rcases h2 : wantP [102, 110] r1 with g | ⟨u, r2⟩
  · rw [thenP_bad h2] at h; cases h
  rw [thenP_good h2] at h
  have w2 := ((Sf.want _).good w1 h2).1
  have l2 := wantP_less h2 w1.pos
  have l3 := ((show Sf _ from Sf.then_ Sf.name fun s => Sf.then_ Sf.vars fun v => Sf.then_ (Sf.head (Sf.lev 100).1 [anyT]) fun p => Sf.then_ (Sf.want [61]) fun _ => Sf.then_ (Sf.lev 100).2.1 fun x => Sf.then_ (Sf.want [59]) fun _ => Sf.ret (⟨s, b, v, p.1, p.2, x, (nextP r1).line, (nextP r1).col⟩ : DeD)).good w2 h).2.length_le
  omega
/-- A module, of new memory. -/
def PMod (base : Nat) (w : World) (v : Value) (m : MoD) : Prop := ∃ z : List Value, v = .agg z.toArray ∧ MoG w (fun j => base ≤ j) z m
/-- What module keeps while it reads imports. -/
structure ImpsI (w : World) (bp B tb : Nat) (wr : World) (l : List ImD) (r : List TokD) : Prop where
  turn : Turn (fun k => k = bp) w wr
  tk : TkAt wr bp B r 0
  res : wr.heap[w.heap.size]? = some (.cells #[.slice none 0 0, .slice none 0 0] 40 (0, 0))
  tok : wr.heap[tb]? = some (.cells #[.int .i64 (nextP r).kind, sv (nextP r).text, .int .i64 ((nextP r).line : Nat), .int .i64 ((nextP r).col : Nat)] 70 (0, 0))
  lo : w.heap.size + 2 ≤ tb
  row : ∃ v, wr.heap[w.heap.size + 1]? = some (.cells #[v, .slice none 0 0] 40 (0, 0)) ∧ RowG ImG 4 88 wr (w.heap.size + 2) (fun j => w.heap.size + 2 ≤ j) v l ∧ v.ownBlock ≠ some tb
/-- What it keeps while it reads functions. -/
structure DecsI (w : World) (bp B base : Nat) (vi : Value) (xi : List Value) (li : List ImD) (wr : World) (l : List DeD) (r : List TokD) : Prop where
  turn : Turn (fun k => k = bp) w wr
  tk : TkAt wr bp B r 0
  bs : base ≤ wr.heap.size
  res : wr.heap[w.heap.size]? = some (.cells #[.slice none 0 0, .slice none 0 0] 40 (0, 0))
  sl : SlG wr (Iv (w.heap.size + 2) base) 4 vi xi
  imps : TRow (ImG wr (Iv (w.heap.size + 2) base)) 4 xi li
  row : ∃ v, wr.heap[w.heap.size + 1]? = some (.cells #[vi, v] 40 (0, 0)) ∧ RowG DeG 15 51 wr base (fun j => base ≤ j) v l
set_option maxRecDepth 100000 in
set_option maxHeartbeats 16000000 in
theorem module_any (w : World) (bp B : Nat) (ts : List TokD) (h : TkAt w bp B ts 0) : Calls Tryz.prog 44 #[.pointer (some ⟨bp, 0, none⟩)] w (ReadsP (PMod w.heap.size) bp B 0 w (moduleP ts)) := by
  have hlt := h.lt
  have hB := h.1
  have hlen := h.2.1.1
  obtain ⟨Q, hQ⟩ : ∃ Q, moduleP ts = Q := ⟨_, rfl⟩
  rw [hQ]
  obtain ⟨A, hA⟩ : ∃ A, impsF ts.length [] ts = A := ⟨_, rfl⟩
  have HQ : Hid (onP A (fun i => thenP declsP fun d => retP (⟨i, d⟩ : MoD)) = Q) := hid (by
    rw [← hQ, ← hA]
    exact (thenP_on impsP _ ts).symm)
  have HA := hid hA
  have HN := hid (nxt_any ((w.alloc (.cells #[.slice none 0 0, .slice none 0 0] 40)).alloc (.cells #[.slice none 0 0, .slice none 0 0] 40)) bp B ts 0 (h.below (new2 _ _ _)))
  have HK0 := hid (h.below (new2 w (.cells #[.slice none 0 0, .slice none 0 0] 40) (.cells #[.slice none 0 0, .slice none 0 0] 40)))
  clear h hQ hA
  go_enter Tryz.func44, Tryz.ntmps44
  go_wp2_with fail
  refine (HN.out).mono ?_
  rintro e w1 ⟨rfl, hb1⟩
  obtain ⟨tm, hs1, hrs, hmb⟩ := after2 (Turn.of_below (F := fun k => k = bp) hb1)
  obtain ⟨t0, ht0⟩ : ∃ t0, nextP ts = t0 := ⟨_, rfl⟩
  have HK1 := hid ((HK0.out.below hb1).below (new1 w1 (.cells #[.int .i64 t0.kind, sv t0.text, .int .i64 (t0.line : Nat), .int .i64 (t0.col : Nat)] 70)))
  have HI1 : Hid (ImpsI w bp B w1.heap.size (w1.alloc (.cells #[.int .i64 t0.kind, sv t0.text, .int .i64 (t0.line : Nat), .int .i64 (t0.col : Nat)] 70)) [] ts) := hid ⟨turn_bp tm (Turn.alloc _ _ _), HK1.out, keep_alloc (hrs (by omega)), by rw [ht0]; exact at1 _ _, by omega, _, keep_alloc (hmb (by omega)), RowG.nil _ _ _ _ _ _, fun e => by cases e⟩
  rw [ht0]
  unfold tokG
  clear hb1 tm hrs hmb
  go_wp2_with fail
  go_loopw [4] (fun v4 wr => ∃ (tb f : Nat) (l : List ImD) (r : List TokD), v4 = .pointer (some ⟨tb, 0, none⟩) ∧ impsF f l r = A ∧ r.length ≤ f ∧ l.length + r.length ≤ 8193 ∧ ImpsI w bp B tb wr l r) (fun _ wr => leftOf wr bp)
  case atStart => exact ⟨_, _, [], ts, rfl, HA.out, Nat.le_refl _, by simpa using hlen, HI1.out⟩
  case round =>
    obtain ⟨tb, f, l, r, rfl, hinv, hf, hlr, hri⟩ := hrel
    have hwf := hri.tk.wf
    have hpos := hwf.pos
    obtain ⟨f, rfl⟩ : ∃ f', f = f' + 1 := ⟨f - 1, by omega⟩
    obtain ⟨t, ht⟩ : ∃ t, nextP r = t := ⟨_, rfl⟩
    have HL : Hid (thenP (hasP [105, 109, 112, 111, 114, 116]) (fun b => if b then thenP (importP t) fun i => impsF f (l ++ [i]) else retP l) r = A) := hid (by subst ht; exact hinv)
    have HLEN := hid hri.tk.left
    have HF := hid hf
    have HLR := hid hlr
    have HRI0 := hid hri
    have HWF := hid hwf
    have htok := hri.tok
    rw [ht] at htok
    have HTOK := hid htok
    have hsr := hri.turn.size
    have hlo := hri.lo
    have htbl := block_lt htok
    have hmbl := block_lt hri.row.choose_spec.1
    have HH := hid (has_any wr bp B r 0 hri.tk [105, 109, 112, 111, 114, 116])
    clear hinv hf hlr hri hwf ht htok
    go_wp2_with fail
    refine (HH.out).mono ?_
    rintro e w2 h2
    rcases hq : hasP [105, 109, 112, 111, 114, 116] r with g | ⟨b, r2⟩
    · exact (hasP_bad hq).elim
    · obtain ⟨v2, rfl, tn, rfl, kn⟩ := h2.good_ hq
      have hs2 := tn.size
      have HT2 := hid (turn_bp HRI0.out.turn tn)
      have HK2 := hid kn
      have HRS2 := hid (block_turn HRI0.out.res tn (by omega))
      have HTOK2 := hid (block_turn HTOK.out tn (by omega))
      obtain ⟨vi, hmb, hrow, hnt⟩ := HRI0.out.row
      obtain ⟨Ai, ci, rfl, hci, hcm⟩ := hrow.shape
      have HMB2 := hid (block_turn hmb tn (by omega))
      have HROW2 := hid (hrow.turn foot_im tn (fun g hg e => by have := (hrow.lt g hg).1; omega) (fun g _ h e => by omega))
      have HQ2 := hid hq
      clear h2 tn kn hq hmb hrow
      cases b
      · have HA2 : Hid (Pr.good l r2 = A) := hid ((thenP_good HQ2.out).symm.trans HL.out)
        obtain ⟨A2, hA2⟩ : ∃ A2, declsF r2.length [] r2 = A2 := ⟨_, rfl⟩
        have HD2 : Hid (onP A2 (fun d => retP (⟨l, d⟩ : MoD)) = Q) := hid (by
          rw [← HQ.out, ← HA2.out, ← hA2]
          exact (thenP_on declsP _ r2).symm)
        have HDA := hid hA2
        have hr2 := hasP_le HQ2.out
        obtain ⟨xi, q1, q2⟩ := HROW2.out.sl foot_im
        have HI2 : Hid (DecsI w bp B w2.heap.size (.slice Ai l.length ci) xi l w2 [] r2) := hid ⟨HT2.out, HK2.out, Nat.le_refl _, HRS2.out, q1.mono (fun g hg h => by rcases h with h | h <;> exact ⟨h, hg⟩), row_mono foot_im (fun g hg h => by rcases h with h | h <;> exact ⟨h, hg⟩) q2, _, HMB2.out, RowG.nil _ _ _ _ _ _⟩
        clear hA2 q1 q2
        go_wp2_with fail
        go_loopw [26] (fun _ wr => ∃ (f : Nat) (m : List DeD) (r : List TokD), declsF f m r = A2 ∧ r.length ≤ f ∧ m.length + r.length ≤ 8193 ∧ DecsI w bp B w2.heap.size (.slice Ai l.length ci) xi l wr m r) (fun _ wr => leftOf wr bp)
        case atStart => exact ⟨_, [], r2, HDA.out, Nat.le_refl _, by have := HLR.out; simp; omega, HI2.out⟩
        case round =>
          obtain ⟨f, m, r, hinv, hf, hmr, hri⟩ := hrel
          have hwf := hri.tk.wf
          have hpos := hwf.pos
          obtain ⟨f, rfl⟩ : ∃ f', f = f' + 1 := ⟨f - 1, by omega⟩
          obtain ⟨t, ht⟩ : ∃ t, nextP r = t := ⟨_, rfl⟩
          have HLT : Hid (∀ b, (t.kind == 0) = b → (if b then retP m else thenP declP fun d => declsF f (m ++ [d])) r = A2) := hid (fun b hb => by rw [← hinv, ← hb, ← ht]; rfl)
          have HLEN3 := hid hri.tk.left
          have HF3 := hid hf
          have HMR := hid hmr
          have HRI3 := hid hri
          have HWF3 := hid hwf
          have hsr3 := hri.turn.size
          have hs3w := block_lt hri.row.choose_spec.1
          have HN3 := hid (nxt_any wr bp B r 0 hri.tk)
          rw [ht] at HN3
          have hfk : ∀ w : World, (Instr.field 70 (.agg #[.int .i64 t.kind, sv t.text, .int .i64 (t.line : Nat), .int .i64 (t.col : Nat)]) 0).run Tryz.prog w = .ok (.int .i64 t.kind) w := fun _ => rfl
          clear hinv hf hmr hri hwf ht
          unfold tokG at HN3
          go_wp2_with fail
          refine (HN3.out).mono ?_
          rintro e w3 ⟨rfl, hb3⟩
          have t3 := Turn.of_below (F := fun k => k = bp) hb3
          have hs3 := hb3.size
          have HT3 := hid (turn_bp HRI3.out.turn t3)
          have HK3 := hid (HRI3.out.tk.below hb3)
          have HRS3 := hid (block_turn HRI3.out.res t3 (by omega))
          have HSL3 := hid (HRI3.out.sl.turn t3 (fun g _ h e => by have := h.1; omega))
          have HIM3 := hid (row_turn foot_im t3 (fun g _ h e => by have := h.1; omega) HRI3.out.imps)
          obtain ⟨vd, hmb, hrow⟩ := HRI3.out.row
          obtain ⟨Ad, cd, rfl, hcd, hcdm⟩ := hrow.shape
          have hbw2 := HRI3.out.bs
          have HMB3 := hid (block_turn hmb t3 (by omega))
          have HROW3 := hid (hrow.turn foot_de t3 (fun g hg e => by have := (hrow.lt g hg).1; omega) (fun g _ h e => by omega))
          have HLO3 := hid hrow.lt
          clear hb3 t3 hmb hrow
          cases hk0 : (t.kind == 0)
          · have hk1 : (t.kind != 0) = true := by simp only [bne, hk0, Bool.not_false]
            have HL3 : Hid (thenP declP (fun d => declsF f (m ++ [d])) r = A2) := hid (HLT.out false hk0)
            have hmb3 := cells2 HMB3.out
            have P1 := hid (fun (w' : World) (h : Turn (fun j => j = bp ∨ w2.heap.size ≤ j) w3 w') => tcell hmb3.2.1 h (by omega))
            have HD0 : Hid (Turn (fun j => j = bp ∨ w2.heap.size ≤ j) w3 w3.drew) := hid ⟨rfl, rfl, rfl, Nat.le_refl _, fun _ _ _ => rfl⟩
            have HDB : Hid (Turn (fun j => j = bp) w3 w3.drew) := hid ⟨rfl, rfl, rfl, Nat.le_refl _, fun _ _ _ => rfl⟩
            clear hmb3 hk0
            go_wp2_with fail
            refine region_x (S := fun w' => Turn (fun j => j = bp ∨ w2.heap.size ≤ j) w3 w') (x := 7) (by kernel_rfl) ?_
            try simp only [Act.put, List.getElem_toArray, List.getElem_cons_zero, List.getElem_cons_succ, List.setIfInBounds_toArray, List.set_cons_zero, List.set_cons_succ]
            refine tx 0 (.pointer (some ⟨w.heap.size + 1, 1, none⟩)) HD0.out ?_
            refine txf 1 (.slice Ad m.length cd) P1.out HD0.out ?_
            refine tx 2 (.pointer (some ⟨bp, 0, none⟩)) HD0.out ?_
            refine anyX_ready (rs := [3]) (by kernel_rfl) (by simp) ?_
            refine ReadyX.cons rfl (fun K hK => ?_) (ReadyX.nil)
            go_simp
            refine (decl_any w3.drew bp B r HK3.out).mono ?_
            rintro e w4 h4
            rcases hq : declP r with g | ⟨x, r4⟩
            · obtain ⟨rfl, tn, bn⟩ := h4.bad_ hq
              have e1 : Pr.bad g = A2 := (thenP_bad hq).symm.trans HL3.out
              exact ⟨rfl, ReadsP.fail (by rw [← HD2.out, ← e1]; rfl) (BadP.mk2 (turn_bp HT3.out (turn_bp HDB.out tn)) bn)⟩
            · obtain ⟨v4, rfl, tn, ⟨z, rfl, hz⟩, kn⟩ := h4.good_ hq
              obtain ⟨A1, n1, c1, A2', n2, c2, k4, s4, a4, b4, o4, A3, n3, c3, A4, n4, c4, A5, n5, c5, rfl⟩ := hz.shape'
              have t4 := turn_bp HDB.out tn
              have hs4 := t4.size
              have HT4 := hid t4
              have HS4 := hid (t4.mono (G := fun j => j = bp ∨ w2.heap.size ≤ j) (fun _ _ h => .inl h))
              have HK4 := hid kn
              have HZ4 := hid (hz.mono (G := fun j => w3.heap.size ≤ j) (fun _ _ h => h))
              have HR4 := hid (HROW3.out.turn foot_de t4 (fun g hg e => by have := (HLO3.out g hg).1; omega) (fun g _ h e => by omega))
              have HMB4 := hid (block_turn HMB3.out t4 (by omega))
              have HRS4 := hid (block_turn HRS3.out t4 (by omega))
              have HSL4 := hid (HSL3.out.turn t4 (fun g _ h e => by have := h.1; omega))
              have HIM4 := hid (row_turn foot_im t4 (fun g _ h e => by have := h.1; omega) HIM3.out)
              have HLS4 := hid (declP_less hq HWF3.out)
              have HQ4 : Hid (declsF f (m ++ [x]) r4 = A2) := hid ((thenP_good hq).symm.trans HL3.out)
              clear h4 tn hz kn hq t4
              refine hK.out _ _ HS4.out ?_
              clear hK K
              try simp only [Act.put, List.getElem_toArray, List.getElem_cons_zero, List.getElem_cons_succ, List.setIfInBounds_toArray, List.set_cons_zero, List.set_cons_succ]
              refine anyX_ready (rs := [4]) (by kernel_rfl) (by simp) ?_
              refine ReadyX.cons rfl (fun K hK => ?_) (ReadyX.nil)
              go_simp
              have HS5 := hid (HS4.out.trans (Turn.alloc (fun j => j = bp ∨ w2.heap.size ≤ j) w4 (.cells #[sv x.name, .bool x.exp, .slice A1 n1 c1, sv x.param, .slice A2' n2 c2, .int .i64 k4, sv s4, .int .i64 a4, .int .i64 b4, .int .i64 o4, .slice A3 n3 c3, .slice A4 n4 c4, .slice A5 n5 c5, .int .i64 x.line, .int .i64 x.col] 51)) (fun _ _ h => h))
              refine hK.out _ _ HS5.out ?_
              clear hK K
              try simp only [Act.put, List.getElem_toArray, List.getElem_cons_zero, List.getElem_cons_succ, List.setIfInBounds_toArray, List.set_cons_zero, List.set_cons_succ]
              refine anyX_ready (rs := [5]) (by kernel_rfl) (by simp) ?_
              refine ReadyX.cons rfl (fun K hK => ?_) (ReadyX.nil)
              obtain ⟨ys, hy, hr⟩ := HR4.out
              have hyl : ys.length = m.length * 15 := by have := hy.1; simpa using this
              refine step_app rfl (.tmp 33) (.tmp 36) _ rfl w2.heap.size el_de (.slice Ad m.length cd) (.slice (some ⟨w4.heap.size, 0, none⟩) 1 1) rfl rfl (hy.alloc (.cells #[sv x.name, .bool x.exp, .slice A1 n1 c1, sv x.param, .slice A2' n2 c2, .int .i64 k4, sv s4, .int .i64 a4, .int .i64 b4, .int .i64 o4, .slice A3 n3 c3, .slice A4 n4 c4, .slice A5 n5 c5, .int .i64 x.line, .int .i64 x.col] 51)) (sl_new w4 #[sv x.name, .bool x.exp, .slice A1 n1 c1, sv x.param, .slice A2' n2 c2, .int .i64 k4, sv s4, .int .i64 a4, .int .i64 b4, .int .i64 o4, .slice A3 n3 c3, .slice A4 n4 c4, .slice A5 n5 c5, .int .i64 x.line, .int .i64 x.col] 51 15 1 rfl (by decide)) (foot_de.one HZ4.out) (by have := HMR.out; simp [maxLen]; omega) (by have := HMR.out; simp; omega) (by simp; omega) (fun v7 w7 n7 hown7 hg7 hbk7 => ?_)
              obtain ⟨A7, c7, rfl, _, _⟩ := own_sh hown7
              obtain ⟨hrow7, hn7, t7⟩ := row_more (x := x) foot_de hy hr (HZ4.out.mono (fun g _ h => ⟨fun e => by have := (HLO3.out g e).2; omega, by omega⟩)) hg7 hbk7 hown7 (by omega)
              have hlo7 := hy.lt
              have HROW7 := hid hrow7
              have HT7 := hid t7
              have HS7 := hid (HS4.out.trans (t7.mono (G := fun j => j = bp ∨ w2.heap.size ≤ j) (fun j _ e => .inr (hlo7 j e).1)) (fun _ _ h => h))
              have HLO7 := hid hlo7
              have hb7 := block_turn HMB4.out t7 (fun e => by have := (hlo7 _ e).1; omega)
              have HMB7 := hid hb7
              have t17 : w7.cell? ⟨w.heap.size + 1, 1, none⟩ = some (.slice Ad m.length cd) := (cell_of_row _ _ _ _ _ _ hb7).trans rfl
              have z17 : ∀ i, w7.frozen? ⟨w.heap.size + 1, i, none⟩ = false := fun i => frozen_of_row _ _ _ _ _ hb7
              subst hn7
              clear hown7 hg7 hbk7 hrow7 t7 hy hr hb7
              refine hK.out _ _ HS7.out ?_
              clear hK K
              try simp only [Act.put, List.getElem_toArray, List.getElem_cons_zero, List.getElem_cons_succ, List.setIfInBounds_toArray, List.set_cons_zero, List.set_cons_succ]
              refine tx 6 (.pointer (some ⟨w.heap.size + 1, 1, none⟩)) HS7.out ?_
              refine anyX_ready (rs := [7]) (by kernel_rfl) (by simp) ?_
              refine ReadyX.past rfl (by kernel_rfl) (fun K hK => ?_) (ReadyX.nil)
              go_simp
              refine hK.out _ _ ?_
              clear hK K
              try simp only [Act.put, List.getElem_toArray, List.getElem_cons_zero, List.getElem_cons_succ, List.setIfInBounds_toArray, List.set_cons_zero, List.set_cons_succ]
              refine anyX_done (by kernel_rfl) ?_ _
              have tl := turn_set w7 (w.heap.size + 1) 1 (.slice A7 (m.length + 1) c7)
              have hlo7 := HLO7.out
              have hLS := HLS4.out
              have hF := HF3.out
              have hMR := HMR.out
              have hrF : DecsI w bp B w2.heap.size (.slice Ai l.length ci) xi l (w7.setCell ⟨w.heap.size + 1, 1, none⟩ (.slice A7 (m.length + 1) c7)) (m ++ [x]) r4 :=
                ⟨((turn_bp HT3.out HT4.out).trans HT7.out (fun i hi e => by have := (hlo7 i e).1; omega)).trans tl (fun i hi e => by omega),
                 (HK4.out.turn HT7.out (fun e => by have := (hlo7 _ e).1; omega) (fun k hk e => by have := (hlo7 _ e).1; omega)).turn tl (by omega) (fun k hk e => by omega), by have := HT7.out.size; simp; omega,
                 block_turn (block_turn HRS4.out HT7.out (fun e => by have := (hlo7 _ e).1; omega)) tl (by omega),
                 (HSL4.out.turn HT7.out (fun g _ h e => by have := (hlo7 _ e).1; have := h.2; omega)).turn tl (fun g _ h e => by have := h.1; omega),
                 row_turn foot_im tl (fun g _ h e => by have := h.1; omega) (row_turn foot_im HT7.out (fun g _ h e => by have := (hlo7 _ e).1; have := h.2; omega) HIM4.out),
                 _, heap_setCell_same _ _ 1 _ _ _ HMB7.out, by
                   have := HROW7.out.turn foot_de tl (fun g hg e => by have := (HROW7.out.lt g hg).1; omega) (fun g _ h e => by omega)
                   simpa using this⟩
              have hREL : ∃ (f : Nat) (m' : List DeD) (r : List TokD), declsF f m' r = A2 ∧ r.length ≤ f ∧ m'.length + r.length ≤ 8193 ∧ DecsI w bp B w2.heap.size (.slice Ai l.length ci) xi l (w7.setCell ⟨w.heap.size + 1, 1, none⟩ (.slice A7 (m.length + 1) c7)) m' r := ⟨f, _, r4, HQ4.out, by omega, by simp; omega, hrF⟩
              go_roundw
              case rel => (repeat apply Exists.intro); exact ⟨hREL, rfl⟩
              case measure => rw [hrF.tk.left, HLEN3.out]; omega
          · have hk1 : (t.kind != 0) = false := by simp only [bne, hk0, Bool.not_true]
            have HL3 : Hid (Pr.good m r = A2) := hid (HLT.out true hk0)
            have HQ9 : Hid (Pr.good (⟨l, m⟩ : MoD) r = Q) := hid (by rw [← HD2.out, ← HL3.out]; rfl)
            obtain ⟨m0, m1, mz⟩ := cells2 HMB3.out
            obtain ⟨c0, c1, cz⟩ := cells2 HRS3.out
            clear hk0
            go_wp2_with fail
            have tF := (turn_set w3 w.heap.size 0 (.slice Ai l.length ci)).trans (turn_set _ w.heap.size 1 (.slice Ad m.length cd)) (fun _ _ h => h)
            refine bodyPost_ret (res_cell rfl rfl (heap_setCell_same _ _ 1 _ _ (.slice Ad m.length cd) (heap_setCell_same _ _ 0 _ _ (.slice Ai l.length ci) HRS3.out)) Tryz.underlying40 rfl (by kernel_rfl)) rfl ?_
            obtain ⟨xd, d1, d2⟩ := HROW3.out.sl foot_de
            exact ReadsP.done HQ9.out.symm (HT3.out.trans tF (fun i hi e => by omega)) ⟨_, rfl, _, _, _, _, rfl, (HSL3.out.turn tF (fun g _ h e => by have := h.1; omega)).mono (fun g _ h => by have := h.1; omega), row_mono foot_im (fun g _ h => by have := h.1; omega) (row_turn foot_im tF (fun g _ h e => by have := h.1; omega) HIM3.out), (d1.turn tF (fun g _ h e => by rcases h with h | h <;> omega)).mono (fun g _ h => by rcases h with h | h <;> omega), row_mono foot_de (fun g _ h => by rcases h with h | h <;> omega) (row_turn foot_de tF (fun g _ h e => by rcases h with h | h <;> omega) d2)⟩ (HK3.out.turn tF (by omega) (fun k hk e => by omega))
      · have HL2 : Hid (thenP (importP t) (fun i => impsF f (l ++ [i])) r2 = A) := hid ((thenP_good HQ2.out).symm.trans HL.out)
        have hmb2 := cells2 HMB2.out
        have htk2 := cells4 HTOK2.out
        have P1 := hid (fun (w' : World) (h : Turn (fun j => j = bp ∨ w2.heap.size ≤ j ∨ (Value.slice Ai l.length ci).ownBlock = some j) w2 w') => tcell hmb2.1 h (fun e => by rcases e with e | e | e; omega; omega; have := (HROW2.out.lt _ e).1; omega))
        have HDB : Hid (Turn (fun j => j = bp) w2 w2.drew) := hid ⟨rfl, rfl, rfl, Nat.le_refl _, fun _ _ _ => rfl⟩
        have HD0 := hid (HDB.out.mono (G := fun j => j = bp ∨ w2.heap.size ≤ j ∨ (Value.slice Ai l.length ci).ownBlock = some j) (fun _ _ h => .inl h))
        have hntb : ¬ (tb = bp ∨ w2.heap.size ≤ tb ∨ (Value.slice Ai l.length ci).ownBlock = some tb) := fun e => by rcases e with e | e | e; omega; omega; exact hnt e
        have PT := hid (fun (w' : World) (h : Turn (fun j => j = bp ∨ w2.heap.size ≤ j ∨ (Value.slice Ai l.length ci).ownBlock = some j) w2 w') => (⟨tcell htk2.1 h hntb, tcell htk2.2.1 h hntb, tcell htk2.2.2.1 h hntb, tcell htk2.2.2.2.1 h hntb⟩ : w'.cell? ⟨tb, 0, none⟩ = some (.int .i64 t.kind) ∧ w'.cell? ⟨tb, 1, none⟩ = some (sv t.text) ∧ w'.cell? ⟨tb, 2, none⟩ = some (.int .i64 (t.line : Nat)) ∧ w'.cell? ⟨tb, 3, none⟩ = some (.int .i64 (t.col : Nat))))
        clear hmb2 htk2 hntb
        go_wp2_with fail
        refine region_x (S := fun w' => Turn (fun j => j = bp ∨ w2.heap.size ≤ j ∨ (Value.slice Ai l.length ci).ownBlock = some j) w2 w') (x := 8) (by kernel_rfl) ?_
        try simp only [Act.put, List.getElem_toArray, List.getElem_cons_zero, List.getElem_cons_succ, List.setIfInBounds_toArray, List.set_cons_zero, List.set_cons_succ]
        refine tx 0 (.pointer (some ⟨w.heap.size + 1, 0, none⟩)) HD0.out ?_
        refine txf 1 (.slice Ai l.length ci) P1.out HD0.out ?_
        refine tx 2 (.pointer (some ⟨bp, 0, none⟩)) HD0.out ?_
        refine txf 3 (.agg #[.int .i64 t.kind, sv t.text, .int .i64 (t.line : Nat), .int .i64 (t.col : Nat)]) PT.out HD0.out ?_
        refine anyX_ready (rs := [4]) (by kernel_rfl) (by simp) ?_
        refine ReadyX.cons rfl (fun K hK => ?_) (ReadyX.nil)
        go_simp
        refine (imported_any w2.drew bp B r2 HK2.out t).mono ?_
        rintro e w4 h4
        rcases hq : importP t r2 with g | ⟨x, r4⟩
        · obtain ⟨rfl, tn, bn⟩ := h4.bad_ hq
          have e1 : Pr.bad g = A := (thenP_bad hq).symm.trans HL2.out
          exact ⟨rfl, ReadsP.fail (by rw [← HQ.out, ← e1]; rfl) (BadP.mk2 (turn_bp HT2.out (turn_bp HDB.out tn)) bn)⟩
        · obtain ⟨v4, rfl, tn, ⟨z, rfl, hz⟩, kn⟩ := h4.good_ hq
          obtain ⟨A1, n1, c1, rfl⟩ := hz.shape'
          have t4 := turn_bp HDB.out tn
          have hs4 := t4.size
          have HT4 := hid t4
          have HS4 := hid (t4.mono (G := fun j => j = bp ∨ w2.heap.size ≤ j ∨ (Value.slice Ai l.length ci).ownBlock = some j) (fun _ _ h => .inl h))
          have HK4 := hid kn
          have HZ4 := hid (hz.mono (G := fun j => w2.heap.size ≤ j) (fun _ _ h => h))
          have HR4 := hid (HROW2.out.turn foot_im t4 (fun g hg e => by have := (HROW2.out.lt g hg).1; omega) (fun g _ h e => by omega))
          have HMB4 := hid (block_turn HMB2.out t4 (by omega))
          have HRS4 := hid (block_turn HRS2.out t4 (by omega))
          have HLS4 := hid (show r4.length < r.length from Nat.lt_of_le_of_lt ((Sf.import_ t).good HK2.out.wf hq).2.length_le (hasP_less HQ2.out HWF.out.pos))
          have HQ4 : Hid (impsF f (l ++ [x]) r4 = A) := hid ((thenP_good hq).symm.trans HL2.out)
          have HLO2 := hid HROW2.out.lt
          have HTK4 := hid (block_turn HTOK2.out t4 (by omega))
          clear h4 tn hz kn hq t4
          refine hK.out _ _ HS4.out ?_
          clear hK K
          try simp only [Act.put, List.getElem_toArray, List.getElem_cons_zero, List.getElem_cons_succ, List.setIfInBounds_toArray, List.set_cons_zero, List.set_cons_succ]
          refine anyX_ready (rs := [5]) (by kernel_rfl) (by simp) ?_
          refine ReadyX.cons rfl (fun K hK => ?_) (ReadyX.nil)
          go_simp
          have HS5 := hid (HS4.out.trans (Turn.alloc (fun j => j = bp ∨ w2.heap.size ≤ j ∨ (Value.slice Ai l.length ci).ownBlock = some j) w4 (.cells #[sv x.from_, .slice A1 n1 c1, .int .i64 x.line, .int .i64 x.col] 88)) (fun _ _ h => h))
          refine hK.out _ _ HS5.out ?_
          clear hK K
          try simp only [Act.put, List.getElem_toArray, List.getElem_cons_zero, List.getElem_cons_succ, List.setIfInBounds_toArray, List.set_cons_zero, List.set_cons_succ]
          refine anyX_ready (rs := [6]) (by kernel_rfl) (by simp) ?_
          refine ReadyX.cons rfl (fun K hK => ?_) (ReadyX.nil)
          obtain ⟨ys, hy, hr⟩ := HR4.out
          have hyl : ys.length = l.length * 4 := by have := hy.1; simpa using this
          refine step_app rfl (.tmp 18) (.tmp 22) _ rfl (w.heap.size + 2) el_im (.slice Ai l.length ci) (.slice (some ⟨w4.heap.size, 0, none⟩) 1 1) rfl rfl (hy.alloc (.cells #[sv x.from_, .slice A1 n1 c1, .int .i64 x.line, .int .i64 x.col] 88)) (sl_new w4 #[sv x.from_, .slice A1 n1 c1, .int .i64 x.line, .int .i64 x.col] 88 4 1 rfl (by decide)) (foot_im.one HZ4.out) (by have := HLR.out; simp [maxLen]; omega) (by have := HLR.out; simp; omega) (by simp; omega) (fun v7 w7 n7 hown7 hg7 hbk7 => ?_)
          obtain ⟨A7, c7, rfl, _, _⟩ := own_sh hown7
          obtain ⟨hrow7, hn7, t7⟩ := row_more (x := x) foot_im hy hr (HZ4.out.mono (fun g _ h => ⟨fun e => by have := (HLO2.out g e).2; omega, by omega⟩)) hg7 hbk7 hown7 (by omega)
          have HROW7 := hid hrow7
          have HT7 := hid t7
          have HS7 := hid (HS4.out.trans (t7.mono (G := fun j => j = bp ∨ w2.heap.size ≤ j ∨ (Value.slice Ai l.length ci).ownBlock = some j) (fun j _ e => .inr (.inr e))) (fun _ _ h => h))
          have HLO7 := hid hy.lt
          have hb7 := block_turn HMB4.out t7 (fun e => by have := (hy.lt _ e).1; omega)
          have HMB7 := hid hb7
          have t17 : w7.cell? ⟨w.heap.size + 1, 0, none⟩ = some (.slice Ai l.length ci) := (cell_of_row _ _ _ _ _ _ hb7).trans rfl
          have z17 : ∀ i, w7.frozen? ⟨w.heap.size + 1, i, none⟩ = false := fun i => frozen_of_row _ _ _ _ _ hb7
          subst hn7
          clear hown7 hg7 hbk7 hrow7 t7 hy hr hb7
          refine hK.out _ _ HS7.out ?_
          clear hK K
          try simp only [Act.put, List.getElem_toArray, List.getElem_cons_zero, List.getElem_cons_succ, List.setIfInBounds_toArray, List.set_cons_zero, List.set_cons_succ]
          refine tx 7 (.pointer (some ⟨w.heap.size + 1, 0, none⟩)) HS7.out ?_
          refine anyX_ready (rs := [8]) (by kernel_rfl) (by simp) ?_
          refine ReadyX.past rfl (by kernel_rfl) (fun K hK => ?_) (ReadyX.nil)
          go_simp
          refine hK.out _ _ ?_
          clear hK K
          try simp only [Act.put, List.getElem_toArray, List.getElem_cons_zero, List.getElem_cons_succ, List.setIfInBounds_toArray, List.set_cons_zero, List.set_cons_succ]
          refine anyX_done (by kernel_rfl) ?_ _
          have hlo7 := HLO7.out
          have hs7 := HT7.out.size
          have tl := turn_set w7 (w.heap.size + 1) 0 (.slice A7 (l.length + 1) c7)
          have tk7 := block_turn (block_turn HTK4.out HT7.out hnt) tl (by omega)
          have hs8 : (w7.setCell ⟨w.heap.size + 1, 0, none⟩ (.slice A7 (l.length + 1) c7)).heap.size = w7.heap.size := by simp
          have HT8 := hid (((turn_bp HT2.out HT4.out).trans HT7.out (fun i hi e => by have := (hlo7 i e).1; omega)).trans tl (fun i hi e => by omega))
          have HK8 := hid ((HK4.out.turn HT7.out (fun e => by have := (hlo7 _ e).1; omega) (fun k hk e => by have := (hlo7 _ e).1; omega)).turn tl (by omega) (fun k hk e => by omega))
          have HRS8 := hid (block_turn (block_turn HRS4.out HT7.out (fun e => by have := (hlo7 _ e).1; omega)) tl (by omega))
          have HMB8 := hid (show (w7.setCell ⟨w.heap.size + 1, 0, none⟩ (.slice A7 (l.length + 1) c7)).heap[w.heap.size + 1]? = some (.cells #[.slice A7 (l.length + 1) c7, .slice none 0 0] 40 (0, 0)) from heap_setCell_same _ _ 0 _ _ _ HMB7.out)
          have hrw8 := HROW7.out.turn foot_im tl (fun g hg e => by have := (HROW7.out.lt g hg).1; omega) (fun g _ h e => by omega)
          have HRW8 := hid hrw8
          have hown8 := hrw8.lt
          have tb9 := at1 (w7.setCell ⟨w.heap.size + 1, 0, none⟩ (.slice A7 (l.length + 1) c7)) (.cells #[.int .i64 t.kind, sv t.text, .int .i64 (t.line : Nat), .int .i64 (t.col : Nat)] 70)
          rw [hs8] at tb9
          have HTB9 := hid tb9
          have HN9 := hid (nxt_any ((w7.setCell ⟨w.heap.size + 1, 0, none⟩ (.slice A7 (l.length + 1) c7)).alloc (.cells #[.int .i64 t.kind, sv t.text, .int .i64 (t.line : Nat), .int .i64 (t.col : Nat)] 70)) bp B r4 0 (HK8.out.below (new1 _ _)))
          obtain ⟨k0, k1, k2, k3, kz⟩ := cells4 (block_turn HTK4.out HT7.out hnt)
          have hll7 : tb < w7.heap.size := block_lt (block_turn HTK4.out HT7.out hnt)
          have htm1 : ¬ tb = w.heap.size + 1 := by omega
          have htm2 : ¬ w.heap.size + 1 = tb := by omega
          clear tk7 hrw8 tl tb9
          unfold tokG at HN9
          go_wp2_with fail
          refine (HN9.out).mono ?_
          rintro e w10 ⟨rfl, hb10⟩
          have hs10 := hb10.size
          simp at hs10
          have hb10 := hb10
          have t10 : Turn (fun _ => False) (w7.setCell ⟨w.heap.size + 1, 0, none⟩ (.slice A7 (l.length + 1) c7)) w10 := (Turn.alloc _ _ _).trans (Turn.of_below (F := fun _ => False) hb10) (fun _ _ h => h)
          have hb0 := block_turn HTB9.out (Turn.of_below (F := fun _ => False) hb10) id
          obtain ⟨n0, n1, n2, n3, nz⟩ := cells4 hb0
          have tP := put4_turn w10 w7.heap.size (.int .i64 (nextP r4).kind) (sv (nextP r4).text) (.int .i64 ((nextP r4).line : Nat)) (.int .i64 ((nextP r4).col : Nat))
          have t11 : Turn (fun _ => False) (w7.setCell ⟨w.heap.size + 1, 0, none⟩ (.slice A7 (l.length + 1) c7)) (put4 w10 w7.heap.size (.int .i64 (nextP r4).kind) (sv (nextP r4).text) (.int .i64 ((nextP r4).line : Nat)) (.int .i64 ((nextP r4).col : Nat))) := t10.trans tP (fun i hi e => by rw [hs8] at hi; omega)
          have hrF : ImpsI w bp B w7.heap.size (put4 w10 w7.heap.size (.int .i64 (nextP r4).kind) (sv (nextP r4).text) (.int .i64 ((nextP r4).line : Nat)) (.int .i64 ((nextP r4).col : Nat))) (l ++ [x]) r4 :=
            ⟨HT8.out.trans t11 (fun _ _ h => h.elim), HK8.out.turn t11 id (fun _ _ => id), block_turn HRS8.out t11 id, put4_block hb0 _ _ _ _, by omega, _, block_turn HMB8.out t11 id, by
              have := HRW8.out.turn foot_im t11 (fun _ _ => id) (fun _ _ _ => id)
              simpa using this, fun e => by have := (hown8 _ e).2; rw [hs8] at this; omega⟩
          have HRF := hid hrF
          have hLS := HLS4.out
          have hF := HF.out
          have hLR := HLR.out
          clear t10 tP t11 hrF hb0 hb10
          go_wp2_with fail
          go_roundw
          case rel => exact ⟨w7.heap.size, f, l ++ [x], r4, rfl, HQ4.out, by omega, by simp; omega, HRF.out⟩
          case measure => rw [HRF.out.tk.left, HLEN.out]; omega
end Go.Proofs.YtmbppnbekkbibaaGreatDoor
end
