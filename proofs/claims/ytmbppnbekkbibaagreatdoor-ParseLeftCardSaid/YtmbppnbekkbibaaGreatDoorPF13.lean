/- HJN, HJT -/
import Derived.Test.YtmbppnbekkbibaaGreatDoorPF12
set_option linter.unusedSimpArgs false
set_option linter.unusedVariables false
section
/- The contracts of Parse, Expr, Type: Expr. -/
set_option linter.unusedVariables false
namespace Go.Proofs.YtmbppnbekkbibaaGreatDoor
open Go.RowKit

set_option maxRecDepth 100000 in
set_option maxHeartbeats 4000000 in
theorem idle_nod (p q : Addr) (w : World) :
    CallsD Tryz.prog 87 #[.pointer (some p), .pointer (some q)] .returning w fun e u' w' => e = .returned (.tuple #[]) ∧ u' = .returning ∧ w' = w := by
  refine callsD_of_wpS Tryz.func87 rfl fun c₀ cs hu => ?_
  apply wpS_seq
  apply wpS_region
  simp [wpOpsS, go_sem, recoverD, hu, Tryz.ntmps87, Exit.thenS]
  refine wpS_of_wp ?_
  change Code.wp _ _ _ { tmps := #[.pointer (some p), .pointer (some q), .nilIface, undef, undef, undef, .nilIface, undef, undef, undef, undef, undef, undef, undef, undef, undef, undef, undef, undef, undef], defers := [] } w
  go_wp2
  exact ⟨rfl, .returning, by rw [← hu], .tuple #[], results_none rfl _ _ _, rfl, rfl, rfl⟩
set_option maxRecDepth 100000 in
set_option maxHeartbeats 4000000 in
theorem catch_nod (pb qb : Nat) (hne : pb ≠ qb) (g : DgD) (older : List PanicEntry) (w : World) {a0 a1 a2 a3 a4 a5 a6 a7 : Value} (hp : w.heap[pb]? = some (.cells #[a0, a1, a2, a3, a4, a5, a6, a7] 49 (0, 0))) (hq : w.heap[qb]? = some (.cells #[.int .i64 0, .int .i64 0, .int .i64 0, .int .i64 0] 55 (0, 0))) :
    CallsD Tryz.prog 87 #[.pointer (some ⟨pb, 0, none⟩), .pointer (some ⟨qb, 0, none⟩)] (.panicking ({ v := .iface 135 (dgV g), recovered := false } :: older)) w fun e u' w' => e = .returned (.tuple #[]) ∧ u' = .panicking ({ v := .iface 135 (dgV g), recovered := true } :: older) ∧
      Turn (fun k => k = pb ∨ k = qb) w w' ∧ w'.heap[pb]? = some (.cells #[.int .i64 0, .string ⟨#[]⟩, .int .i64 0, .int .i64 0, .int .i64 0, .slice none 0 0, .slice none 0 0, .slice none 0 0] 49 (0, 0)) ∧ w'.heap[qb]? = some (.cells (dgC g) 55 (0, 0)) := by
  have hta : ∀ w : World, (Instr.typeAssert (.iface 135 (dgV g)) 20 135 true).run Tryz.prog w = .ok (.tuple #[dgV g, .bool true]) w := fun _ => by kernel_rfl
  have hpl := block_lt hp
  have hql := block_lt hq
  have HP := hid hp
  have HQ := hid hq
  clear hp hq
  refine callsD_of_wpS Tryz.func87 rfl fun c₀ cs hu => ?_
  apply wpS_seq
  apply wpS_region
  simp [wpOpsS, go_sem, recoverD, hu, Tryz.ntmps87, Exit.thenS]
  refine wpS_of_wp ?_
  change Code.wp _ _ _ { tmps := #[.pointer (some ⟨pb, 0, none⟩), .pointer (some ⟨qb, 0, none⟩), .iface 135 (dgV g), undef, undef, undef, .iface 135 (dgV g), undef, undef, undef, undef, undef, undef, undef, undef, undef, undef, undef, undef, undef], defers := [] } w
  obtain ⟨W2, hW2⟩ : ∃ W2, (w.alloc (.cells (dgC g) 135)).alloc (.cells #[.int .i64 0, .string ⟨#[]⟩, .int .i64 0, .int .i64 0, .int .i64 0, .slice none 0 0, .slice none 0 0, .slice none 0 0] 49) = W2 := ⟨_, rfl⟩
  have hs2 : W2.heap.size = w.heap.size + 2 := by rw [← hW2]; simp
  obtain ⟨tw, _, hbb, hzb⟩ := after2 (G := fun _ => False) (Turn.refl _ ((w.alloc (.cells (dgC g) 135)).alloc (.cells #[.int .i64 0, .string ⟨#[]⟩, .int .i64 0, .int .i64 0, .int .i64 0, .slice none 0 0, .slice none 0 0, .slice none 0 0] 49)))
  rw [hW2] at tw hbb hzb
  have HW2 := hid hW2
  have hp2 := block_turn HP.out tw id
  have hq2 := block_turn HQ.out tw id
  have HP2 := hid hp2
  have HQ2 := hid hq2
  have HTW := hid tw
  obtain ⟨b0, b1, b2, b3, bz⟩ := cells4 (hbb id)
  have hz2 := hzb id
  have HZ2 := hid hz2
  clear hW2 tw hbb hzb
  go_wp2_with fail
  rw [HW2.out]
  have HD0 : Hid (Turn (fun j => j = pb ∨ j = qb) W2 W2.drew) := hid ⟨rfl, rfl, rfl, Nat.le_refl _, fun _ _ _ => rfl⟩
  have PZ := hid (fun (w' : World) (h : Turn (fun j => j = pb ∨ j = qb) W2 w') => (⟨tcell ((cell_of_row _ _ 0 _ _ _ hz2).trans rfl) h (by omega), tcell ((cell_of_row _ _ 1 _ _ _ hz2).trans rfl) h (by omega), tcell ((cell_of_row _ _ 2 _ _ _ hz2).trans rfl) h (by omega), tcell ((cell_of_row _ _ 3 _ _ _ hz2).trans rfl) h (by omega), tcell ((cell_of_row _ _ 4 _ _ _ hz2).trans rfl) h (by omega), tcell ((cell_of_row _ _ 5 _ _ _ hz2).trans rfl) h (by omega), tcell ((cell_of_row _ _ 6 _ _ _ hz2).trans rfl) h (by omega), tcell ((cell_of_row _ _ 7 _ _ _ hz2).trans rfl) h (by omega)⟩ : w'.cell? ⟨w.heap.size + 1, 0, none⟩ = some (.int .i64 0) ∧ w'.cell? ⟨w.heap.size + 1, 1, none⟩ = some (.string ⟨#[]⟩) ∧ w'.cell? ⟨w.heap.size + 1, 2, none⟩ = some (.int .i64 0) ∧ w'.cell? ⟨w.heap.size + 1, 3, none⟩ = some (.int .i64 0) ∧ w'.cell? ⟨w.heap.size + 1, 4, none⟩ = some (.int .i64 0) ∧ w'.cell? ⟨w.heap.size + 1, 5, none⟩ = some (.slice none 0 0) ∧ w'.cell? ⟨w.heap.size + 1, 6, none⟩ = some (.slice none 0 0) ∧ w'.cell? ⟨w.heap.size + 1, 7, none⟩ = some (.slice none 0 0)))
  have PB := hid (fun (w' : World) (h : Turn (fun j => j = pb ∨ j = qb) W2 w') => (⟨tcell b0 h (by omega), tcell b1 h (by omega), tcell b2 h (by omega), tcell b3 h (by omega)⟩ : w'.cell? ⟨w.heap.size, 0, none⟩ = some (.int .i64 0) ∧ w'.cell? ⟨w.heap.size, 1, none⟩ = some (.int .i64 (g.1 : Nat)) ∧ w'.cell? ⟨w.heap.size, 2, none⟩ = some (.int .i64 (g.2.1 : Nat)) ∧ w'.cell? ⟨w.heap.size, 3, none⟩ = some (.int .i64 g.2.2)))
  clear hz2 b0 b1 b2 b3 bz
  refine region_x (S := fun w' => Turn (fun j => j = pb ∨ j = qb) W2 w') (x := 4) (by kernel_rfl) ?_
  try simp only [Act.put, List.getElem_toArray, List.getElem_cons_zero, List.getElem_cons_succ, List.setIfInBounds_toArray, List.set_cons_zero, List.set_cons_succ]
  refine txf 0 (.agg #[.int .i64 0, .string ⟨#[]⟩, .int .i64 0, .int .i64 0, .int .i64 0, .slice none 0 0, .slice none 0 0, .slice none 0 0]) PZ.out HD0.out ?_
  refine tx 1 (.pointer (some ⟨w.heap.size, 0, none⟩)) HD0.out ?_
  refine txf 2 (dgV g) PB.out HD0.out ?_
  have hdh : ∀ X : World, X.drew.heap = X.heap := fun _ => rfl
  have hdr : ∀ (G : Nat → Prop) (X : World), Turn G X X.drew := fun _ _ => ⟨rfl, rfl, rfl, Nat.le_refl _, fun _ _ _ => rfl⟩
  have tA := ((((((((turn_set W2 (pb) 0 (.int .i64 0)).trans (turn_set _ (pb) 1 (.string ⟨#[]⟩)) (fun _ _ h => h)).trans (turn_set _ (pb) 2 (.int .i64 0)) (fun _ _ h => h)).trans (turn_set _ (pb) 3 (.int .i64 0)) (fun _ _ h => h)).trans (turn_set _ (pb) 4 (.int .i64 0)) (fun _ _ h => h)).trans (turn_set _ (pb) 5 (.slice none 0 0)) (fun _ _ h => h)).trans (turn_set _ (pb) 6 (.slice none 0 0)) (fun _ _ h => h)).trans (turn_set _ (pb) 7 (.slice none 0 0)) (fun _ _ h => h))
  have hpA : ((((((((W2.setCell ⟨pb, 0, none⟩ (.int .i64 0)).setCell ⟨pb, 1, none⟩ (.string ⟨#[]⟩)).setCell ⟨pb, 2, none⟩ (.int .i64 0)).setCell ⟨pb, 3, none⟩ (.int .i64 0)).setCell ⟨pb, 4, none⟩ (.int .i64 0)).setCell ⟨pb, 5, none⟩ (.slice none 0 0)).setCell ⟨pb, 6, none⟩ (.slice none 0 0)).setCell ⟨pb, 7, none⟩ (.slice none 0 0)).heap[pb]? = some (.cells #[.int .i64 0, .string ⟨#[]⟩, .int .i64 0, .int .i64 0, .int .i64 0, .slice none 0 0, .slice none 0 0, .slice none 0 0] 49 (0, 0)) := (put8_block (b := pb) HP2.out (.int .i64 0) (.string ⟨#[]⟩) (.int .i64 0) (.int .i64 0) (.int .i64 0) (.slice none 0 0) (.slice none 0 0) (.slice none 0 0))
  have hqA := block_turn HQ2.out tA (fun e => hne e.symm)
  have HTA := hid (tA.mono (G := fun k => k = pb ∨ k = qb) (fun _ _ h => .inl h))
  have HSA := hid (HTA.out.trans (hdr (fun k => k = pb ∨ k = qb) _) (fun _ _ h => h))
  have HPA := hid hpA
  have HQA := hid hqA
  have p0 : W2.cell? ⟨pb, 0, none⟩ = some a0 := (cell_of_row _ _ 0 _ _ _ hp2).trans rfl
  have p1 : W2.cell? ⟨pb, 1, none⟩ = some a1 := (cell_of_row _ _ 1 _ _ _ hp2).trans rfl
  have p2 : W2.cell? ⟨pb, 2, none⟩ = some a2 := (cell_of_row _ _ 2 _ _ _ hp2).trans rfl
  have p3 : W2.cell? ⟨pb, 3, none⟩ = some a3 := (cell_of_row _ _ 3 _ _ _ hp2).trans rfl
  have p4 : W2.cell? ⟨pb, 4, none⟩ = some a4 := (cell_of_row _ _ 4 _ _ _ hp2).trans rfl
  have p5 : W2.cell? ⟨pb, 5, none⟩ = some a5 := (cell_of_row _ _ 5 _ _ _ hp2).trans rfl
  have p6 : W2.cell? ⟨pb, 6, none⟩ = some a6 := (cell_of_row _ _ 6 _ _ _ hp2).trans rfl
  have p7 : W2.cell? ⟨pb, 7, none⟩ = some a7 := (cell_of_row _ _ 7 _ _ _ hp2).trans rfl
  have pz : ∀ i, W2.frozen? ⟨pb, i, none⟩ = false := fun i => frozen_of_row _ _ _ _ _ hp2
  have q0 : W2.cell? ⟨qb, 0, none⟩ = some (.int .i64 0) := (cell_of_row _ _ 0 _ _ _ hq2).trans rfl
  have q1 : W2.cell? ⟨qb, 1, none⟩ = some (.int .i64 0) := (cell_of_row _ _ 1 _ _ _ hq2).trans rfl
  have q2 : W2.cell? ⟨qb, 2, none⟩ = some (.int .i64 0) := (cell_of_row _ _ 2 _ _ _ hq2).trans rfl
  have q3 : W2.cell? ⟨qb, 3, none⟩ = some (.int .i64 0) := (cell_of_row _ _ 3 _ _ _ hq2).trans rfl
  have qz : ∀ i, W2.frozen? ⟨qb, i, none⟩ = false := fun i => frozen_of_row _ _ _ _ _ hq2
  have hne' : ¬ qb = pb := fun e => hne e.symm
  clear tA hpA hqA hp2 hq2
  refine anyX_ready (rs := [3]) (by kernel_rfl) (by simp) ?_
  refine ReadyX.cons rfl (fun K hK => ?_) (ReadyX.nil)
  go_simp
  refine hK.out _ _ HSA.out ?_
  clear hK K
  try simp only [Act.put, List.getElem_toArray, List.getElem_cons_zero, List.getElem_cons_succ, List.setIfInBounds_toArray, List.set_cons_zero, List.set_cons_succ]
  refine anyX_ready (rs := [4]) (by kernel_rfl) (by simp) ?_
  refine ReadyX.past rfl (by kernel_rfl) (fun K hK => ?_) (ReadyX.nil)
  go_simp
  refine hK.out _ _ ?_
  clear hK K
  try simp only [Act.put, List.getElem_toArray, List.getElem_cons_zero, List.getElem_cons_succ, List.setIfInBounds_toArray, List.set_cons_zero, List.set_cons_succ]
  refine anyX_done (by kernel_rfl) ?_ _
  go_wp2_with fail
  have tB := ((((turn_set ((((((((W2.setCell ⟨pb, 0, none⟩ (.int .i64 0)).setCell ⟨pb, 1, none⟩ (.string ⟨#[]⟩)).setCell ⟨pb, 2, none⟩ (.int .i64 0)).setCell ⟨pb, 3, none⟩ (.int .i64 0)).setCell ⟨pb, 4, none⟩ (.int .i64 0)).setCell ⟨pb, 5, none⟩ (.slice none 0 0)).setCell ⟨pb, 6, none⟩ (.slice none 0 0)).setCell ⟨pb, 7, none⟩ (.slice none 0 0)) (qb) 0 (.int .i64 0)).trans (turn_set _ (qb) 1 (.int .i64 (g.1 : Nat))) (fun _ _ h => h)).trans (turn_set _ (qb) 2 (.int .i64 (g.2.1 : Nat))) (fun _ _ h => h)).trans (turn_set _ (qb) 3 (.int .i64 g.2.2)) (fun _ _ h => h))
  have h1 := (HTW.out.mono (G := fun k => k = pb ∨ k = qb) (fun _ _ h => h.elim)).trans ((HTA.out.trans tB (fun _ _ h => .inr h)).trans (hdr (fun k => k = pb ∨ k = qb) _) (fun _ _ h => h)) (fun _ _ h => h)
  have h2 := block_turn HPA.out tB hne
  have h3 := (put4_block (b := qb) HQA.out (.int .i64 0) (.int .i64 (g.1 : Nat)) (.int .i64 (g.2.1 : Nat)) (.int .i64 g.2.2))
  refine ⟨rfl, _, rfl, .tuple #[], results_none rfl _ _ _, rfl, rfl, h1, ?_, ?_⟩
  · rw [hdh]; exact h2
  · rw [hdh]; exact h3
set_option maxRecDepth 100000 in
set_option maxHeartbeats 8000000 in
theorem all_nod (w : World) (s : Bt) (hX : LaidX w) : Calls Tryz.prog 48 #[sv s, .func (.func 49) #[] #[]] w fun e w' => Below w.heap.size w w' ∧ ∃ z : List Value, e = .returned (.tuple #[.agg z.toArray, dgV (wholeP (levP 100).expr s).2]) ∧ NoG w' (fun j => w.heap.size ≤ j) z (okP (levP 100).expr s zeroN) := by
  have hmf : ∀ (fn : Fn) (first cap : Array Value) (w : World), (Instr.makeFunc fn first cap).run Tryz.prog w = .ok (.func fn first cap) w := fun _ _ _ _ => rfl
  have hent : ∀ w : World, (callFunc 49 #[]).run Tryz.prog w = .ok (.enter 49 #[]) w := fun _ => by kernel_rfl
  have hdh : ∀ X : World, X.drew.heap = X.heap := fun _ => rfl
  have hdr : ∀ (G : Nat → Prop) (X : World), Turn G X X.drew := fun _ _ => ⟨rfl, rfl, rfl, Nat.le_refl _, fun _ _ _ => rfl⟩
  obtain ⟨W0, hW0⟩ : ∃ W0, ((w.alloc (.cells #[.int .i64 0, .string ⟨#[]⟩, .int .i64 0, .int .i64 0, .int .i64 0, .slice none 0 0, .slice none 0 0, .slice none 0 0] 49)).alloc (.cells #[.int .i64 0, .int .i64 0, .int .i64 0, .int .i64 0] 55)) = W0 := ⟨_, rfl⟩
  obtain ⟨tw, _, hx0, hd0⟩ := after2 (G := fun _ => False) (Turn.refl _ ((w.alloc (.cells #[.int .i64 0, .string ⟨#[]⟩, .int .i64 0, .int .i64 0, .int .i64 0, .slice none 0 0, .slice none 0 0, .slice none 0 0] 49)).alloc (.cells #[.int .i64 0, .int .i64 0, .int .i64 0, .int .i64 0] 55)))
  have hs0 : W0.heap.size = w.heap.size + 2 := by rw [← hW0]; simp
  have hb0 : Below w.heap.size w W0 := by rw [← hW0]; exact new2 _ _ _
  rw [hW0] at tw hx0 hd0
  have hx0 := hx0 id
  have hd0 := hd0 id
  have HX0 := hid hx0
  have HD0 := hid hd0
  have HB0 := hid hb0
  have HLB := hid ((LaidB.of hX.1).below hb0)
  have HL := hid (lex_any W0 s (hX.below hb0))
  have HW0 := hid hW0
  obtain ⟨Dg, hDg⟩ : ∃ Dg, (wholeP (levP 100).expr s).2 = Dg := ⟨_, rfl⟩
  obtain ⟨V, hV⟩ : ∃ V, okP (levP 100).expr s zeroN = V := ⟨_, rfl⟩
  rw [hDg, hV]
  clear hX tw hx0 hd0 hb0 hW0
  by_cases hE : (lexL s).2.2.2 = 0
  · have hz := lexL_ok hE
    obtain ⟨T, hT⟩ : ∃ T, lexL s = (T, ((0, 0, 0) : Nat × Nat × Int)) := ⟨(lexL s).1, by rw [← hz]⟩
    obtain ⟨htk, hwf⟩ := lexL_tk hE
    rw [hT] at HL htk hwf
    have HWH : Hid (wholeP (levP 100).expr s = outP (thenP (levP 100).expr (fun x => thenP (kindP 0) fun _ => retP x) T)) := hid (wholeP_ok hT)
    have HDg := hid hDg
    have HV := hid hV
    have HTK := hid htk
    have HWF := hid hwf
    clear hE hz hT htk hwf hDg hV
    go_enter_defers Tryz.func48, Tryz.ntmps48
    go_wp2_with fail
    rw [HW0.out]
    refine (HL.out).mono ?_
    rintro e w1 ⟨v1, n1, rfl, hown, hb1⟩
    obtain ⟨A1', c1', rfl, _, _⟩ := own_sh hown
    have hs1 := hb1.size
    have hx1 := (hb1.block (w.heap.size) (by omega)).trans HX0.out
    have hd1 := (hb1.block (w.heap.size + 1) (by omega)).trans HD0.out
    have HB1 := hid (HB0.out.trans (hb1.mono (by omega)))
    have HLB1 := hid (HLB.out.below (hb1.mono (by omega)))
    obtain ⟨x0, x1, x2, x3, xz⟩ := cells4 hd1
    have t1 := put4_turn w1 (w.heap.size + 1) (.int .i64 0) (.int .i64 0) (.int .i64 0) (.int .i64 0)
    have HX1 := hid (block_turn hx1 t1 (by omega))
    have HD1 := hid (put4_block hd1 (.int .i64 0) (.int .i64 0) (.int .i64 0) (.int .i64 0))
    have HT1 := hid t1
    have hsp : (put4 w1 (w.heap.size + 1) (.int .i64 0) (.int .i64 0) (.int .i64 0) (.int .i64 0)).heap.size = w1.heap.size := by simp [put4]
    have HOWN := hid hown
    rw [show diagV (0, 0, 0) = .agg #[.int .i64 0, .int .i64 0, .int .i64 0, .int .i64 0] from rfl]
    obtain ⟨W2, hW2⟩ : ∃ W2, (put4 w1 (w.heap.size + 1) (.int .i64 0) (.int .i64 0) (.int .i64 0) (.int .i64 0)).alloc (.cells #[.slice A1' n1 c1', .int .i64 0] 140) = W2 := ⟨_, rfl⟩
    have t2 : Turn (fun k => k = w.heap.size + 1) w1 W2 := by rw [← hW2]; exact t1.trans (Turn.alloc _ _ _) (fun _ _ h => h)
    have hb2 := at1 (put4 w1 (w.heap.size + 1) (.int .i64 0) (.int .i64 0) (.int .i64 0) (.int .i64 0)) (.cells #[.slice A1' n1 c1', .int .i64 0] 140)
    rw [hW2, hsp] at hb2
    have hs2 : W2.heap.size = w1.heap.size + 1 := by rw [← hW2]; simp [put4]
    have HX2 := hid (by have := keep_alloc (o' := (.cells #[.slice A1' n1 c1', .int .i64 0] 140)) HX1.out; rwa [hW2] at this)
    have HD2 := hid (by have := keep_alloc (o' := (.cells #[.slice A1' n1 c1', .int .i64 0] 140)) HD1.out; rwa [hW2] at this)
    have hsl : Sl W2 w1.heap.size 4 (.slice A1' n1 c1') (tokCells T) := ((SlG.own (F := fun j => W0.heap.size ≤ j ∧ j < w1.heap.size) hown (fun g hg => hown.lt g hg)).turn t2 (fun g _ h e => by have := h.1; omega)).to (fun g _ h => h.2)
    have htb : TokB w1.heap.size W2 (.slice A1' n1 c1') := fun b o n c e => by
      injection e with e _ _
      subst e
      rcases hown.2 with ⟨h, _⟩ | ⟨g, cap, cur, h, hg, hob, _⟩
      · injection h with h; cases h
      · injection h with h _ _
        injection h with h
        injection h with h _
        subst h
        exact ⟨block_lt hob, _, block_turn hob t2 (by omega)⟩
    have HLB2 := hid (HLB1.out.below (t2.below (by omega) (fun k hk e => by omega)))
    have HK := hid (show TkAt W2 w1.heap.size w1.heap.size T 0 from ⟨Nat.le_refl _, HTK.out, HWF.out, _, hb2, hsl, fun w' hb' => HLB2.out w' (fun k hk => hb' k (by omega)), htb⟩)
    have HT2 := hid (HB1.out.trans (t2.below (B := w.heap.size) (by omega) (fun k hk e => by omega)))
    have HR := hid (expr_any W2 w1.heap.size w1.heap.size T HK.out)
    have HW2 := hid hW2
    clear hown hb1 hx1 hd1 t1 t2 hb2 hsl hW2 HOWN htb
    go_wp2_with fail
    rw [HW2.out]
    refine (HR.out).mono ?_
    rintro e w3 h3
    rcases hq : (levP 100).expr T with g | ⟨x, r3⟩
    · obtain ⟨rfl, tn, bn⟩ := h3.bad_ hq
      have HWB : Hid (wholeP (levP 100).expr s = (none, g)) := hid (by rw [HWH.out, thenP_bad hq]; rfl)
      have HXP := hid (block_turn HX2.out tn (by omega))
      have HDP := hid (block_turn HD2.out tn (by omega))
      have HTP := hid (HT2.out.trans (tn.below (B := w.heap.size) (by omega) (fun k hk e => by omega)))
      clear h3 tn bn hq
      go_wp2_with fail
      refine leaves_cons (f := 87) (args := #[.pointer (some ⟨w.heap.size, 0, none⟩), .pointer (some ⟨w.heap.size + 1, 0, none⟩)]) (by simp) (by simp [go_sem]) ?_
      refine (catch_nod w.heap.size (w.heap.size + 1) (by omega) g [] _ HXP.out HDP.out).mono ?_
      rintro e u9 w9 ⟨rfl, rfl, t9, p9, q9⟩
      have e1 : Dg = g := by rw [← HDg.out, HWB.out]
      have e2 : V = zeroN := by rw [← HV.out]; unfold okP; rw [HWB.out]; rfl
      subst e1 e2
      exact ⟨_, results_agg2 rfl rfl rfl p9 q9 Tryz.underlying49 rfl (by kernel_rfl) Tryz.underlying55 rfl (by kernel_rfl), HTP.out.trans (t9.below (by have := HTP.out.size; omega) (fun k hk e => by omega)), _, rfl, .mk (SlG.nil _ _ _) .nil (SlG.nil _ _ _) (SlG.nil _ _ _) .nil⟩
    · obtain ⟨v3, rfl, tn, ⟨z0, rfl, hz0⟩, kn⟩ := h3.good_ hq
      have hzc := hz0
      obtain ⟨k4, s4, n4, l4, o4, A1, n1', c1, A2, n2, c2, A3, n3, c3, rfl⟩ := hzc.shape'
      have hs3 := tn.size
      have hx3 := block_turn HX2.out tn (by omega)
      have hd3 := block_turn HD2.out tn (by omega)
      have t4 : Turn (fun k => k = w.heap.size) w3 ((((((((w3.setCell ⟨w.heap.size, 0, none⟩ (.int .i64 k4)).setCell ⟨w.heap.size, 1, none⟩ (sv s4)).setCell ⟨w.heap.size, 2, none⟩ (.int .i64 n4)).setCell ⟨w.heap.size, 3, none⟩ (.int .i64 l4)).setCell ⟨w.heap.size, 4, none⟩ (.int .i64 o4)).setCell ⟨w.heap.size, 5, none⟩ (.slice A1 n1' c1)).setCell ⟨w.heap.size, 6, none⟩ (.slice A2 n2 c2)).setCell ⟨w.heap.size, 7, none⟩ (.slice A3 n3 c3)) := ((((((((turn_set w3 (w.heap.size) 0 (.int .i64 k4)).trans (turn_set _ (w.heap.size) 1 (sv s4)) (fun _ _ h => h)).trans (turn_set _ (w.heap.size) 2 (.int .i64 n4)) (fun _ _ h => h)).trans (turn_set _ (w.heap.size) 3 (.int .i64 l4)) (fun _ _ h => h)).trans (turn_set _ (w.heap.size) 4 (.int .i64 o4)) (fun _ _ h => h)).trans (turn_set _ (w.heap.size) 5 (.slice A1 n1' c1)) (fun _ _ h => h)).trans (turn_set _ (w.heap.size) 6 (.slice A2 n2 c2)) (fun _ _ h => h)).trans (turn_set _ (w.heap.size) 7 (.slice A3 n3 c3)) (fun _ _ h => h))
      have HX4 := hid ((put8_block (b := w.heap.size) hx3 (.int .i64 k4) (sv s4) (.int .i64 n4) (.int .i64 l4) (.int .i64 o4) (.slice A1 n1' c1) (.slice A2 n2 c2) (.slice A3 n3 c3)))
      have HD4 := hid (block_turn hd3 t4 (by omega))
      have HLB4 := hid ((HLB2.out.below (tn.below (by omega) (fun k hk e => by omega))).below (t4.below (by omega) (fun k hk e => by omega)))
      have HK4 := hid (kn.apart t4 (by omega) (fun g e _ => by have e : g = w.heap.size := e; subst e; exact ⟨_, _, hx3, by decide⟩) (fun w' hb' => HLB4.out w' (fun k hk => hb' k (by omega))))
      have HT4 := hid (HT2.out.trans ((tn.below (B := w.heap.size) (by omega) (fun k hk e => by omega)).trans (t4.below (B := w.heap.size) (by omega) (fun k hk e => by omega))))
      have HZ4 := hid (hz0.turn t4 (fun g _ h e => by omega))
      have HWG : Hid (wholeP (levP 100).expr s = outP (thenP (kindP 0) (fun _ => retP x) r3)) := hid (by rw [HWH.out, thenP_good hq])
      have HKN := hid (kind_any ((((((((w3.setCell ⟨w.heap.size, 0, none⟩ (.int .i64 k4)).setCell ⟨w.heap.size, 1, none⟩ (sv s4)).setCell ⟨w.heap.size, 2, none⟩ (.int .i64 n4)).setCell ⟨w.heap.size, 3, none⟩ (.int .i64 l4)).setCell ⟨w.heap.size, 4, none⟩ (.int .i64 o4)).setCell ⟨w.heap.size, 5, none⟩ (.slice A1 n1' c1)).setCell ⟨w.heap.size, 6, none⟩ (.slice A2 n2 c2)).setCell ⟨w.heap.size, 7, none⟩ (.slice A3 n3 c3)) w1.heap.size w1.heap.size r3 0 HK4.out 0)
      have u0 : w3.cell? ⟨w.heap.size, 0, none⟩ = some (.int .i64 0) := (cell_of_row _ _ 0 _ _ _ hx3).trans rfl
      have u1 : w3.cell? ⟨w.heap.size, 1, none⟩ = some (.string ⟨#[]⟩) := (cell_of_row _ _ 1 _ _ _ hx3).trans rfl
      have u2 : w3.cell? ⟨w.heap.size, 2, none⟩ = some (.int .i64 0) := (cell_of_row _ _ 2 _ _ _ hx3).trans rfl
      have u3 : w3.cell? ⟨w.heap.size, 3, none⟩ = some (.int .i64 0) := (cell_of_row _ _ 3 _ _ _ hx3).trans rfl
      have u4 : w3.cell? ⟨w.heap.size, 4, none⟩ = some (.int .i64 0) := (cell_of_row _ _ 4 _ _ _ hx3).trans rfl
      have u5 : w3.cell? ⟨w.heap.size, 5, none⟩ = some (.slice none 0 0) := (cell_of_row _ _ 5 _ _ _ hx3).trans rfl
      have u6 : w3.cell? ⟨w.heap.size, 6, none⟩ = some (.slice none 0 0) := (cell_of_row _ _ 6 _ _ _ hx3).trans rfl
      have u7 : w3.cell? ⟨w.heap.size, 7, none⟩ = some (.slice none 0 0) := (cell_of_row _ _ 7 _ _ _ hx3).trans rfl
      have uz : ∀ i, w3.frozen? ⟨w.heap.size, i, none⟩ = false := fun i => frozen_of_row _ _ _ _ _ hx3
      clear h3 tn kn hz0 hzc hq hx3 hd3 t4
      go_wp2_with fail
      refine (HKN.out).mono ?_
      rintro e w5 h5
      rcases hq : kindP 0 r3 with g | ⟨sx, r5⟩
      · obtain ⟨rfl, tn, bn⟩ := h5.bad_ hq
        have HWB : Hid (wholeP (levP 100).expr s = (none, g)) := hid (by rw [HWG.out, thenP_bad hq]; rfl)
        have HXP := hid (block_turn HX4.out tn (by omega))
        have HDP := hid (block_turn HD4.out tn (by omega))
        have HTP := hid (HT4.out.trans (tn.below (B := w.heap.size) (by have := HT4.out.size; omega) (fun k hk e => by omega)))
        clear h5 tn bn hq
        go_wp2_with fail
        refine leaves_cons (f := 87) (args := #[.pointer (some ⟨w.heap.size, 0, none⟩), .pointer (some ⟨w.heap.size + 1, 0, none⟩)]) (by simp) (by simp [go_sem]) ?_
        refine (catch_nod w.heap.size (w.heap.size + 1) (by omega) g [] _ HXP.out HDP.out).mono ?_
        rintro e u9 w9 ⟨rfl, rfl, t9, p9, q9⟩
        have e1 : Dg = g := by rw [← HDg.out, HWB.out]
        have e2 : V = zeroN := by rw [← HV.out]; unfold okP; rw [HWB.out]; rfl
        subst e1 e2
        exact ⟨_, results_agg2 rfl rfl rfl p9 q9 Tryz.underlying49 rfl (by kernel_rfl) Tryz.underlying55 rfl (by kernel_rfl), HTP.out.trans (t9.below (by have := HTP.out.size; omega) (fun k hk e => by omega)), _, rfl, .mk (SlG.nil _ _ _) .nil (SlG.nil _ _ _) (SlG.nil _ _ _) .nil⟩
      · obtain ⟨v5, rfl, tn, -, kn⟩ := h5.good_ hq
        have HWB : Hid (wholeP (levP 100).expr s = (some x, (0, 0, 0))) := hid (by rw [HWG.out, thenP_good hq]; rfl)
        have HX5 := hid (block_turn HX4.out tn (by omega))
        have HD5 := hid (block_turn HD4.out tn (by omega))
        have HT5 := hid (HT4.out.trans (tn.below (B := w.heap.size) (by have := HT4.out.size; omega) (fun k hk e => by omega)))
        have HZ5 := hid (HZ4.out.turn tn (fun g _ h e => by omega))
        clear h5 tn kn hq uz u0 u1 u2 u3 u4 u5 u6 u7
        have PX := hid (fun (w' : World) (h : w'.heap[w.heap.size]? = some (.cells #[.int .i64 k4, sv s4, .int .i64 n4, .int .i64 l4, .int .i64 o4, .slice A1 n1' c1, .slice A2 n2 c2, .slice A3 n3 c3] 49 (0, 0)) ∧ w'.heap[w.heap.size + 1]? = some (.cells #[.int .i64 0, .int .i64 0, .int .i64 0, .int .i64 0] 55 (0, 0))) => (⟨(cell_of_row _ _ _ _ _ _ h.1).trans rfl, (cell_of_row _ _ _ _ _ _ h.1).trans rfl, (cell_of_row _ _ _ _ _ _ h.1).trans rfl, (cell_of_row _ _ _ _ _ _ h.1).trans rfl, (cell_of_row _ _ _ _ _ _ h.1).trans rfl, (cell_of_row _ _ _ _ _ _ h.1).trans rfl, (cell_of_row _ _ _ _ _ _ h.1).trans rfl, (cell_of_row _ _ _ _ _ _ h.1).trans rfl⟩ : w'.cell? ⟨w.heap.size, 0, none⟩ = some (.int .i64 k4) ∧ w'.cell? ⟨w.heap.size, 1, none⟩ = some (sv s4) ∧ w'.cell? ⟨w.heap.size, 2, none⟩ = some (.int .i64 n4) ∧ w'.cell? ⟨w.heap.size, 3, none⟩ = some (.int .i64 l4) ∧ w'.cell? ⟨w.heap.size, 4, none⟩ = some (.int .i64 o4) ∧ w'.cell? ⟨w.heap.size, 5, none⟩ = some (.slice A1 n1' c1) ∧ w'.cell? ⟨w.heap.size, 6, none⟩ = some (.slice A2 n2 c2) ∧ w'.cell? ⟨w.heap.size, 7, none⟩ = some (.slice A3 n3 c3)))
        have PD := hid (fun (w' : World) (h : w'.heap[w.heap.size]? = some (.cells #[.int .i64 k4, sv s4, .int .i64 n4, .int .i64 l4, .int .i64 o4, .slice A1 n1' c1, .slice A2 n2 c2, .slice A3 n3 c3] 49 (0, 0)) ∧ w'.heap[w.heap.size + 1]? = some (.cells #[.int .i64 0, .int .i64 0, .int .i64 0, .int .i64 0] 55 (0, 0))) => (⟨(cell_of_row _ _ _ _ _ _ h.2).trans rfl, (cell_of_row _ _ _ _ _ _ h.2).trans rfl, (cell_of_row _ _ _ _ _ _ h.2).trans rfl, (cell_of_row _ _ _ _ _ _ h.2).trans rfl⟩ : w'.cell? ⟨w.heap.size + 1, 0, none⟩ = some (.int .i64 0) ∧ w'.cell? ⟨w.heap.size + 1, 1, none⟩ = some (.int .i64 0) ∧ w'.cell? ⟨w.heap.size + 1, 2, none⟩ = some (.int .i64 0) ∧ w'.cell? ⟨w.heap.size + 1, 3, none⟩ = some (.int .i64 0)))
        have HS0 : Hid (w5.drew.heap[w.heap.size]? = some (.cells #[.int .i64 k4, sv s4, .int .i64 n4, .int .i64 l4, .int .i64 o4, .slice A1 n1' c1, .slice A2 n2 c2, .slice A3 n3 c3] 49 (0, 0)) ∧ w5.drew.heap[w.heap.size + 1]? = some (.cells #[.int .i64 0, .int .i64 0, .int .i64 0, .int .i64 0] 55 (0, 0))) := hid ⟨by rw [hdh]; exact HX5.out, by rw [hdh]; exact HD5.out⟩
        have ka0 : w5.cell? ⟨w.heap.size, 0, none⟩ = some (.int .i64 k4) := (cell_of_row _ _ 0 _ _ _ HX5.out).trans rfl
        have ka1 : w5.cell? ⟨w.heap.size, 1, none⟩ = some (sv s4) := (cell_of_row _ _ 1 _ _ _ HX5.out).trans rfl
        have ka2 : w5.cell? ⟨w.heap.size, 2, none⟩ = some (.int .i64 n4) := (cell_of_row _ _ 2 _ _ _ HX5.out).trans rfl
        have ka3 : w5.cell? ⟨w.heap.size, 3, none⟩ = some (.int .i64 l4) := (cell_of_row _ _ 3 _ _ _ HX5.out).trans rfl
        have ka4 : w5.cell? ⟨w.heap.size, 4, none⟩ = some (.int .i64 o4) := (cell_of_row _ _ 4 _ _ _ HX5.out).trans rfl
        have ka5 : w5.cell? ⟨w.heap.size, 5, none⟩ = some (.slice A1 n1' c1) := (cell_of_row _ _ 5 _ _ _ HX5.out).trans rfl
        have ka6 : w5.cell? ⟨w.heap.size, 6, none⟩ = some (.slice A2 n2 c2) := (cell_of_row _ _ 6 _ _ _ HX5.out).trans rfl
        have ka7 : w5.cell? ⟨w.heap.size, 7, none⟩ = some (.slice A3 n3 c3) := (cell_of_row _ _ 7 _ _ _ HX5.out).trans rfl
        have kaz : ∀ i, w5.frozen? ⟨w.heap.size, i, none⟩ = false := fun i => frozen_of_row _ _ _ _ _ HX5.out
        have la0 : w5.cell? ⟨w.heap.size + 1, 0, none⟩ = some (.int .i64 0) := (cell_of_row _ _ 0 _ _ _ HD5.out).trans rfl
        have la1 : w5.cell? ⟨w.heap.size + 1, 1, none⟩ = some (.int .i64 0) := (cell_of_row _ _ 1 _ _ _ HD5.out).trans rfl
        have la2 : w5.cell? ⟨w.heap.size + 1, 2, none⟩ = some (.int .i64 0) := (cell_of_row _ _ 2 _ _ _ HD5.out).trans rfl
        have la3 : w5.cell? ⟨w.heap.size + 1, 3, none⟩ = some (.int .i64 0) := (cell_of_row _ _ 3 _ _ _ HD5.out).trans rfl
        have laz : ∀ i, w5.frozen? ⟨w.heap.size + 1, i, none⟩ = false := fun i => frozen_of_row _ _ _ _ _ HD5.out
        have tA := ((((((((turn_set w5 (w.heap.size) 0 (.int .i64 k4)).trans (turn_set _ (w.heap.size) 1 (sv s4)) (fun _ _ h => h)).trans (turn_set _ (w.heap.size) 2 (.int .i64 n4)) (fun _ _ h => h)).trans (turn_set _ (w.heap.size) 3 (.int .i64 l4)) (fun _ _ h => h)).trans (turn_set _ (w.heap.size) 4 (.int .i64 o4)) (fun _ _ h => h)).trans (turn_set _ (w.heap.size) 5 (.slice A1 n1' c1)) (fun _ _ h => h)).trans (turn_set _ (w.heap.size) 6 (.slice A2 n2 c2)) (fun _ _ h => h)).trans (turn_set _ (w.heap.size) 7 (.slice A3 n3 c3)) (fun _ _ h => h))
        have hxA := (put8_block (b := w.heap.size) HX5.out (.int .i64 k4) (sv s4) (.int .i64 n4) (.int .i64 l4) (.int .i64 o4) (.slice A1 n1' c1) (.slice A2 n2 c2) (.slice A3 n3 c3))
        have hdA := block_turn HD5.out tA (by omega)
        have tB := ((((turn_set ((((((((w5.setCell ⟨w.heap.size, 0, none⟩ (.int .i64 k4)).setCell ⟨w.heap.size, 1, none⟩ (sv s4)).setCell ⟨w.heap.size, 2, none⟩ (.int .i64 n4)).setCell ⟨w.heap.size, 3, none⟩ (.int .i64 l4)).setCell ⟨w.heap.size, 4, none⟩ (.int .i64 o4)).setCell ⟨w.heap.size, 5, none⟩ (.slice A1 n1' c1)).setCell ⟨w.heap.size, 6, none⟩ (.slice A2 n2 c2)).setCell ⟨w.heap.size, 7, none⟩ (.slice A3 n3 c3)) (w.heap.size + 1) 0 (.int .i64 0)).trans (turn_set _ (w.heap.size + 1) 1 (.int .i64 0)) (fun _ _ h => h)).trans (turn_set _ (w.heap.size + 1) 2 (.int .i64 0)) (fun _ _ h => h)).trans (turn_set _ (w.heap.size + 1) 3 (.int .i64 0)) (fun _ _ h => h))
        have HXB := hid (block_turn hxA tB (by omega))
        have HDB := hid ((put4_block (b := w.heap.size + 1) hdA (.int .i64 0) (.int .i64 0) (.int .i64 0) (.int .i64 0)))
        have HTB := hid ((tA.mono (G := fun k => k = w.heap.size ∨ k = w.heap.size + 1) (fun _ _ h => .inl h)).trans tB (fun _ _ h => .inr h))
        have HSA : Hid (((((((((w5.setCell ⟨w.heap.size, 0, none⟩ (.int .i64 k4)).setCell ⟨w.heap.size, 1, none⟩ (sv s4)).setCell ⟨w.heap.size, 2, none⟩ (.int .i64 n4)).setCell ⟨w.heap.size, 3, none⟩ (.int .i64 l4)).setCell ⟨w.heap.size, 4, none⟩ (.int .i64 o4)).setCell ⟨w.heap.size, 5, none⟩ (.slice A1 n1' c1)).setCell ⟨w.heap.size, 6, none⟩ (.slice A2 n2 c2)).setCell ⟨w.heap.size, 7, none⟩ (.slice A3 n3 c3)).drew.heap[w.heap.size]? = some (.cells #[.int .i64 k4, sv s4, .int .i64 n4, .int .i64 l4, .int .i64 o4, .slice A1 n1' c1, .slice A2 n2 c2, .slice A3 n3 c3] 49 (0, 0)) ∧ ((((((((w5.setCell ⟨w.heap.size, 0, none⟩ (.int .i64 k4)).setCell ⟨w.heap.size, 1, none⟩ (sv s4)).setCell ⟨w.heap.size, 2, none⟩ (.int .i64 n4)).setCell ⟨w.heap.size, 3, none⟩ (.int .i64 l4)).setCell ⟨w.heap.size, 4, none⟩ (.int .i64 o4)).setCell ⟨w.heap.size, 5, none⟩ (.slice A1 n1' c1)).setCell ⟨w.heap.size, 6, none⟩ (.slice A2 n2 c2)).setCell ⟨w.heap.size, 7, none⟩ (.slice A3 n3 c3)).drew.heap[w.heap.size + 1]? = some (.cells #[.int .i64 0, .int .i64 0, .int .i64 0, .int .i64 0] 55 (0, 0))) := hid ⟨by rw [hdh]; exact hxA, by rw [hdh]; exact hdA⟩
        clear tA hxA hdA tB
        go_wp2_with fail
        refine region_x (S := fun w' => w'.heap[w.heap.size]? = some (.cells #[.int .i64 k4, sv s4, .int .i64 n4, .int .i64 l4, .int .i64 o4, .slice A1 n1' c1, .slice A2 n2 c2, .slice A3 n3 c3] 49 (0, 0)) ∧ w'.heap[w.heap.size + 1]? = some (.cells #[.int .i64 0, .int .i64 0, .int .i64 0, .int .i64 0] 55 (0, 0))) (x := 3) (by kernel_rfl) ?_
        try simp only [Act.put, List.getElem_toArray, List.getElem_cons_zero, List.getElem_cons_succ, List.setIfInBounds_toArray, List.set_cons_zero, List.set_cons_succ]
        refine txf 0 (.agg #[.int .i64 k4, sv s4, .int .i64 n4, .int .i64 l4, .int .i64 o4, .slice A1 n1' c1, .slice A2 n2 c2, .slice A3 n3 c3]) PX.out HS0.out (hQ := hq_two rfl (by decide) (by decide)) ?_
        refine txf 1 (.agg #[.int .i64 0, .int .i64 0, .int .i64 0, .int .i64 0]) PD.out HS0.out (hQ := hq_two rfl (by decide) (by decide)) ?_
        refine anyX_ready (rs := [2]) (by kernel_rfl) (by simp) ?_
        refine ReadyX.cons rfl (fun K hK => ?_) (ReadyX.nil)
        go_simp
        refine hK.out _ _ HSA.out ?_
        clear hK K
        try simp only [Act.put, List.getElem_toArray, List.getElem_cons_zero, List.getElem_cons_succ, List.setIfInBounds_toArray, List.set_cons_zero, List.set_cons_succ]
        refine anyX_ready (rs := [3]) (by kernel_rfl) (by simp) ?_
        refine ReadyX.past rfl (by kernel_rfl) (fun K hK => ?_) (ReadyX.nil)
        go_simp
        refine hK.out _ _ ?_
        clear hK K
        try simp only [Act.put, List.getElem_toArray, List.getElem_cons_zero, List.getElem_cons_succ, List.setIfInBounds_toArray, List.set_cons_zero, List.set_cons_succ]
        refine anyX_done (by kernel_rfl) ?_ _
        go_wp2_with fail
        refine leaves_cons (f := 87) (args := #[.pointer (some ⟨w.heap.size, 0, none⟩), .pointer (some ⟨w.heap.size + 1, 0, none⟩)]) (by simp) (by simp [go_sem]) ?_
        refine (idle_nod _ _ _).mono ?_
        rintro e u9 w9 ⟨rfl, rfl, rfl⟩
        have e1 : Dg = (0, 0, 0) := by rw [← HDg.out, HWB.out]
        have e2 : V = x := by rw [← HV.out]; unfold okP; rw [HWB.out]; rfl
        subst e1 e2
        have hz9 := (HZ5.out.turn HTB.out (fun g _ h e => by omega)).turn (hdr (fun _ => False) _) (fun _ _ _ => id)
        have hb9 := (HT5.out.trans (HTB.out.below (B := w.heap.size) (by have := HT5.out.size; omega) (fun k hk e => by omega))).trans ((hdr (fun _ => False) _).below (by have := HT5.out.size; have := HTB.out.size; omega) (fun _ _ => id))
        exact ⟨_, results_agg2 rfl rfl rfl (by rw [hdh]; exact HXB.out) (by rw [hdh]; exact HDB.out) Tryz.underlying49 rfl (by kernel_rfl) Tryz.underlying55 rfl (by kernel_rfl), hb9, _, rfl, hz9.mono (fun g _ h => by omega)⟩
  · have hwh : wholeP (levP 100).expr s = (none, (lexL s).2) := by unfold wholeP; rw [if_neg hE]
    have e1 : Dg = (lexL s).2 := by rw [← hDg, hwh]
    have e2 : V = zeroN := by rw [← hV]; unfold okP; rw [hwh]; rfl
    subst e2
    obtain ⟨T, D1, hT⟩ : ∃ T D1, lexL s = (T, D1) := ⟨_, _, rfl⟩
    rw [hT] at HL e1 hE
    have e1 := e1.symm
    subst e1
    have hE1 : (D1.2.2 != 0) = true := by simpa using hE
    clear hE hwh hDg hV hT
    go_enter_defers Tryz.func48, Tryz.ntmps48
    go_wp2_with fail
    rw [HW0.out]
    have HDV : diagV D1 = .agg #[.int .i64 0, .int .i64 (D1.1 : Nat), .int .i64 (D1.2.1 : Nat), .int .i64 D1.2.2] := rfl
    refine (HL.out).mono ?_
    rintro e w1 ⟨v1, n1, rfl, hown, hb1⟩
    obtain ⟨A1', c1', rfl, _, _⟩ := own_sh hown
    have hs1 := hb1.size
    have hx1 := (hb1.block (w.heap.size) (by omega)).trans HX0.out
    have hd1 := (hb1.block (w.heap.size + 1) (by omega)).trans HD0.out
    have HB1 := hid (HB0.out.trans (hb1.mono (by omega)))
    have HLB1 := hid (HLB.out.below (hb1.mono (by omega)))
    obtain ⟨x0, x1, x2, x3, xz⟩ := cells4 hd1
    have t1 := put4_turn w1 (w.heap.size + 1) (.int .i64 0) (.int .i64 (D1.1 : Nat)) (.int .i64 (D1.2.1 : Nat)) (.int .i64 D1.2.2)
    have HX1 := hid (block_turn hx1 t1 (by omega))
    have HD1 := hid (put4_block hd1 (.int .i64 0) (.int .i64 (D1.1 : Nat)) (.int .i64 (D1.2.1 : Nat)) (.int .i64 D1.2.2))
    have HT1 := hid t1
    have hsp : (put4 w1 (w.heap.size + 1) (.int .i64 0) (.int .i64 (D1.1 : Nat)) (.int .i64 (D1.2.1 : Nat)) (.int .i64 D1.2.2)).heap.size = w1.heap.size := by simp [put4]
    have HOWN := hid hown
    rw [HDV]
    clear hown hb1 hx1 hd1 t1 HDV
    have PX := hid (fun (w' : World) (h : w'.heap[w.heap.size]? = some (.cells #[.int .i64 0, .string ⟨#[]⟩, .int .i64 0, .int .i64 0, .int .i64 0, .slice none 0 0, .slice none 0 0, .slice none 0 0] 49 (0, 0)) ∧ w'.heap[w.heap.size + 1]? = some (.cells #[.int .i64 0, .int .i64 (D1.1 : Nat), .int .i64 (D1.2.1 : Nat), .int .i64 D1.2.2] 55 (0, 0))) => (⟨(cell_of_row _ _ _ _ _ _ h.1).trans rfl, (cell_of_row _ _ _ _ _ _ h.1).trans rfl, (cell_of_row _ _ _ _ _ _ h.1).trans rfl, (cell_of_row _ _ _ _ _ _ h.1).trans rfl, (cell_of_row _ _ _ _ _ _ h.1).trans rfl, (cell_of_row _ _ _ _ _ _ h.1).trans rfl, (cell_of_row _ _ _ _ _ _ h.1).trans rfl, (cell_of_row _ _ _ _ _ _ h.1).trans rfl⟩ : w'.cell? ⟨w.heap.size, 0, none⟩ = some (.int .i64 0) ∧ w'.cell? ⟨w.heap.size, 1, none⟩ = some (.string ⟨#[]⟩) ∧ w'.cell? ⟨w.heap.size, 2, none⟩ = some (.int .i64 0) ∧ w'.cell? ⟨w.heap.size, 3, none⟩ = some (.int .i64 0) ∧ w'.cell? ⟨w.heap.size, 4, none⟩ = some (.int .i64 0) ∧ w'.cell? ⟨w.heap.size, 5, none⟩ = some (.slice none 0 0) ∧ w'.cell? ⟨w.heap.size, 6, none⟩ = some (.slice none 0 0) ∧ w'.cell? ⟨w.heap.size, 7, none⟩ = some (.slice none 0 0)))
    have PD := hid (fun (w' : World) (h : w'.heap[w.heap.size]? = some (.cells #[.int .i64 0, .string ⟨#[]⟩, .int .i64 0, .int .i64 0, .int .i64 0, .slice none 0 0, .slice none 0 0, .slice none 0 0] 49 (0, 0)) ∧ w'.heap[w.heap.size + 1]? = some (.cells #[.int .i64 0, .int .i64 (D1.1 : Nat), .int .i64 (D1.2.1 : Nat), .int .i64 D1.2.2] 55 (0, 0))) => (⟨(cell_of_row _ _ _ _ _ _ h.2).trans rfl, (cell_of_row _ _ _ _ _ _ h.2).trans rfl, (cell_of_row _ _ _ _ _ _ h.2).trans rfl, (cell_of_row _ _ _ _ _ _ h.2).trans rfl⟩ : w'.cell? ⟨w.heap.size + 1, 0, none⟩ = some (.int .i64 0) ∧ w'.cell? ⟨w.heap.size + 1, 1, none⟩ = some (.int .i64 (D1.1 : Nat)) ∧ w'.cell? ⟨w.heap.size + 1, 2, none⟩ = some (.int .i64 (D1.2.1 : Nat)) ∧ w'.cell? ⟨w.heap.size + 1, 3, none⟩ = some (.int .i64 D1.2.2)))
    have HS0 : Hid ((put4 w1 (w.heap.size + 1) (.int .i64 0) (.int .i64 (D1.1 : Nat)) (.int .i64 (D1.2.1 : Nat)) (.int .i64 D1.2.2)).drew.heap[w.heap.size]? = some (.cells #[.int .i64 0, .string ⟨#[]⟩, .int .i64 0, .int .i64 0, .int .i64 0, .slice none 0 0, .slice none 0 0, .slice none 0 0] 49 (0, 0)) ∧ (put4 w1 (w.heap.size + 1) (.int .i64 0) (.int .i64 (D1.1 : Nat)) (.int .i64 (D1.2.1 : Nat)) (.int .i64 D1.2.2)).drew.heap[w.heap.size + 1]? = some (.cells #[.int .i64 0, .int .i64 (D1.1 : Nat), .int .i64 (D1.2.1 : Nat), .int .i64 D1.2.2] 55 (0, 0))) := hid ⟨by rw [hdh]; exact HX1.out, by rw [hdh]; exact HD1.out⟩
    have ka0 : (put4 w1 (w.heap.size + 1) (.int .i64 0) (.int .i64 (D1.1 : Nat)) (.int .i64 (D1.2.1 : Nat)) (.int .i64 D1.2.2)).cell? ⟨w.heap.size, 0, none⟩ = some (.int .i64 0) := (cell_of_row _ _ 0 _ _ _ HX1.out).trans rfl
    have ka1 : (put4 w1 (w.heap.size + 1) (.int .i64 0) (.int .i64 (D1.1 : Nat)) (.int .i64 (D1.2.1 : Nat)) (.int .i64 D1.2.2)).cell? ⟨w.heap.size, 1, none⟩ = some (.string ⟨#[]⟩) := (cell_of_row _ _ 1 _ _ _ HX1.out).trans rfl
    have ka2 : (put4 w1 (w.heap.size + 1) (.int .i64 0) (.int .i64 (D1.1 : Nat)) (.int .i64 (D1.2.1 : Nat)) (.int .i64 D1.2.2)).cell? ⟨w.heap.size, 2, none⟩ = some (.int .i64 0) := (cell_of_row _ _ 2 _ _ _ HX1.out).trans rfl
    have ka3 : (put4 w1 (w.heap.size + 1) (.int .i64 0) (.int .i64 (D1.1 : Nat)) (.int .i64 (D1.2.1 : Nat)) (.int .i64 D1.2.2)).cell? ⟨w.heap.size, 3, none⟩ = some (.int .i64 0) := (cell_of_row _ _ 3 _ _ _ HX1.out).trans rfl
    have ka4 : (put4 w1 (w.heap.size + 1) (.int .i64 0) (.int .i64 (D1.1 : Nat)) (.int .i64 (D1.2.1 : Nat)) (.int .i64 D1.2.2)).cell? ⟨w.heap.size, 4, none⟩ = some (.int .i64 0) := (cell_of_row _ _ 4 _ _ _ HX1.out).trans rfl
    have ka5 : (put4 w1 (w.heap.size + 1) (.int .i64 0) (.int .i64 (D1.1 : Nat)) (.int .i64 (D1.2.1 : Nat)) (.int .i64 D1.2.2)).cell? ⟨w.heap.size, 5, none⟩ = some (.slice none 0 0) := (cell_of_row _ _ 5 _ _ _ HX1.out).trans rfl
    have ka6 : (put4 w1 (w.heap.size + 1) (.int .i64 0) (.int .i64 (D1.1 : Nat)) (.int .i64 (D1.2.1 : Nat)) (.int .i64 D1.2.2)).cell? ⟨w.heap.size, 6, none⟩ = some (.slice none 0 0) := (cell_of_row _ _ 6 _ _ _ HX1.out).trans rfl
    have ka7 : (put4 w1 (w.heap.size + 1) (.int .i64 0) (.int .i64 (D1.1 : Nat)) (.int .i64 (D1.2.1 : Nat)) (.int .i64 D1.2.2)).cell? ⟨w.heap.size, 7, none⟩ = some (.slice none 0 0) := (cell_of_row _ _ 7 _ _ _ HX1.out).trans rfl
    have kaz : ∀ i, (put4 w1 (w.heap.size + 1) (.int .i64 0) (.int .i64 (D1.1 : Nat)) (.int .i64 (D1.2.1 : Nat)) (.int .i64 D1.2.2)).frozen? ⟨w.heap.size, i, none⟩ = false := fun i => frozen_of_row _ _ _ _ _ HX1.out
    have la0 : (put4 w1 (w.heap.size + 1) (.int .i64 0) (.int .i64 (D1.1 : Nat)) (.int .i64 (D1.2.1 : Nat)) (.int .i64 D1.2.2)).cell? ⟨w.heap.size + 1, 0, none⟩ = some (.int .i64 0) := (cell_of_row _ _ 0 _ _ _ HD1.out).trans rfl
    have la1 : (put4 w1 (w.heap.size + 1) (.int .i64 0) (.int .i64 (D1.1 : Nat)) (.int .i64 (D1.2.1 : Nat)) (.int .i64 D1.2.2)).cell? ⟨w.heap.size + 1, 1, none⟩ = some (.int .i64 (D1.1 : Nat)) := (cell_of_row _ _ 1 _ _ _ HD1.out).trans rfl
    have la2 : (put4 w1 (w.heap.size + 1) (.int .i64 0) (.int .i64 (D1.1 : Nat)) (.int .i64 (D1.2.1 : Nat)) (.int .i64 D1.2.2)).cell? ⟨w.heap.size + 1, 2, none⟩ = some (.int .i64 (D1.2.1 : Nat)) := (cell_of_row _ _ 2 _ _ _ HD1.out).trans rfl
    have la3 : (put4 w1 (w.heap.size + 1) (.int .i64 0) (.int .i64 (D1.1 : Nat)) (.int .i64 (D1.2.1 : Nat)) (.int .i64 D1.2.2)).cell? ⟨w.heap.size + 1, 3, none⟩ = some (.int .i64 D1.2.2) := (cell_of_row _ _ 3 _ _ _ HD1.out).trans rfl
    have laz : ∀ i, (put4 w1 (w.heap.size + 1) (.int .i64 0) (.int .i64 (D1.1 : Nat)) (.int .i64 (D1.2.1 : Nat)) (.int .i64 D1.2.2)).frozen? ⟨w.heap.size + 1, i, none⟩ = false := fun i => frozen_of_row _ _ _ _ _ HD1.out
    have tA := ((((((((turn_set (put4 w1 (w.heap.size + 1) (.int .i64 0) (.int .i64 (D1.1 : Nat)) (.int .i64 (D1.2.1 : Nat)) (.int .i64 D1.2.2)) (w.heap.size) 0 (.int .i64 0)).trans (turn_set _ (w.heap.size) 1 (.string ⟨#[]⟩)) (fun _ _ h => h)).trans (turn_set _ (w.heap.size) 2 (.int .i64 0)) (fun _ _ h => h)).trans (turn_set _ (w.heap.size) 3 (.int .i64 0)) (fun _ _ h => h)).trans (turn_set _ (w.heap.size) 4 (.int .i64 0)) (fun _ _ h => h)).trans (turn_set _ (w.heap.size) 5 (.slice none 0 0)) (fun _ _ h => h)).trans (turn_set _ (w.heap.size) 6 (.slice none 0 0)) (fun _ _ h => h)).trans (turn_set _ (w.heap.size) 7 (.slice none 0 0)) (fun _ _ h => h))
    have hxA := (put8_block (b := w.heap.size) HX1.out (.int .i64 0) (.string ⟨#[]⟩) (.int .i64 0) (.int .i64 0) (.int .i64 0) (.slice none 0 0) (.slice none 0 0) (.slice none 0 0))
    have hdA := block_turn HD1.out tA (by omega)
    have tB := ((((turn_set (((((((((put4 w1 (w.heap.size + 1) (.int .i64 0) (.int .i64 (D1.1 : Nat)) (.int .i64 (D1.2.1 : Nat)) (.int .i64 D1.2.2)).setCell ⟨w.heap.size, 0, none⟩ (.int .i64 0)).setCell ⟨w.heap.size, 1, none⟩ (.string ⟨#[]⟩)).setCell ⟨w.heap.size, 2, none⟩ (.int .i64 0)).setCell ⟨w.heap.size, 3, none⟩ (.int .i64 0)).setCell ⟨w.heap.size, 4, none⟩ (.int .i64 0)).setCell ⟨w.heap.size, 5, none⟩ (.slice none 0 0)).setCell ⟨w.heap.size, 6, none⟩ (.slice none 0 0)).setCell ⟨w.heap.size, 7, none⟩ (.slice none 0 0)) (w.heap.size + 1) 0 (.int .i64 0)).trans (turn_set _ (w.heap.size + 1) 1 (.int .i64 (D1.1 : Nat))) (fun _ _ h => h)).trans (turn_set _ (w.heap.size + 1) 2 (.int .i64 (D1.2.1 : Nat))) (fun _ _ h => h)).trans (turn_set _ (w.heap.size + 1) 3 (.int .i64 D1.2.2)) (fun _ _ h => h))
    have HXB := hid (block_turn hxA tB (by omega))
    have HDB := hid ((put4_block (b := w.heap.size + 1) hdA (.int .i64 0) (.int .i64 (D1.1 : Nat)) (.int .i64 (D1.2.1 : Nat)) (.int .i64 D1.2.2)))
    have HTB := hid ((tA.mono (G := fun k => k = w.heap.size ∨ k = w.heap.size + 1) (fun _ _ h => .inl h)).trans tB (fun _ _ h => .inr h))
    have HSA : Hid ((((((((((put4 w1 (w.heap.size + 1) (.int .i64 0) (.int .i64 (D1.1 : Nat)) (.int .i64 (D1.2.1 : Nat)) (.int .i64 D1.2.2)).setCell ⟨w.heap.size, 0, none⟩ (.int .i64 0)).setCell ⟨w.heap.size, 1, none⟩ (.string ⟨#[]⟩)).setCell ⟨w.heap.size, 2, none⟩ (.int .i64 0)).setCell ⟨w.heap.size, 3, none⟩ (.int .i64 0)).setCell ⟨w.heap.size, 4, none⟩ (.int .i64 0)).setCell ⟨w.heap.size, 5, none⟩ (.slice none 0 0)).setCell ⟨w.heap.size, 6, none⟩ (.slice none 0 0)).setCell ⟨w.heap.size, 7, none⟩ (.slice none 0 0)).drew.heap[w.heap.size]? = some (.cells #[.int .i64 0, .string ⟨#[]⟩, .int .i64 0, .int .i64 0, .int .i64 0, .slice none 0 0, .slice none 0 0, .slice none 0 0] 49 (0, 0)) ∧ (((((((((put4 w1 (w.heap.size + 1) (.int .i64 0) (.int .i64 (D1.1 : Nat)) (.int .i64 (D1.2.1 : Nat)) (.int .i64 D1.2.2)).setCell ⟨w.heap.size, 0, none⟩ (.int .i64 0)).setCell ⟨w.heap.size, 1, none⟩ (.string ⟨#[]⟩)).setCell ⟨w.heap.size, 2, none⟩ (.int .i64 0)).setCell ⟨w.heap.size, 3, none⟩ (.int .i64 0)).setCell ⟨w.heap.size, 4, none⟩ (.int .i64 0)).setCell ⟨w.heap.size, 5, none⟩ (.slice none 0 0)).setCell ⟨w.heap.size, 6, none⟩ (.slice none 0 0)).setCell ⟨w.heap.size, 7, none⟩ (.slice none 0 0)).drew.heap[w.heap.size + 1]? = some (.cells #[.int .i64 0, .int .i64 (D1.1 : Nat), .int .i64 (D1.2.1 : Nat), .int .i64 D1.2.2] 55 (0, 0))) := hid ⟨by rw [hdh]; exact hxA, by rw [hdh]; exact hdA⟩
    clear tA hxA hdA tB
    go_wp2_with fail
    refine region_x (S := fun w' => w'.heap[w.heap.size]? = some (.cells #[.int .i64 0, .string ⟨#[]⟩, .int .i64 0, .int .i64 0, .int .i64 0, .slice none 0 0, .slice none 0 0, .slice none 0 0] 49 (0, 0)) ∧ w'.heap[w.heap.size + 1]? = some (.cells #[.int .i64 0, .int .i64 (D1.1 : Nat), .int .i64 (D1.2.1 : Nat), .int .i64 D1.2.2] 55 (0, 0))) (x := 3) (by kernel_rfl) ?_
    try simp only [Act.put, List.getElem_toArray, List.getElem_cons_zero, List.getElem_cons_succ, List.setIfInBounds_toArray, List.set_cons_zero, List.set_cons_succ]
    refine txf 0 (.agg #[.int .i64 0, .string ⟨#[]⟩, .int .i64 0, .int .i64 0, .int .i64 0, .slice none 0 0, .slice none 0 0, .slice none 0 0]) PX.out HS0.out (hQ := fun c a w h => hq_two rfl (by decide) (by decide) c a w h) ?_
    refine txf 1 (.agg #[.int .i64 0, .int .i64 (D1.1 : Nat), .int .i64 (D1.2.1 : Nat), .int .i64 D1.2.2]) PD.out HS0.out (hQ := fun c a w h => hq_two rfl (by decide) (by decide) c a w h) ?_
    refine anyX_ready (rs := [2]) (by kernel_rfl) (by simp) ?_
    refine ReadyX.cons rfl (fun K hK => ?_) (ReadyX.nil)
    go_simp
    refine hK.out _ _ HSA.out ?_
    clear hK K
    try simp only [Act.put, List.getElem_toArray, List.getElem_cons_zero, List.getElem_cons_succ, List.setIfInBounds_toArray, List.set_cons_zero, List.set_cons_succ]
    refine anyX_ready (rs := [3]) (by kernel_rfl) (by simp) ?_
    refine ReadyX.past rfl (by kernel_rfl) (fun K hK => ?_) (ReadyX.nil)
    go_simp
    refine hK.out _ _ ?_
    clear hK K
    try simp only [Act.put, List.getElem_toArray, List.getElem_cons_zero, List.getElem_cons_succ, List.setIfInBounds_toArray, List.set_cons_zero, List.set_cons_succ]
    refine anyX_done (by kernel_rfl) ?_ _
    go_wp2_with fail
    have hb9 := ((HB1.out.trans (HT1.out.below (B := w.heap.size) (by omega) (fun k hk e => by omega))).trans (HTB.out.below (B := w.heap.size) (by rw [hsp]; omega) (fun k hk e => by omega))).trans ((hdr (fun _ => False) _).below (by have := HTB.out.size; rw [hsp] at this; omega) (fun _ _ => id))
    exact ⟨_, results_agg2 rfl rfl rfl (by rw [hdh]; exact HXB.out) (by rw [hdh]; exact HDB.out) Tryz.underlying49 rfl (by kernel_rfl) Tryz.underlying55 rfl (by kernel_rfl), hb9, _, rfl, .mk (SlG.nil _ _ _) .nil (SlG.nil _ _ _) (SlG.nil _ _ _) .nil⟩
set_option maxRecDepth 100000 in
set_option maxHeartbeats 4000000 in
theorem tnod_any (w : World) (s : Bt) (hX : LaidX w) : Calls Tryz.prog 23 #[sv s] w fun e w' => Below w.heap.size w w' ∧ ∃ z : List Value, e = .returned (.tuple #[.agg z.toArray, dgV (wholeP (levP 100).expr s).2]) ∧ NoG w' (fun j => w.heap.size ≤ j) z (okP (levP 100).expr s zeroN) := by
  obtain ⟨W0, hW0⟩ : ∃ W0, ((w.alloc (.cells #[.int .i64 0, .string ⟨#[]⟩, .int .i64 0, .int .i64 0, .int .i64 0, .slice none 0 0, .slice none 0 0, .slice none 0 0] 49)).alloc (.cells #[.int .i64 0, .int .i64 0, .int .i64 0, .int .i64 0] 55)) = W0 := ⟨_, rfl⟩
  obtain ⟨tw, _, hx0, hd0⟩ := after2 (G := fun _ => False) (Turn.refl _ ((w.alloc (.cells #[.int .i64 0, .string ⟨#[]⟩, .int .i64 0, .int .i64 0, .int .i64 0, .slice none 0 0, .slice none 0 0, .slice none 0 0] 49)).alloc (.cells #[.int .i64 0, .int .i64 0, .int .i64 0, .int .i64 0] 55)))
  have hs0 : W0.heap.size = w.heap.size + 2 := by rw [← hW0]; simp
  have hb0 : Below w.heap.size w W0 := by rw [← hW0]; exact new2 _ _ _
  rw [hW0] at tw hx0 hd0
  have HX0 := hid (hx0 id)
  have HD0 := hid (hd0 id)
  have HB0 := hid hb0
  have HA := hid (all_nod W0 s (hX.below hb0))
  have HW0 := hid hW0
  obtain ⟨Dg, hDg⟩ : ∃ Dg, (wholeP (levP 100).expr s).2 = Dg := ⟨_, rfl⟩
  obtain ⟨V, hV⟩ : ∃ V, okP (levP 100).expr s zeroN = V := ⟨_, rfl⟩
  rw [hDg, hV] at HA
  rw [hDg, hV]
  clear hX tw hx0 hd0 hb0 hW0 hDg hV
  go_enter Tryz.func23, Tryz.ntmps23
  go_wp2_with fail
  rw [HW0.out]
  refine (HA.out).mono ?_
  rintro e w1 ⟨hb1, z0, rfl, hz0⟩
  have hzc := hz0
  obtain ⟨k4, s4, n4, l4, o4, A1, n1', c1, A2, n2, c2, A3, n3, c3, rfl⟩ := hzc.shape'
  have hs1 := hb1.size
  have hx1 := (hb1.block (w.heap.size) (by omega)).trans HX0.out
  have hd1 := (hb1.block (w.heap.size + 1) (by omega)).trans HD0.out
  have tA : Turn (fun k => k = w.heap.size) w1 ((((((((w1.setCell ⟨w.heap.size, 0, none⟩ (.int .i64 k4)).setCell ⟨w.heap.size, 1, none⟩ (sv s4)).setCell ⟨w.heap.size, 2, none⟩ (.int .i64 n4)).setCell ⟨w.heap.size, 3, none⟩ (.int .i64 l4)).setCell ⟨w.heap.size, 4, none⟩ (.int .i64 o4)).setCell ⟨w.heap.size, 5, none⟩ (.slice A1 n1' c1)).setCell ⟨w.heap.size, 6, none⟩ (.slice A2 n2 c2)).setCell ⟨w.heap.size, 7, none⟩ (.slice A3 n3 c3)) := ((((((((turn_set w1 (w.heap.size) 0 (.int .i64 k4)).trans (turn_set _ (w.heap.size) 1 (sv s4)) (fun _ _ h => h)).trans (turn_set _ (w.heap.size) 2 (.int .i64 n4)) (fun _ _ h => h)).trans (turn_set _ (w.heap.size) 3 (.int .i64 l4)) (fun _ _ h => h)).trans (turn_set _ (w.heap.size) 4 (.int .i64 o4)) (fun _ _ h => h)).trans (turn_set _ (w.heap.size) 5 (.slice A1 n1' c1)) (fun _ _ h => h)).trans (turn_set _ (w.heap.size) 6 (.slice A2 n2 c2)) (fun _ _ h => h)).trans (turn_set _ (w.heap.size) 7 (.slice A3 n3 c3)) (fun _ _ h => h))
  have hxA := (put8_block (b := w.heap.size) hx1 (.int .i64 k4) (sv s4) (.int .i64 n4) (.int .i64 l4) (.int .i64 o4) (.slice A1 n1' c1) (.slice A2 n2 c2) (.slice A3 n3 c3))
  have hdA := block_turn hd1 tA (by omega)
  have tB := ((((turn_set ((((((((w1.setCell ⟨w.heap.size, 0, none⟩ (.int .i64 k4)).setCell ⟨w.heap.size, 1, none⟩ (sv s4)).setCell ⟨w.heap.size, 2, none⟩ (.int .i64 n4)).setCell ⟨w.heap.size, 3, none⟩ (.int .i64 l4)).setCell ⟨w.heap.size, 4, none⟩ (.int .i64 o4)).setCell ⟨w.heap.size, 5, none⟩ (.slice A1 n1' c1)).setCell ⟨w.heap.size, 6, none⟩ (.slice A2 n2 c2)).setCell ⟨w.heap.size, 7, none⟩ (.slice A3 n3 c3)) (w.heap.size + 1) 0 (.int .i64 0)).trans (turn_set _ (w.heap.size + 1) 1 (.int .i64 (Dg.1 : Nat))) (fun _ _ h => h)).trans (turn_set _ (w.heap.size + 1) 2 (.int .i64 (Dg.2.1 : Nat))) (fun _ _ h => h)).trans (turn_set _ (w.heap.size + 1) 3 (.int .i64 Dg.2.2)) (fun _ _ h => h))
  have HXB := hid (block_turn hxA tB (by omega))
  have HDB := hid ((put4_block (b := w.heap.size + 1) hdA (.int .i64 0) (.int .i64 (Dg.1 : Nat)) (.int .i64 (Dg.2.1 : Nat)) (.int .i64 Dg.2.2)))
  have HTB := hid ((tA.mono (G := fun k => k = w.heap.size ∨ k = w.heap.size + 1) (fun _ _ h => .inl h)).trans tB (fun _ _ h => .inr h))
  have HZ := hid hz0
  have HB1 := hid (HB0.out.trans (hb1.mono (by omega)))
  have u0 : w1.cell? ⟨w.heap.size, 0, none⟩ = some (.int .i64 0) := (cell_of_row _ _ 0 _ _ _ hx1).trans rfl
  have u1 : w1.cell? ⟨w.heap.size, 1, none⟩ = some (.string ⟨#[]⟩) := (cell_of_row _ _ 1 _ _ _ hx1).trans rfl
  have u2 : w1.cell? ⟨w.heap.size, 2, none⟩ = some (.int .i64 0) := (cell_of_row _ _ 2 _ _ _ hx1).trans rfl
  have u3 : w1.cell? ⟨w.heap.size, 3, none⟩ = some (.int .i64 0) := (cell_of_row _ _ 3 _ _ _ hx1).trans rfl
  have u4 : w1.cell? ⟨w.heap.size, 4, none⟩ = some (.int .i64 0) := (cell_of_row _ _ 4 _ _ _ hx1).trans rfl
  have u5 : w1.cell? ⟨w.heap.size, 5, none⟩ = some (.slice none 0 0) := (cell_of_row _ _ 5 _ _ _ hx1).trans rfl
  have u6 : w1.cell? ⟨w.heap.size, 6, none⟩ = some (.slice none 0 0) := (cell_of_row _ _ 6 _ _ _ hx1).trans rfl
  have u7 : w1.cell? ⟨w.heap.size, 7, none⟩ = some (.slice none 0 0) := (cell_of_row _ _ 7 _ _ _ hx1).trans rfl
  have l0 : w1.cell? ⟨w.heap.size + 1, 0, none⟩ = some (.int .i64 0) := (cell_of_row _ _ 0 _ _ _ hd1).trans rfl
  have l1 : w1.cell? ⟨w.heap.size + 1, 1, none⟩ = some (.int .i64 0) := (cell_of_row _ _ 1 _ _ _ hd1).trans rfl
  have l2 : w1.cell? ⟨w.heap.size + 1, 2, none⟩ = some (.int .i64 0) := (cell_of_row _ _ 2 _ _ _ hd1).trans rfl
  have l3 : w1.cell? ⟨w.heap.size + 1, 3, none⟩ = some (.int .i64 0) := (cell_of_row _ _ 3 _ _ _ hd1).trans rfl
  have uz : ∀ i, w1.frozen? ⟨w.heap.size, i, none⟩ = false := fun i => frozen_of_row _ _ _ _ _ hx1
  have lz : ∀ i, w1.frozen? ⟨w.heap.size + 1, i, none⟩ = false := fun i => frozen_of_row _ _ _ _ _ hd1
  clear hb1 hz0 hx1 hd1 tA hxA hdA tB hzc
  go_wp2_with fail
  refine bodyPost_ret (results_agg2 rfl rfl rfl HXB.out HDB.out Tryz.underlying49 rfl (by kernel_rfl) Tryz.underlying55 rfl (by kernel_rfl)) rfl ?_
  exact ⟨HB1.out.trans (HTB.out.below (B := w.heap.size) (by omega) (fun k hk e => by omega)), _, rfl, (HZ.out.turn HTB.out (fun g _ h e => by omega)).mono (fun g _ h => by omega)⟩
end Go.Proofs.YtmbppnbekkbibaaGreatDoor
end
section
/- The contracts of Parse, Expr, Type: Type. -/
set_option linter.unusedVariables false
namespace Go.Proofs.YtmbppnbekkbibaaGreatDoor
open Go.RowKit

set_option maxRecDepth 100000 in
set_option maxHeartbeats 4000000 in
theorem idle_typ (p q : Addr) (w : World) :
    CallsD Tryz.prog 98 #[.pointer (some p), .pointer (some q)] .returning w fun e u' w' => e = .returned (.tuple #[]) ∧ u' = .returning ∧ w' = w := by
  refine callsD_of_wpS Tryz.func98 rfl fun c₀ cs hu => ?_
  apply wpS_seq
  apply wpS_region
  simp [wpOpsS, go_sem, recoverD, hu, Tryz.ntmps98, Exit.thenS]
  refine wpS_of_wp ?_
  change Code.wp _ _ _ { tmps := #[.pointer (some p), .pointer (some q), .nilIface, undef, undef, undef, .nilIface, undef, undef, undef, undef, undef, undef, undef, undef, undef, undef, undef, undef, undef], defers := [] } w
  go_wp2
  exact ⟨rfl, .returning, by rw [← hu], .tuple #[], results_none rfl _ _ _, rfl, rfl, rfl⟩
set_option maxRecDepth 100000 in
set_option maxHeartbeats 4000000 in
theorem catch_typ (pb qb : Nat) (hne : pb ≠ qb) (g : DgD) (older : List PanicEntry) (w : World) {a0 a1 a2 a3 : Value} (hp : w.heap[pb]? = some (.cells #[a0, a1, a2, a3] 63 (0, 0))) (hq : w.heap[qb]? = some (.cells #[.int .i64 0, .int .i64 0, .int .i64 0, .int .i64 0] 55 (0, 0))) :
    CallsD Tryz.prog 98 #[.pointer (some ⟨pb, 0, none⟩), .pointer (some ⟨qb, 0, none⟩)] (.panicking ({ v := .iface 135 (dgV g), recovered := false } :: older)) w fun e u' w' => e = .returned (.tuple #[]) ∧ u' = .panicking ({ v := .iface 135 (dgV g), recovered := true } :: older) ∧
      Turn (fun k => k = pb ∨ k = qb) w w' ∧ w'.heap[pb]? = some (.cells #[.int .i64 0, .string ⟨#[]⟩, .slice none 0 0, .slice none 0 0] 63 (0, 0)) ∧ w'.heap[qb]? = some (.cells (dgC g) 55 (0, 0)) := by
  have hta : ∀ w : World, (Instr.typeAssert (.iface 135 (dgV g)) 20 135 true).run Tryz.prog w = .ok (.tuple #[dgV g, .bool true]) w := fun _ => by kernel_rfl
  have hpl := block_lt hp
  have hql := block_lt hq
  have HP := hid hp
  have HQ := hid hq
  clear hp hq
  refine callsD_of_wpS Tryz.func98 rfl fun c₀ cs hu => ?_
  apply wpS_seq
  apply wpS_region
  simp [wpOpsS, go_sem, recoverD, hu, Tryz.ntmps98, Exit.thenS]
  refine wpS_of_wp ?_
  change Code.wp _ _ _ { tmps := #[.pointer (some ⟨pb, 0, none⟩), .pointer (some ⟨qb, 0, none⟩), .iface 135 (dgV g), undef, undef, undef, .iface 135 (dgV g), undef, undef, undef, undef, undef, undef, undef, undef, undef, undef, undef, undef, undef], defers := [] } w
  obtain ⟨W2, hW2⟩ : ∃ W2, (w.alloc (.cells (dgC g) 135)).alloc (.cells #[.int .i64 0, .string ⟨#[]⟩, .slice none 0 0, .slice none 0 0] 63) = W2 := ⟨_, rfl⟩
  have hs2 : W2.heap.size = w.heap.size + 2 := by rw [← hW2]; simp
  obtain ⟨tw, _, hbb, hzb⟩ := after2 (G := fun _ => False) (Turn.refl _ ((w.alloc (.cells (dgC g) 135)).alloc (.cells #[.int .i64 0, .string ⟨#[]⟩, .slice none 0 0, .slice none 0 0] 63)))
  rw [hW2] at tw hbb hzb
  have HW2 := hid hW2
  have hp2 := block_turn HP.out tw id
  have hq2 := block_turn HQ.out tw id
  have HP2 := hid hp2
  have HQ2 := hid hq2
  have HTW := hid tw
  obtain ⟨b0, b1, b2, b3, bz⟩ := cells4 (hbb id)
  have hz2 := hzb id
  have HZ2 := hid hz2
  clear hW2 tw hbb hzb
  go_wp2_with fail
  rw [HW2.out]
  have HD0 : Hid (Turn (fun j => j = pb ∨ j = qb) W2 W2.drew) := hid ⟨rfl, rfl, rfl, Nat.le_refl _, fun _ _ _ => rfl⟩
  have PZ := hid (fun (w' : World) (h : Turn (fun j => j = pb ∨ j = qb) W2 w') => (⟨tcell ((cell_of_row _ _ 0 _ _ _ hz2).trans rfl) h (by omega), tcell ((cell_of_row _ _ 1 _ _ _ hz2).trans rfl) h (by omega), tcell ((cell_of_row _ _ 2 _ _ _ hz2).trans rfl) h (by omega), tcell ((cell_of_row _ _ 3 _ _ _ hz2).trans rfl) h (by omega)⟩ : w'.cell? ⟨w.heap.size + 1, 0, none⟩ = some (.int .i64 0) ∧ w'.cell? ⟨w.heap.size + 1, 1, none⟩ = some (.string ⟨#[]⟩) ∧ w'.cell? ⟨w.heap.size + 1, 2, none⟩ = some (.slice none 0 0) ∧ w'.cell? ⟨w.heap.size + 1, 3, none⟩ = some (.slice none 0 0)))
  have PB := hid (fun (w' : World) (h : Turn (fun j => j = pb ∨ j = qb) W2 w') => (⟨tcell b0 h (by omega), tcell b1 h (by omega), tcell b2 h (by omega), tcell b3 h (by omega)⟩ : w'.cell? ⟨w.heap.size, 0, none⟩ = some (.int .i64 0) ∧ w'.cell? ⟨w.heap.size, 1, none⟩ = some (.int .i64 (g.1 : Nat)) ∧ w'.cell? ⟨w.heap.size, 2, none⟩ = some (.int .i64 (g.2.1 : Nat)) ∧ w'.cell? ⟨w.heap.size, 3, none⟩ = some (.int .i64 g.2.2)))
  clear hz2 b0 b1 b2 b3 bz
  refine region_x (S := fun w' => Turn (fun j => j = pb ∨ j = qb) W2 w') (x := 4) (by kernel_rfl) ?_
  try simp only [Act.put, List.getElem_toArray, List.getElem_cons_zero, List.getElem_cons_succ, List.setIfInBounds_toArray, List.set_cons_zero, List.set_cons_succ]
  refine txf 0 (.agg #[.int .i64 0, .string ⟨#[]⟩, .slice none 0 0, .slice none 0 0]) PZ.out HD0.out ?_
  refine tx 1 (.pointer (some ⟨w.heap.size, 0, none⟩)) HD0.out ?_
  refine txf 2 (dgV g) PB.out HD0.out ?_
  have hdh : ∀ X : World, X.drew.heap = X.heap := fun _ => rfl
  have hdr : ∀ (G : Nat → Prop) (X : World), Turn G X X.drew := fun _ _ => ⟨rfl, rfl, rfl, Nat.le_refl _, fun _ _ _ => rfl⟩
  have tA := ((((turn_set W2 (pb) 0 (.int .i64 0)).trans (turn_set _ (pb) 1 (.string ⟨#[]⟩)) (fun _ _ h => h)).trans (turn_set _ (pb) 2 (.slice none 0 0)) (fun _ _ h => h)).trans (turn_set _ (pb) 3 (.slice none 0 0)) (fun _ _ h => h))
  have hpA : ((((W2.setCell ⟨pb, 0, none⟩ (.int .i64 0)).setCell ⟨pb, 1, none⟩ (.string ⟨#[]⟩)).setCell ⟨pb, 2, none⟩ (.slice none 0 0)).setCell ⟨pb, 3, none⟩ (.slice none 0 0)).heap[pb]? = some (.cells #[.int .i64 0, .string ⟨#[]⟩, .slice none 0 0, .slice none 0 0] 63 (0, 0)) := (put4_block (b := pb) HP2.out (.int .i64 0) (.string ⟨#[]⟩) (.slice none 0 0) (.slice none 0 0))
  have hqA := block_turn HQ2.out tA (fun e => hne e.symm)
  have HTA := hid (tA.mono (G := fun k => k = pb ∨ k = qb) (fun _ _ h => .inl h))
  have HSA := hid (HTA.out.trans (hdr (fun k => k = pb ∨ k = qb) _) (fun _ _ h => h))
  have HPA := hid hpA
  have HQA := hid hqA
  have p0 : W2.cell? ⟨pb, 0, none⟩ = some a0 := (cell_of_row _ _ 0 _ _ _ hp2).trans rfl
  have p1 : W2.cell? ⟨pb, 1, none⟩ = some a1 := (cell_of_row _ _ 1 _ _ _ hp2).trans rfl
  have p2 : W2.cell? ⟨pb, 2, none⟩ = some a2 := (cell_of_row _ _ 2 _ _ _ hp2).trans rfl
  have p3 : W2.cell? ⟨pb, 3, none⟩ = some a3 := (cell_of_row _ _ 3 _ _ _ hp2).trans rfl
  have pz : ∀ i, W2.frozen? ⟨pb, i, none⟩ = false := fun i => frozen_of_row _ _ _ _ _ hp2
  have q0 : W2.cell? ⟨qb, 0, none⟩ = some (.int .i64 0) := (cell_of_row _ _ 0 _ _ _ hq2).trans rfl
  have q1 : W2.cell? ⟨qb, 1, none⟩ = some (.int .i64 0) := (cell_of_row _ _ 1 _ _ _ hq2).trans rfl
  have q2 : W2.cell? ⟨qb, 2, none⟩ = some (.int .i64 0) := (cell_of_row _ _ 2 _ _ _ hq2).trans rfl
  have q3 : W2.cell? ⟨qb, 3, none⟩ = some (.int .i64 0) := (cell_of_row _ _ 3 _ _ _ hq2).trans rfl
  have qz : ∀ i, W2.frozen? ⟨qb, i, none⟩ = false := fun i => frozen_of_row _ _ _ _ _ hq2
  have hne' : ¬ qb = pb := fun e => hne e.symm
  clear tA hpA hqA hp2 hq2
  refine anyX_ready (rs := [3]) (by kernel_rfl) (by simp) ?_
  refine ReadyX.cons rfl (fun K hK => ?_) (ReadyX.nil)
  go_simp
  refine hK.out _ _ HSA.out ?_
  clear hK K
  try simp only [Act.put, List.getElem_toArray, List.getElem_cons_zero, List.getElem_cons_succ, List.setIfInBounds_toArray, List.set_cons_zero, List.set_cons_succ]
  refine anyX_ready (rs := [4]) (by kernel_rfl) (by simp) ?_
  refine ReadyX.past rfl (by kernel_rfl) (fun K hK => ?_) (ReadyX.nil)
  go_simp
  refine hK.out _ _ ?_
  clear hK K
  try simp only [Act.put, List.getElem_toArray, List.getElem_cons_zero, List.getElem_cons_succ, List.setIfInBounds_toArray, List.set_cons_zero, List.set_cons_succ]
  refine anyX_done (by kernel_rfl) ?_ _
  go_wp2_with fail
  have tB := ((((turn_set ((((W2.setCell ⟨pb, 0, none⟩ (.int .i64 0)).setCell ⟨pb, 1, none⟩ (.string ⟨#[]⟩)).setCell ⟨pb, 2, none⟩ (.slice none 0 0)).setCell ⟨pb, 3, none⟩ (.slice none 0 0)) (qb) 0 (.int .i64 0)).trans (turn_set _ (qb) 1 (.int .i64 (g.1 : Nat))) (fun _ _ h => h)).trans (turn_set _ (qb) 2 (.int .i64 (g.2.1 : Nat))) (fun _ _ h => h)).trans (turn_set _ (qb) 3 (.int .i64 g.2.2)) (fun _ _ h => h))
  have h1 := (HTW.out.mono (G := fun k => k = pb ∨ k = qb) (fun _ _ h => h.elim)).trans ((HTA.out.trans tB (fun _ _ h => .inr h)).trans (hdr (fun k => k = pb ∨ k = qb) _) (fun _ _ h => h)) (fun _ _ h => h)
  have h2 := block_turn HPA.out tB hne
  have h3 := (put4_block (b := qb) HQA.out (.int .i64 0) (.int .i64 (g.1 : Nat)) (.int .i64 (g.2.1 : Nat)) (.int .i64 g.2.2))
  refine ⟨rfl, _, rfl, .tuple #[], results_none rfl _ _ _, rfl, rfl, h1, ?_, ?_⟩
  · rw [hdh]; exact h2
  · rw [hdh]; exact h3
set_option maxRecDepth 100000 in
set_option maxHeartbeats 8000000 in
theorem all_typ (w : World) (s : Bt) (hX : LaidX w) : Calls Tryz.prog 52 #[sv s, .func (.func 53) #[] #[]] w fun e w' => Below w.heap.size w w' ∧ ∃ z : List Value, e = .returned (.tuple #[.agg z.toArray, dgV (wholeP (levP 100).typ s).2]) ∧ TyG w' (fun j => w.heap.size ≤ j) z (okP (levP 100).typ s zeroT) := by
  have hmf : ∀ (fn : Fn) (first cap : Array Value) (w : World), (Instr.makeFunc fn first cap).run Tryz.prog w = .ok (.func fn first cap) w := fun _ _ _ _ => rfl
  have hent : ∀ w : World, (callFunc 53 #[]).run Tryz.prog w = .ok (.enter 53 #[]) w := fun _ => by kernel_rfl
  have hdh : ∀ X : World, X.drew.heap = X.heap := fun _ => rfl
  have hdr : ∀ (G : Nat → Prop) (X : World), Turn G X X.drew := fun _ _ => ⟨rfl, rfl, rfl, Nat.le_refl _, fun _ _ _ => rfl⟩
  obtain ⟨W0, hW0⟩ : ∃ W0, ((w.alloc (.cells #[.int .i64 0, .string ⟨#[]⟩, .slice none 0 0, .slice none 0 0] 63)).alloc (.cells #[.int .i64 0, .int .i64 0, .int .i64 0, .int .i64 0] 55)) = W0 := ⟨_, rfl⟩
  obtain ⟨tw, _, hx0, hd0⟩ := after2 (G := fun _ => False) (Turn.refl _ ((w.alloc (.cells #[.int .i64 0, .string ⟨#[]⟩, .slice none 0 0, .slice none 0 0] 63)).alloc (.cells #[.int .i64 0, .int .i64 0, .int .i64 0, .int .i64 0] 55)))
  have hs0 : W0.heap.size = w.heap.size + 2 := by rw [← hW0]; simp
  have hb0 : Below w.heap.size w W0 := by rw [← hW0]; exact new2 _ _ _
  rw [hW0] at tw hx0 hd0
  have hx0 := hx0 id
  have hd0 := hd0 id
  have HX0 := hid hx0
  have HD0 := hid hd0
  have HB0 := hid hb0
  have HLB := hid ((LaidB.of hX.1).below hb0)
  have HL := hid (lex_any W0 s (hX.below hb0))
  have HW0 := hid hW0
  obtain ⟨Dg, hDg⟩ : ∃ Dg, (wholeP (levP 100).typ s).2 = Dg := ⟨_, rfl⟩
  obtain ⟨V, hV⟩ : ∃ V, okP (levP 100).typ s zeroT = V := ⟨_, rfl⟩
  rw [hDg, hV]
  clear hX tw hx0 hd0 hb0 hW0
  by_cases hE : (lexL s).2.2.2 = 0
  · have hz := lexL_ok hE
    obtain ⟨T, hT⟩ : ∃ T, lexL s = (T, ((0, 0, 0) : Nat × Nat × Int)) := ⟨(lexL s).1, by rw [← hz]⟩
    obtain ⟨htk, hwf⟩ := lexL_tk hE
    rw [hT] at HL htk hwf
    have HWH : Hid (wholeP (levP 100).typ s = outP (thenP (levP 100).typ (fun x => thenP (kindP 0) fun _ => retP x) T)) := hid (wholeP_ok hT)
    have HDg := hid hDg
    have HV := hid hV
    have HTK := hid htk
    have HWF := hid hwf
    clear hE hz hT htk hwf hDg hV
    go_enter_defers Tryz.func52, Tryz.ntmps52
    go_wp2_with fail
    rw [HW0.out]
    refine (HL.out).mono ?_
    rintro e w1 ⟨v1, n1, rfl, hown, hb1⟩
    obtain ⟨A1', c1', rfl, _, _⟩ := own_sh hown
    have hs1 := hb1.size
    have hx1 := (hb1.block (w.heap.size) (by omega)).trans HX0.out
    have hd1 := (hb1.block (w.heap.size + 1) (by omega)).trans HD0.out
    have HB1 := hid (HB0.out.trans (hb1.mono (by omega)))
    have HLB1 := hid (HLB.out.below (hb1.mono (by omega)))
    obtain ⟨x0, x1, x2, x3, xz⟩ := cells4 hd1
    have t1 := put4_turn w1 (w.heap.size + 1) (.int .i64 0) (.int .i64 0) (.int .i64 0) (.int .i64 0)
    have HX1 := hid (block_turn hx1 t1 (by omega))
    have HD1 := hid (put4_block hd1 (.int .i64 0) (.int .i64 0) (.int .i64 0) (.int .i64 0))
    have HT1 := hid t1
    have hsp : (put4 w1 (w.heap.size + 1) (.int .i64 0) (.int .i64 0) (.int .i64 0) (.int .i64 0)).heap.size = w1.heap.size := by simp [put4]
    have HOWN := hid hown
    rw [show diagV (0, 0, 0) = .agg #[.int .i64 0, .int .i64 0, .int .i64 0, .int .i64 0] from rfl]
    obtain ⟨W2, hW2⟩ : ∃ W2, (put4 w1 (w.heap.size + 1) (.int .i64 0) (.int .i64 0) (.int .i64 0) (.int .i64 0)).alloc (.cells #[.slice A1' n1 c1', .int .i64 0] 140) = W2 := ⟨_, rfl⟩
    have t2 : Turn (fun k => k = w.heap.size + 1) w1 W2 := by rw [← hW2]; exact t1.trans (Turn.alloc _ _ _) (fun _ _ h => h)
    have hb2 := at1 (put4 w1 (w.heap.size + 1) (.int .i64 0) (.int .i64 0) (.int .i64 0) (.int .i64 0)) (.cells #[.slice A1' n1 c1', .int .i64 0] 140)
    rw [hW2, hsp] at hb2
    have hs2 : W2.heap.size = w1.heap.size + 1 := by rw [← hW2]; simp [put4]
    have HX2 := hid (by have := keep_alloc (o' := (.cells #[.slice A1' n1 c1', .int .i64 0] 140)) HX1.out; rwa [hW2] at this)
    have HD2 := hid (by have := keep_alloc (o' := (.cells #[.slice A1' n1 c1', .int .i64 0] 140)) HD1.out; rwa [hW2] at this)
    have hsl : Sl W2 w1.heap.size 4 (.slice A1' n1 c1') (tokCells T) := ((SlG.own (F := fun j => W0.heap.size ≤ j ∧ j < w1.heap.size) hown (fun g hg => hown.lt g hg)).turn t2 (fun g _ h e => by have := h.1; omega)).to (fun g _ h => h.2)
    have htb : TokB w1.heap.size W2 (.slice A1' n1 c1') := fun b o n c e => by
      injection e with e _ _
      subst e
      rcases hown.2 with ⟨h, _⟩ | ⟨g, cap, cur, h, hg, hob, _⟩
      · injection h with h; cases h
      · injection h with h _ _
        injection h with h
        injection h with h _
        subst h
        exact ⟨block_lt hob, _, block_turn hob t2 (by omega)⟩
    have HLB2 := hid (HLB1.out.below (t2.below (by omega) (fun k hk e => by omega)))
    have HK := hid (show TkAt W2 w1.heap.size w1.heap.size T 0 from ⟨Nat.le_refl _, HTK.out, HWF.out, _, hb2, hsl, fun w' hb' => HLB2.out w' (fun k hk => hb' k (by omega)), htb⟩)
    have HT2 := hid (HB1.out.trans (t2.below (B := w.heap.size) (by omega) (fun k hk e => by omega)))
    have HR := hid (typ_any W2 w1.heap.size w1.heap.size T HK.out)
    have HW2 := hid hW2
    clear hown hb1 hx1 hd1 t1 t2 hb2 hsl hW2 HOWN htb
    go_wp2_with fail
    rw [HW2.out]
    refine (HR.out).mono ?_
    rintro e w3 h3
    rcases hq : (levP 100).typ T with g | ⟨x, r3⟩
    · obtain ⟨rfl, tn, bn⟩ := h3.bad_ hq
      have HWB : Hid (wholeP (levP 100).typ s = (none, g)) := hid (by rw [HWH.out, thenP_bad hq]; rfl)
      have HXP := hid (block_turn HX2.out tn (by omega))
      have HDP := hid (block_turn HD2.out tn (by omega))
      have HTP := hid (HT2.out.trans (tn.below (B := w.heap.size) (by omega) (fun k hk e => by omega)))
      clear h3 tn bn hq
      go_wp2_with fail
      refine leaves_cons (f := 98) (args := #[.pointer (some ⟨w.heap.size, 0, none⟩), .pointer (some ⟨w.heap.size + 1, 0, none⟩)]) (by simp) (by simp [go_sem]) ?_
      refine (catch_typ w.heap.size (w.heap.size + 1) (by omega) g [] _ HXP.out HDP.out).mono ?_
      rintro e u9 w9 ⟨rfl, rfl, t9, p9, q9⟩
      have e1 : Dg = g := by rw [← HDg.out, HWB.out]
      have e2 : V = zeroT := by rw [← HV.out]; unfold okP; rw [HWB.out]; rfl
      subst e1 e2
      exact ⟨_, results_agg2 rfl rfl rfl p9 q9 Tryz.underlying63 rfl (by kernel_rfl) Tryz.underlying55 rfl (by kernel_rfl), HTP.out.trans (t9.below (by have := HTP.out.size; omega) (fun k hk e => by omega)), _, rfl, .mk (SlG.nil _ _ _) (SlG.nil _ _ _) .nil⟩
    · obtain ⟨v3, rfl, tn, ⟨z0, rfl, hz0⟩, kn⟩ := h3.good_ hq
      have hzc := hz0
      obtain ⟨k4, s4, A1, n1', c1, A2, n2, c2, rfl⟩ := hzc.shape'
      have hs3 := tn.size
      have hx3 := block_turn HX2.out tn (by omega)
      have hd3 := block_turn HD2.out tn (by omega)
      have t4 : Turn (fun k => k = w.heap.size) w3 ((((w3.setCell ⟨w.heap.size, 0, none⟩ (.int .i64 k4)).setCell ⟨w.heap.size, 1, none⟩ (sv s4)).setCell ⟨w.heap.size, 2, none⟩ (.slice A1 n1' c1)).setCell ⟨w.heap.size, 3, none⟩ (.slice A2 n2 c2)) := ((((turn_set w3 (w.heap.size) 0 (.int .i64 k4)).trans (turn_set _ (w.heap.size) 1 (sv s4)) (fun _ _ h => h)).trans (turn_set _ (w.heap.size) 2 (.slice A1 n1' c1)) (fun _ _ h => h)).trans (turn_set _ (w.heap.size) 3 (.slice A2 n2 c2)) (fun _ _ h => h))
      have HX4 := hid ((put4_block (b := w.heap.size) hx3 (.int .i64 k4) (sv s4) (.slice A1 n1' c1) (.slice A2 n2 c2)))
      have HD4 := hid (block_turn hd3 t4 (by omega))
      have HLB4 := hid ((HLB2.out.below (tn.below (by omega) (fun k hk e => by omega))).below (t4.below (by omega) (fun k hk e => by omega)))
      have HK4 := hid (kn.apart t4 (by omega) (fun g e _ => by have e : g = w.heap.size := e; subst e; exact ⟨_, _, hx3, by decide⟩) (fun w' hb' => HLB4.out w' (fun k hk => hb' k (by omega))))
      have HT4 := hid (HT2.out.trans ((tn.below (B := w.heap.size) (by omega) (fun k hk e => by omega)).trans (t4.below (B := w.heap.size) (by omega) (fun k hk e => by omega))))
      have HZ4 := hid (hz0.turn t4 (fun g _ h e => by omega))
      have HWG : Hid (wholeP (levP 100).typ s = outP (thenP (kindP 0) (fun _ => retP x) r3)) := hid (by rw [HWH.out, thenP_good hq])
      have HKN := hid (kind_any ((((w3.setCell ⟨w.heap.size, 0, none⟩ (.int .i64 k4)).setCell ⟨w.heap.size, 1, none⟩ (sv s4)).setCell ⟨w.heap.size, 2, none⟩ (.slice A1 n1' c1)).setCell ⟨w.heap.size, 3, none⟩ (.slice A2 n2 c2)) w1.heap.size w1.heap.size r3 0 HK4.out 0)
      have u0 : w3.cell? ⟨w.heap.size, 0, none⟩ = some (.int .i64 0) := (cell_of_row _ _ 0 _ _ _ hx3).trans rfl
      have u1 : w3.cell? ⟨w.heap.size, 1, none⟩ = some (.string ⟨#[]⟩) := (cell_of_row _ _ 1 _ _ _ hx3).trans rfl
      have u2 : w3.cell? ⟨w.heap.size, 2, none⟩ = some (.slice none 0 0) := (cell_of_row _ _ 2 _ _ _ hx3).trans rfl
      have u3 : w3.cell? ⟨w.heap.size, 3, none⟩ = some (.slice none 0 0) := (cell_of_row _ _ 3 _ _ _ hx3).trans rfl
      have uz : ∀ i, w3.frozen? ⟨w.heap.size, i, none⟩ = false := fun i => frozen_of_row _ _ _ _ _ hx3
      clear h3 tn kn hz0 hzc hq hx3 hd3 t4
      go_wp2_with fail
      refine (HKN.out).mono ?_
      rintro e w5 h5
      rcases hq : kindP 0 r3 with g | ⟨sx, r5⟩
      · obtain ⟨rfl, tn, bn⟩ := h5.bad_ hq
        have HWB : Hid (wholeP (levP 100).typ s = (none, g)) := hid (by rw [HWG.out, thenP_bad hq]; rfl)
        have HXP := hid (block_turn HX4.out tn (by omega))
        have HDP := hid (block_turn HD4.out tn (by omega))
        have HTP := hid (HT4.out.trans (tn.below (B := w.heap.size) (by have := HT4.out.size; omega) (fun k hk e => by omega)))
        clear h5 tn bn hq
        go_wp2_with fail
        refine leaves_cons (f := 98) (args := #[.pointer (some ⟨w.heap.size, 0, none⟩), .pointer (some ⟨w.heap.size + 1, 0, none⟩)]) (by simp) (by simp [go_sem]) ?_
        refine (catch_typ w.heap.size (w.heap.size + 1) (by omega) g [] _ HXP.out HDP.out).mono ?_
        rintro e u9 w9 ⟨rfl, rfl, t9, p9, q9⟩
        have e1 : Dg = g := by rw [← HDg.out, HWB.out]
        have e2 : V = zeroT := by rw [← HV.out]; unfold okP; rw [HWB.out]; rfl
        subst e1 e2
        exact ⟨_, results_agg2 rfl rfl rfl p9 q9 Tryz.underlying63 rfl (by kernel_rfl) Tryz.underlying55 rfl (by kernel_rfl), HTP.out.trans (t9.below (by have := HTP.out.size; omega) (fun k hk e => by omega)), _, rfl, .mk (SlG.nil _ _ _) (SlG.nil _ _ _) .nil⟩
      · obtain ⟨v5, rfl, tn, -, kn⟩ := h5.good_ hq
        have HWB : Hid (wholeP (levP 100).typ s = (some x, (0, 0, 0))) := hid (by rw [HWG.out, thenP_good hq]; rfl)
        have HX5 := hid (block_turn HX4.out tn (by omega))
        have HD5 := hid (block_turn HD4.out tn (by omega))
        have HT5 := hid (HT4.out.trans (tn.below (B := w.heap.size) (by have := HT4.out.size; omega) (fun k hk e => by omega)))
        have HZ5 := hid (HZ4.out.turn tn (fun g _ h e => by omega))
        clear h5 tn kn hq uz u0 u1 u2 u3
        have PX := hid (fun (w' : World) (h : w'.heap[w.heap.size]? = some (.cells #[.int .i64 k4, sv s4, .slice A1 n1' c1, .slice A2 n2 c2] 63 (0, 0)) ∧ w'.heap[w.heap.size + 1]? = some (.cells #[.int .i64 0, .int .i64 0, .int .i64 0, .int .i64 0] 55 (0, 0))) => (⟨(cell_of_row _ _ _ _ _ _ h.1).trans rfl, (cell_of_row _ _ _ _ _ _ h.1).trans rfl, (cell_of_row _ _ _ _ _ _ h.1).trans rfl, (cell_of_row _ _ _ _ _ _ h.1).trans rfl⟩ : w'.cell? ⟨w.heap.size, 0, none⟩ = some (.int .i64 k4) ∧ w'.cell? ⟨w.heap.size, 1, none⟩ = some (sv s4) ∧ w'.cell? ⟨w.heap.size, 2, none⟩ = some (.slice A1 n1' c1) ∧ w'.cell? ⟨w.heap.size, 3, none⟩ = some (.slice A2 n2 c2)))
        have PD := hid (fun (w' : World) (h : w'.heap[w.heap.size]? = some (.cells #[.int .i64 k4, sv s4, .slice A1 n1' c1, .slice A2 n2 c2] 63 (0, 0)) ∧ w'.heap[w.heap.size + 1]? = some (.cells #[.int .i64 0, .int .i64 0, .int .i64 0, .int .i64 0] 55 (0, 0))) => (⟨(cell_of_row _ _ _ _ _ _ h.2).trans rfl, (cell_of_row _ _ _ _ _ _ h.2).trans rfl, (cell_of_row _ _ _ _ _ _ h.2).trans rfl, (cell_of_row _ _ _ _ _ _ h.2).trans rfl⟩ : w'.cell? ⟨w.heap.size + 1, 0, none⟩ = some (.int .i64 0) ∧ w'.cell? ⟨w.heap.size + 1, 1, none⟩ = some (.int .i64 0) ∧ w'.cell? ⟨w.heap.size + 1, 2, none⟩ = some (.int .i64 0) ∧ w'.cell? ⟨w.heap.size + 1, 3, none⟩ = some (.int .i64 0)))
        have HS0 : Hid (w5.drew.heap[w.heap.size]? = some (.cells #[.int .i64 k4, sv s4, .slice A1 n1' c1, .slice A2 n2 c2] 63 (0, 0)) ∧ w5.drew.heap[w.heap.size + 1]? = some (.cells #[.int .i64 0, .int .i64 0, .int .i64 0, .int .i64 0] 55 (0, 0))) := hid ⟨by rw [hdh]; exact HX5.out, by rw [hdh]; exact HD5.out⟩
        have ka0 : w5.cell? ⟨w.heap.size, 0, none⟩ = some (.int .i64 k4) := (cell_of_row _ _ 0 _ _ _ HX5.out).trans rfl
        have ka1 : w5.cell? ⟨w.heap.size, 1, none⟩ = some (sv s4) := (cell_of_row _ _ 1 _ _ _ HX5.out).trans rfl
        have ka2 : w5.cell? ⟨w.heap.size, 2, none⟩ = some (.slice A1 n1' c1) := (cell_of_row _ _ 2 _ _ _ HX5.out).trans rfl
        have ka3 : w5.cell? ⟨w.heap.size, 3, none⟩ = some (.slice A2 n2 c2) := (cell_of_row _ _ 3 _ _ _ HX5.out).trans rfl
        have kaz : ∀ i, w5.frozen? ⟨w.heap.size, i, none⟩ = false := fun i => frozen_of_row _ _ _ _ _ HX5.out
        have la0 : w5.cell? ⟨w.heap.size + 1, 0, none⟩ = some (.int .i64 0) := (cell_of_row _ _ 0 _ _ _ HD5.out).trans rfl
        have la1 : w5.cell? ⟨w.heap.size + 1, 1, none⟩ = some (.int .i64 0) := (cell_of_row _ _ 1 _ _ _ HD5.out).trans rfl
        have la2 : w5.cell? ⟨w.heap.size + 1, 2, none⟩ = some (.int .i64 0) := (cell_of_row _ _ 2 _ _ _ HD5.out).trans rfl
        have la3 : w5.cell? ⟨w.heap.size + 1, 3, none⟩ = some (.int .i64 0) := (cell_of_row _ _ 3 _ _ _ HD5.out).trans rfl
        have laz : ∀ i, w5.frozen? ⟨w.heap.size + 1, i, none⟩ = false := fun i => frozen_of_row _ _ _ _ _ HD5.out
        have tA := ((((turn_set w5 (w.heap.size) 0 (.int .i64 k4)).trans (turn_set _ (w.heap.size) 1 (sv s4)) (fun _ _ h => h)).trans (turn_set _ (w.heap.size) 2 (.slice A1 n1' c1)) (fun _ _ h => h)).trans (turn_set _ (w.heap.size) 3 (.slice A2 n2 c2)) (fun _ _ h => h))
        have hxA := (put4_block (b := w.heap.size) HX5.out (.int .i64 k4) (sv s4) (.slice A1 n1' c1) (.slice A2 n2 c2))
        have hdA := block_turn HD5.out tA (by omega)
        have tB := ((((turn_set ((((w5.setCell ⟨w.heap.size, 0, none⟩ (.int .i64 k4)).setCell ⟨w.heap.size, 1, none⟩ (sv s4)).setCell ⟨w.heap.size, 2, none⟩ (.slice A1 n1' c1)).setCell ⟨w.heap.size, 3, none⟩ (.slice A2 n2 c2)) (w.heap.size + 1) 0 (.int .i64 0)).trans (turn_set _ (w.heap.size + 1) 1 (.int .i64 0)) (fun _ _ h => h)).trans (turn_set _ (w.heap.size + 1) 2 (.int .i64 0)) (fun _ _ h => h)).trans (turn_set _ (w.heap.size + 1) 3 (.int .i64 0)) (fun _ _ h => h))
        have HXB := hid (block_turn hxA tB (by omega))
        have HDB := hid ((put4_block (b := w.heap.size + 1) hdA (.int .i64 0) (.int .i64 0) (.int .i64 0) (.int .i64 0)))
        have HTB := hid ((tA.mono (G := fun k => k = w.heap.size ∨ k = w.heap.size + 1) (fun _ _ h => .inl h)).trans tB (fun _ _ h => .inr h))
        have HSA : Hid (((((w5.setCell ⟨w.heap.size, 0, none⟩ (.int .i64 k4)).setCell ⟨w.heap.size, 1, none⟩ (sv s4)).setCell ⟨w.heap.size, 2, none⟩ (.slice A1 n1' c1)).setCell ⟨w.heap.size, 3, none⟩ (.slice A2 n2 c2)).drew.heap[w.heap.size]? = some (.cells #[.int .i64 k4, sv s4, .slice A1 n1' c1, .slice A2 n2 c2] 63 (0, 0)) ∧ ((((w5.setCell ⟨w.heap.size, 0, none⟩ (.int .i64 k4)).setCell ⟨w.heap.size, 1, none⟩ (sv s4)).setCell ⟨w.heap.size, 2, none⟩ (.slice A1 n1' c1)).setCell ⟨w.heap.size, 3, none⟩ (.slice A2 n2 c2)).drew.heap[w.heap.size + 1]? = some (.cells #[.int .i64 0, .int .i64 0, .int .i64 0, .int .i64 0] 55 (0, 0))) := hid ⟨by rw [hdh]; exact hxA, by rw [hdh]; exact hdA⟩
        clear tA hxA hdA tB
        go_wp2_with fail
        refine region_x (S := fun w' => w'.heap[w.heap.size]? = some (.cells #[.int .i64 k4, sv s4, .slice A1 n1' c1, .slice A2 n2 c2] 63 (0, 0)) ∧ w'.heap[w.heap.size + 1]? = some (.cells #[.int .i64 0, .int .i64 0, .int .i64 0, .int .i64 0] 55 (0, 0))) (x := 3) (by kernel_rfl) ?_
        try simp only [Act.put, List.getElem_toArray, List.getElem_cons_zero, List.getElem_cons_succ, List.setIfInBounds_toArray, List.set_cons_zero, List.set_cons_succ]
        refine txf 0 (.agg #[.int .i64 k4, sv s4, .slice A1 n1' c1, .slice A2 n2 c2]) PX.out HS0.out (hQ := hq_two rfl (by decide) (by decide)) ?_
        refine txf 1 (.agg #[.int .i64 0, .int .i64 0, .int .i64 0, .int .i64 0]) PD.out HS0.out (hQ := hq_two rfl (by decide) (by decide)) ?_
        refine anyX_ready (rs := [2]) (by kernel_rfl) (by simp) ?_
        refine ReadyX.cons rfl (fun K hK => ?_) (ReadyX.nil)
        go_simp
        refine hK.out _ _ HSA.out ?_
        clear hK K
        try simp only [Act.put, List.getElem_toArray, List.getElem_cons_zero, List.getElem_cons_succ, List.setIfInBounds_toArray, List.set_cons_zero, List.set_cons_succ]
        refine anyX_ready (rs := [3]) (by kernel_rfl) (by simp) ?_
        refine ReadyX.past rfl (by kernel_rfl) (fun K hK => ?_) (ReadyX.nil)
        go_simp
        refine hK.out _ _ ?_
        clear hK K
        try simp only [Act.put, List.getElem_toArray, List.getElem_cons_zero, List.getElem_cons_succ, List.setIfInBounds_toArray, List.set_cons_zero, List.set_cons_succ]
        refine anyX_done (by kernel_rfl) ?_ _
        go_wp2_with fail
        refine leaves_cons (f := 98) (args := #[.pointer (some ⟨w.heap.size, 0, none⟩), .pointer (some ⟨w.heap.size + 1, 0, none⟩)]) (by simp) (by simp [go_sem]) ?_
        refine (idle_typ _ _ _).mono ?_
        rintro e u9 w9 ⟨rfl, rfl, rfl⟩
        have e1 : Dg = (0, 0, 0) := by rw [← HDg.out, HWB.out]
        have e2 : V = x := by rw [← HV.out]; unfold okP; rw [HWB.out]; rfl
        subst e1 e2
        have hz9 := (HZ5.out.turn HTB.out (fun g _ h e => by omega)).turn (hdr (fun _ => False) _) (fun _ _ _ => id)
        have hb9 := (HT5.out.trans (HTB.out.below (B := w.heap.size) (by have := HT5.out.size; omega) (fun k hk e => by omega))).trans ((hdr (fun _ => False) _).below (by have := HT5.out.size; have := HTB.out.size; omega) (fun _ _ => id))
        exact ⟨_, results_agg2 rfl rfl rfl (by rw [hdh]; exact HXB.out) (by rw [hdh]; exact HDB.out) Tryz.underlying63 rfl (by kernel_rfl) Tryz.underlying55 rfl (by kernel_rfl), hb9, _, rfl, hz9.mono (fun g _ h => by omega)⟩
  · have hwh : wholeP (levP 100).typ s = (none, (lexL s).2) := by unfold wholeP; rw [if_neg hE]
    have e1 : Dg = (lexL s).2 := by rw [← hDg, hwh]
    have e2 : V = zeroT := by rw [← hV]; unfold okP; rw [hwh]; rfl
    subst e2
    obtain ⟨T, D1, hT⟩ : ∃ T D1, lexL s = (T, D1) := ⟨_, _, rfl⟩
    rw [hT] at HL e1 hE
    have e1 := e1.symm
    subst e1
    have hE1 : (D1.2.2 != 0) = true := by simpa using hE
    clear hE hwh hDg hV hT
    go_enter_defers Tryz.func52, Tryz.ntmps52
    go_wp2_with fail
    rw [HW0.out]
    have HDV : diagV D1 = .agg #[.int .i64 0, .int .i64 (D1.1 : Nat), .int .i64 (D1.2.1 : Nat), .int .i64 D1.2.2] := rfl
    refine (HL.out).mono ?_
    rintro e w1 ⟨v1, n1, rfl, hown, hb1⟩
    obtain ⟨A1', c1', rfl, _, _⟩ := own_sh hown
    have hs1 := hb1.size
    have hx1 := (hb1.block (w.heap.size) (by omega)).trans HX0.out
    have hd1 := (hb1.block (w.heap.size + 1) (by omega)).trans HD0.out
    have HB1 := hid (HB0.out.trans (hb1.mono (by omega)))
    have HLB1 := hid (HLB.out.below (hb1.mono (by omega)))
    obtain ⟨x0, x1, x2, x3, xz⟩ := cells4 hd1
    have t1 := put4_turn w1 (w.heap.size + 1) (.int .i64 0) (.int .i64 (D1.1 : Nat)) (.int .i64 (D1.2.1 : Nat)) (.int .i64 D1.2.2)
    have HX1 := hid (block_turn hx1 t1 (by omega))
    have HD1 := hid (put4_block hd1 (.int .i64 0) (.int .i64 (D1.1 : Nat)) (.int .i64 (D1.2.1 : Nat)) (.int .i64 D1.2.2))
    have HT1 := hid t1
    have hsp : (put4 w1 (w.heap.size + 1) (.int .i64 0) (.int .i64 (D1.1 : Nat)) (.int .i64 (D1.2.1 : Nat)) (.int .i64 D1.2.2)).heap.size = w1.heap.size := by simp [put4]
    have HOWN := hid hown
    rw [HDV]
    clear hown hb1 hx1 hd1 t1 HDV
    have PX := hid (fun (w' : World) (h : w'.heap[w.heap.size]? = some (.cells #[.int .i64 0, .string ⟨#[]⟩, .slice none 0 0, .slice none 0 0] 63 (0, 0)) ∧ w'.heap[w.heap.size + 1]? = some (.cells #[.int .i64 0, .int .i64 (D1.1 : Nat), .int .i64 (D1.2.1 : Nat), .int .i64 D1.2.2] 55 (0, 0))) => (⟨(cell_of_row _ _ _ _ _ _ h.1).trans rfl, (cell_of_row _ _ _ _ _ _ h.1).trans rfl, (cell_of_row _ _ _ _ _ _ h.1).trans rfl, (cell_of_row _ _ _ _ _ _ h.1).trans rfl⟩ : w'.cell? ⟨w.heap.size, 0, none⟩ = some (.int .i64 0) ∧ w'.cell? ⟨w.heap.size, 1, none⟩ = some (.string ⟨#[]⟩) ∧ w'.cell? ⟨w.heap.size, 2, none⟩ = some (.slice none 0 0) ∧ w'.cell? ⟨w.heap.size, 3, none⟩ = some (.slice none 0 0)))
    have PD := hid (fun (w' : World) (h : w'.heap[w.heap.size]? = some (.cells #[.int .i64 0, .string ⟨#[]⟩, .slice none 0 0, .slice none 0 0] 63 (0, 0)) ∧ w'.heap[w.heap.size + 1]? = some (.cells #[.int .i64 0, .int .i64 (D1.1 : Nat), .int .i64 (D1.2.1 : Nat), .int .i64 D1.2.2] 55 (0, 0))) => (⟨(cell_of_row _ _ _ _ _ _ h.2).trans rfl, (cell_of_row _ _ _ _ _ _ h.2).trans rfl, (cell_of_row _ _ _ _ _ _ h.2).trans rfl, (cell_of_row _ _ _ _ _ _ h.2).trans rfl⟩ : w'.cell? ⟨w.heap.size + 1, 0, none⟩ = some (.int .i64 0) ∧ w'.cell? ⟨w.heap.size + 1, 1, none⟩ = some (.int .i64 (D1.1 : Nat)) ∧ w'.cell? ⟨w.heap.size + 1, 2, none⟩ = some (.int .i64 (D1.2.1 : Nat)) ∧ w'.cell? ⟨w.heap.size + 1, 3, none⟩ = some (.int .i64 D1.2.2)))
    have HS0 : Hid ((put4 w1 (w.heap.size + 1) (.int .i64 0) (.int .i64 (D1.1 : Nat)) (.int .i64 (D1.2.1 : Nat)) (.int .i64 D1.2.2)).drew.heap[w.heap.size]? = some (.cells #[.int .i64 0, .string ⟨#[]⟩, .slice none 0 0, .slice none 0 0] 63 (0, 0)) ∧ (put4 w1 (w.heap.size + 1) (.int .i64 0) (.int .i64 (D1.1 : Nat)) (.int .i64 (D1.2.1 : Nat)) (.int .i64 D1.2.2)).drew.heap[w.heap.size + 1]? = some (.cells #[.int .i64 0, .int .i64 (D1.1 : Nat), .int .i64 (D1.2.1 : Nat), .int .i64 D1.2.2] 55 (0, 0))) := hid ⟨by rw [hdh]; exact HX1.out, by rw [hdh]; exact HD1.out⟩
    have ka0 : (put4 w1 (w.heap.size + 1) (.int .i64 0) (.int .i64 (D1.1 : Nat)) (.int .i64 (D1.2.1 : Nat)) (.int .i64 D1.2.2)).cell? ⟨w.heap.size, 0, none⟩ = some (.int .i64 0) := (cell_of_row _ _ 0 _ _ _ HX1.out).trans rfl
    have ka1 : (put4 w1 (w.heap.size + 1) (.int .i64 0) (.int .i64 (D1.1 : Nat)) (.int .i64 (D1.2.1 : Nat)) (.int .i64 D1.2.2)).cell? ⟨w.heap.size, 1, none⟩ = some (.string ⟨#[]⟩) := (cell_of_row _ _ 1 _ _ _ HX1.out).trans rfl
    have ka2 : (put4 w1 (w.heap.size + 1) (.int .i64 0) (.int .i64 (D1.1 : Nat)) (.int .i64 (D1.2.1 : Nat)) (.int .i64 D1.2.2)).cell? ⟨w.heap.size, 2, none⟩ = some (.slice none 0 0) := (cell_of_row _ _ 2 _ _ _ HX1.out).trans rfl
    have ka3 : (put4 w1 (w.heap.size + 1) (.int .i64 0) (.int .i64 (D1.1 : Nat)) (.int .i64 (D1.2.1 : Nat)) (.int .i64 D1.2.2)).cell? ⟨w.heap.size, 3, none⟩ = some (.slice none 0 0) := (cell_of_row _ _ 3 _ _ _ HX1.out).trans rfl
    have kaz : ∀ i, (put4 w1 (w.heap.size + 1) (.int .i64 0) (.int .i64 (D1.1 : Nat)) (.int .i64 (D1.2.1 : Nat)) (.int .i64 D1.2.2)).frozen? ⟨w.heap.size, i, none⟩ = false := fun i => frozen_of_row _ _ _ _ _ HX1.out
    have la0 : (put4 w1 (w.heap.size + 1) (.int .i64 0) (.int .i64 (D1.1 : Nat)) (.int .i64 (D1.2.1 : Nat)) (.int .i64 D1.2.2)).cell? ⟨w.heap.size + 1, 0, none⟩ = some (.int .i64 0) := (cell_of_row _ _ 0 _ _ _ HD1.out).trans rfl
    have la1 : (put4 w1 (w.heap.size + 1) (.int .i64 0) (.int .i64 (D1.1 : Nat)) (.int .i64 (D1.2.1 : Nat)) (.int .i64 D1.2.2)).cell? ⟨w.heap.size + 1, 1, none⟩ = some (.int .i64 (D1.1 : Nat)) := (cell_of_row _ _ 1 _ _ _ HD1.out).trans rfl
    have la2 : (put4 w1 (w.heap.size + 1) (.int .i64 0) (.int .i64 (D1.1 : Nat)) (.int .i64 (D1.2.1 : Nat)) (.int .i64 D1.2.2)).cell? ⟨w.heap.size + 1, 2, none⟩ = some (.int .i64 (D1.2.1 : Nat)) := (cell_of_row _ _ 2 _ _ _ HD1.out).trans rfl
    have la3 : (put4 w1 (w.heap.size + 1) (.int .i64 0) (.int .i64 (D1.1 : Nat)) (.int .i64 (D1.2.1 : Nat)) (.int .i64 D1.2.2)).cell? ⟨w.heap.size + 1, 3, none⟩ = some (.int .i64 D1.2.2) := (cell_of_row _ _ 3 _ _ _ HD1.out).trans rfl
    have laz : ∀ i, (put4 w1 (w.heap.size + 1) (.int .i64 0) (.int .i64 (D1.1 : Nat)) (.int .i64 (D1.2.1 : Nat)) (.int .i64 D1.2.2)).frozen? ⟨w.heap.size + 1, i, none⟩ = false := fun i => frozen_of_row _ _ _ _ _ HD1.out
    have tA := ((((turn_set (put4 w1 (w.heap.size + 1) (.int .i64 0) (.int .i64 (D1.1 : Nat)) (.int .i64 (D1.2.1 : Nat)) (.int .i64 D1.2.2)) (w.heap.size) 0 (.int .i64 0)).trans (turn_set _ (w.heap.size) 1 (.string ⟨#[]⟩)) (fun _ _ h => h)).trans (turn_set _ (w.heap.size) 2 (.slice none 0 0)) (fun _ _ h => h)).trans (turn_set _ (w.heap.size) 3 (.slice none 0 0)) (fun _ _ h => h))
    have hxA := (put4_block (b := w.heap.size) HX1.out (.int .i64 0) (.string ⟨#[]⟩) (.slice none 0 0) (.slice none 0 0))
    have hdA := block_turn HD1.out tA (by omega)
    have tB := ((((turn_set (((((put4 w1 (w.heap.size + 1) (.int .i64 0) (.int .i64 (D1.1 : Nat)) (.int .i64 (D1.2.1 : Nat)) (.int .i64 D1.2.2)).setCell ⟨w.heap.size, 0, none⟩ (.int .i64 0)).setCell ⟨w.heap.size, 1, none⟩ (.string ⟨#[]⟩)).setCell ⟨w.heap.size, 2, none⟩ (.slice none 0 0)).setCell ⟨w.heap.size, 3, none⟩ (.slice none 0 0)) (w.heap.size + 1) 0 (.int .i64 0)).trans (turn_set _ (w.heap.size + 1) 1 (.int .i64 (D1.1 : Nat))) (fun _ _ h => h)).trans (turn_set _ (w.heap.size + 1) 2 (.int .i64 (D1.2.1 : Nat))) (fun _ _ h => h)).trans (turn_set _ (w.heap.size + 1) 3 (.int .i64 D1.2.2)) (fun _ _ h => h))
    have HXB := hid (block_turn hxA tB (by omega))
    have HDB := hid ((put4_block (b := w.heap.size + 1) hdA (.int .i64 0) (.int .i64 (D1.1 : Nat)) (.int .i64 (D1.2.1 : Nat)) (.int .i64 D1.2.2)))
    have HTB := hid ((tA.mono (G := fun k => k = w.heap.size ∨ k = w.heap.size + 1) (fun _ _ h => .inl h)).trans tB (fun _ _ h => .inr h))
    have HSA : Hid ((((((put4 w1 (w.heap.size + 1) (.int .i64 0) (.int .i64 (D1.1 : Nat)) (.int .i64 (D1.2.1 : Nat)) (.int .i64 D1.2.2)).setCell ⟨w.heap.size, 0, none⟩ (.int .i64 0)).setCell ⟨w.heap.size, 1, none⟩ (.string ⟨#[]⟩)).setCell ⟨w.heap.size, 2, none⟩ (.slice none 0 0)).setCell ⟨w.heap.size, 3, none⟩ (.slice none 0 0)).drew.heap[w.heap.size]? = some (.cells #[.int .i64 0, .string ⟨#[]⟩, .slice none 0 0, .slice none 0 0] 63 (0, 0)) ∧ (((((put4 w1 (w.heap.size + 1) (.int .i64 0) (.int .i64 (D1.1 : Nat)) (.int .i64 (D1.2.1 : Nat)) (.int .i64 D1.2.2)).setCell ⟨w.heap.size, 0, none⟩ (.int .i64 0)).setCell ⟨w.heap.size, 1, none⟩ (.string ⟨#[]⟩)).setCell ⟨w.heap.size, 2, none⟩ (.slice none 0 0)).setCell ⟨w.heap.size, 3, none⟩ (.slice none 0 0)).drew.heap[w.heap.size + 1]? = some (.cells #[.int .i64 0, .int .i64 (D1.1 : Nat), .int .i64 (D1.2.1 : Nat), .int .i64 D1.2.2] 55 (0, 0))) := hid ⟨by rw [hdh]; exact hxA, by rw [hdh]; exact hdA⟩
    clear tA hxA hdA tB
    go_wp2_with fail
    refine region_x (S := fun w' => w'.heap[w.heap.size]? = some (.cells #[.int .i64 0, .string ⟨#[]⟩, .slice none 0 0, .slice none 0 0] 63 (0, 0)) ∧ w'.heap[w.heap.size + 1]? = some (.cells #[.int .i64 0, .int .i64 (D1.1 : Nat), .int .i64 (D1.2.1 : Nat), .int .i64 D1.2.2] 55 (0, 0))) (x := 3) (by kernel_rfl) ?_
    try simp only [Act.put, List.getElem_toArray, List.getElem_cons_zero, List.getElem_cons_succ, List.setIfInBounds_toArray, List.set_cons_zero, List.set_cons_succ]
    refine txf 0 (.agg #[.int .i64 0, .string ⟨#[]⟩, .slice none 0 0, .slice none 0 0]) PX.out HS0.out (hQ := fun c a w h => hq_two rfl (by decide) (by decide) c a w h) ?_
    refine txf 1 (.agg #[.int .i64 0, .int .i64 (D1.1 : Nat), .int .i64 (D1.2.1 : Nat), .int .i64 D1.2.2]) PD.out HS0.out (hQ := fun c a w h => hq_two rfl (by decide) (by decide) c a w h) ?_
    refine anyX_ready (rs := [2]) (by kernel_rfl) (by simp) ?_
    refine ReadyX.cons rfl (fun K hK => ?_) (ReadyX.nil)
    go_simp
    refine hK.out _ _ HSA.out ?_
    clear hK K
    try simp only [Act.put, List.getElem_toArray, List.getElem_cons_zero, List.getElem_cons_succ, List.setIfInBounds_toArray, List.set_cons_zero, List.set_cons_succ]
    refine anyX_ready (rs := [3]) (by kernel_rfl) (by simp) ?_
    refine ReadyX.past rfl (by kernel_rfl) (fun K hK => ?_) (ReadyX.nil)
    go_simp
    refine hK.out _ _ ?_
    clear hK K
    try simp only [Act.put, List.getElem_toArray, List.getElem_cons_zero, List.getElem_cons_succ, List.setIfInBounds_toArray, List.set_cons_zero, List.set_cons_succ]
    refine anyX_done (by kernel_rfl) ?_ _
    go_wp2_with fail
    have hb9 := ((HB1.out.trans (HT1.out.below (B := w.heap.size) (by omega) (fun k hk e => by omega))).trans (HTB.out.below (B := w.heap.size) (by rw [hsp]; omega) (fun k hk e => by omega))).trans ((hdr (fun _ => False) _).below (by have := HTB.out.size; rw [hsp] at this; omega) (fun _ _ => id))
    exact ⟨_, results_agg2 rfl rfl rfl (by rw [hdh]; exact HXB.out) (by rw [hdh]; exact HDB.out) Tryz.underlying63 rfl (by kernel_rfl) Tryz.underlying55 rfl (by kernel_rfl), hb9, _, rfl, .mk (SlG.nil _ _ _) (SlG.nil _ _ _) .nil⟩
set_option maxRecDepth 100000 in
set_option maxHeartbeats 4000000 in
theorem ttyp_any (w : World) (s : Bt) (hX : LaidX w) : Calls Tryz.prog 26 #[sv s] w fun e w' => Below w.heap.size w w' ∧ ∃ z : List Value, e = .returned (.tuple #[.agg z.toArray, dgV (wholeP (levP 100).typ s).2]) ∧ TyG w' (fun j => w.heap.size ≤ j) z (okP (levP 100).typ s zeroT) := by
  obtain ⟨W0, hW0⟩ : ∃ W0, ((w.alloc (.cells #[.int .i64 0, .string ⟨#[]⟩, .slice none 0 0, .slice none 0 0] 63)).alloc (.cells #[.int .i64 0, .int .i64 0, .int .i64 0, .int .i64 0] 55)) = W0 := ⟨_, rfl⟩
  obtain ⟨tw, _, hx0, hd0⟩ := after2 (G := fun _ => False) (Turn.refl _ ((w.alloc (.cells #[.int .i64 0, .string ⟨#[]⟩, .slice none 0 0, .slice none 0 0] 63)).alloc (.cells #[.int .i64 0, .int .i64 0, .int .i64 0, .int .i64 0] 55)))
  have hs0 : W0.heap.size = w.heap.size + 2 := by rw [← hW0]; simp
  have hb0 : Below w.heap.size w W0 := by rw [← hW0]; exact new2 _ _ _
  rw [hW0] at tw hx0 hd0
  have HX0 := hid (hx0 id)
  have HD0 := hid (hd0 id)
  have HB0 := hid hb0
  have HA := hid (all_typ W0 s (hX.below hb0))
  have HW0 := hid hW0
  obtain ⟨Dg, hDg⟩ : ∃ Dg, (wholeP (levP 100).typ s).2 = Dg := ⟨_, rfl⟩
  obtain ⟨V, hV⟩ : ∃ V, okP (levP 100).typ s zeroT = V := ⟨_, rfl⟩
  rw [hDg, hV] at HA
  rw [hDg, hV]
  clear hX tw hx0 hd0 hb0 hW0 hDg hV
  go_enter Tryz.func26, Tryz.ntmps26
  go_wp2_with fail
  rw [HW0.out]
  refine (HA.out).mono ?_
  rintro e w1 ⟨hb1, z0, rfl, hz0⟩
  have hzc := hz0
  obtain ⟨k4, s4, A1, n1', c1, A2, n2, c2, rfl⟩ := hzc.shape'
  have hs1 := hb1.size
  have hx1 := (hb1.block (w.heap.size) (by omega)).trans HX0.out
  have hd1 := (hb1.block (w.heap.size + 1) (by omega)).trans HD0.out
  have tA : Turn (fun k => k = w.heap.size) w1 ((((w1.setCell ⟨w.heap.size, 0, none⟩ (.int .i64 k4)).setCell ⟨w.heap.size, 1, none⟩ (sv s4)).setCell ⟨w.heap.size, 2, none⟩ (.slice A1 n1' c1)).setCell ⟨w.heap.size, 3, none⟩ (.slice A2 n2 c2)) := ((((turn_set w1 (w.heap.size) 0 (.int .i64 k4)).trans (turn_set _ (w.heap.size) 1 (sv s4)) (fun _ _ h => h)).trans (turn_set _ (w.heap.size) 2 (.slice A1 n1' c1)) (fun _ _ h => h)).trans (turn_set _ (w.heap.size) 3 (.slice A2 n2 c2)) (fun _ _ h => h))
  have hxA := (put4_block (b := w.heap.size) hx1 (.int .i64 k4) (sv s4) (.slice A1 n1' c1) (.slice A2 n2 c2))
  have hdA := block_turn hd1 tA (by omega)
  have tB := ((((turn_set ((((w1.setCell ⟨w.heap.size, 0, none⟩ (.int .i64 k4)).setCell ⟨w.heap.size, 1, none⟩ (sv s4)).setCell ⟨w.heap.size, 2, none⟩ (.slice A1 n1' c1)).setCell ⟨w.heap.size, 3, none⟩ (.slice A2 n2 c2)) (w.heap.size + 1) 0 (.int .i64 0)).trans (turn_set _ (w.heap.size + 1) 1 (.int .i64 (Dg.1 : Nat))) (fun _ _ h => h)).trans (turn_set _ (w.heap.size + 1) 2 (.int .i64 (Dg.2.1 : Nat))) (fun _ _ h => h)).trans (turn_set _ (w.heap.size + 1) 3 (.int .i64 Dg.2.2)) (fun _ _ h => h))
  have HXB := hid (block_turn hxA tB (by omega))
  have HDB := hid ((put4_block (b := w.heap.size + 1) hdA (.int .i64 0) (.int .i64 (Dg.1 : Nat)) (.int .i64 (Dg.2.1 : Nat)) (.int .i64 Dg.2.2)))
  have HTB := hid ((tA.mono (G := fun k => k = w.heap.size ∨ k = w.heap.size + 1) (fun _ _ h => .inl h)).trans tB (fun _ _ h => .inr h))
  have HZ := hid hz0
  have HB1 := hid (HB0.out.trans (hb1.mono (by omega)))
  have u0 : w1.cell? ⟨w.heap.size, 0, none⟩ = some (.int .i64 0) := (cell_of_row _ _ 0 _ _ _ hx1).trans rfl
  have u1 : w1.cell? ⟨w.heap.size, 1, none⟩ = some (.string ⟨#[]⟩) := (cell_of_row _ _ 1 _ _ _ hx1).trans rfl
  have u2 : w1.cell? ⟨w.heap.size, 2, none⟩ = some (.slice none 0 0) := (cell_of_row _ _ 2 _ _ _ hx1).trans rfl
  have u3 : w1.cell? ⟨w.heap.size, 3, none⟩ = some (.slice none 0 0) := (cell_of_row _ _ 3 _ _ _ hx1).trans rfl
  have l0 : w1.cell? ⟨w.heap.size + 1, 0, none⟩ = some (.int .i64 0) := (cell_of_row _ _ 0 _ _ _ hd1).trans rfl
  have l1 : w1.cell? ⟨w.heap.size + 1, 1, none⟩ = some (.int .i64 0) := (cell_of_row _ _ 1 _ _ _ hd1).trans rfl
  have l2 : w1.cell? ⟨w.heap.size + 1, 2, none⟩ = some (.int .i64 0) := (cell_of_row _ _ 2 _ _ _ hd1).trans rfl
  have l3 : w1.cell? ⟨w.heap.size + 1, 3, none⟩ = some (.int .i64 0) := (cell_of_row _ _ 3 _ _ _ hd1).trans rfl
  have uz : ∀ i, w1.frozen? ⟨w.heap.size, i, none⟩ = false := fun i => frozen_of_row _ _ _ _ _ hx1
  have lz : ∀ i, w1.frozen? ⟨w.heap.size + 1, i, none⟩ = false := fun i => frozen_of_row _ _ _ _ _ hd1
  clear hb1 hz0 hx1 hd1 tA hxA hdA tB hzc
  go_wp2_with fail
  refine bodyPost_ret (results_agg2 rfl rfl rfl HXB.out HDB.out Tryz.underlying63 rfl (by kernel_rfl) Tryz.underlying55 rfl (by kernel_rfl)) rfl ?_
  exact ⟨HB1.out.trans (HTB.out.below (B := w.heap.size) (by omega) (fun k hk e => by omega)), _, rfl, (HZ.out.turn HTB.out (fun g _ h e => by omega)).mono (fun g _ h => by omega)⟩
end Go.Proofs.YtmbppnbekkbibaaGreatDoor
end
