/- The reference's reader of bytes: functions. -/
import Derived.Test.YtpnggkkfoipfhaaCV
set_option linter.unusedVariables false
namespace Go.Proofs.Ytpnggkkfoipfhaa
open Go.RowKit

/-- A struct of the loop's own, behind whatever was there. -/
structure LocAt (T : TypeId) (w0 : World) (bk B : Nat) (w : World) (cs : Array Value) (σ : Option Bt) : Prop where
  turn : Turn (fun k => k = bk) w0 w
  rd : RsO w bk B σ
  arr : w.heap[w0.heap.size]? = some (.cells cs T (0, 0))
section
variable {T : TypeId} {w0 w w1 : World} {bk B : Nat} {cs : Array Value} {σ σ' : Option Bt}
theorem LocAt.start (o : Array Value) (T : TypeId) (h : RsO w0 bk B σ) : LocAt T w0 bk B (w0.alloc (.cells o T)) o σ := by
  have hb : Below w0.heap.size w0 (w0.alloc (.cells o T)) := (Below.refl _ _).alloc (Nat.le_refl _) _
  exact ⟨Turn.of_below hb, h.below hb, heap_alloc_new w0 _⟩
theorem LocAt.call (h : LocAt T w0 bk B w cs σ) (hb : bk < w0.heap.size) (t : Turn (fun k => k = bk) w w1) (hr : RsO w1 bk B σ') : LocAt T w0 bk B w1 cs σ' :=
  ⟨turn_same h.turn t, hr, block_turn h.arr t (by omega)⟩
theorem LocAt.set (h : LocAt T w0 bk B w cs σ) (hb : bk < w0.heap.size) (i : Nat) (v : Value) : LocAt T w0 bk B (w.setCell ⟨w0.heap.size, i, none⟩ v) (cs.setIfInBounds i v) σ := by
  have t := turn_set w w0.heap.size i v
  have := h.rd.base
  exact ⟨h.turn.trans t (fun j hj e => by omega), h.rd.turn t (by omega) (fun j hj e => by omega), heap_setCell_same _ _ _ _ _ _ h.arr⟩
theorem LocAt.cell (h : LocAt T w0 bk B w cs σ) (i : Nat) : w.cell? ⟨w0.heap.size, i, none⟩ = cs[i]? := cell_of_row _ _ _ _ _ _ h.arr
theorem LocAt.free (h : LocAt T w0 bk B w cs σ) (i : Nat) : w.frozen? ⟨w0.heap.size, i, none⟩ = false := block_free h.arr i
end
theorem instr_cells {w : World} {a b c d : Value} {x : Int × Int × Int × Int} (h : ∃ a' b' c' d', Value.agg #[a, b, c, d] = .agg #[a', b', c', d'] ∧ RInstr w [a', b', c', d'] x) : RInstr w [a, b, c, d] x := by
  obtain ⟨a', b', c', d', e, h⟩ := h
  injection e with e
  have e := congrArg Array.toList e
  simp only [List.cons.injEq, and_true] at e
  obtain ⟨rfl, rfl, rfl, rfl⟩ := e
  exact h
theorem so_instr {bk B : Nat} {w w' : World} {r : Bt} {p0 p1 p2 p3 : Option (Int × Bt)} {x0 x1 x2 x3 : Int} (h0 : numD r = p0) (h1 : (p0.map (·.2)).bind numD = p1) (h2 : (p1.map (·.2)).bind numD = p2) (h3 : (p2.map (·.2)).bind numD = p3)
    (e0 : ∀ x r, p0 = some (x, r) → x0 = x) (e1 : ∀ x r, p1 = some (x, r) → x1 = x) (e2 : ∀ x r, p2 = some (x, r) → x2 = x) (e3 : ∀ x r, p3 = some (x, r) → x3 = x) (t : Turn (fun k => k = bk) w w') (hr : RsO w' bk B (p3.map (·.2))) :
    SobR (fun w z x => ∃ a b c d, z = .agg #[a, b, c, d] ∧ RInstr w [a, b, c, d] x) (fun _ => True) bk B w (instrD r) (.agg #[.int .i64 x0, .int .i64 x1, .int .i64 x2, .int .i64 x3]) w' := by
  rcases p0 with _ | ⟨y0, r0⟩
  · subst h1; subst h2; subst h3
    obtain ⟨l, hl⟩ := hr
    exact SobF.bad (by simp only [instrD, andD, h0]) t trivial hl
  replace h1 : numD r0 = p1 := h1
  rcases p1 with _ | ⟨y1, r1⟩
  · subst h2; subst h3
    obtain ⟨l, hl⟩ := hr
    exact SobF.bad (by simp only [instrD, andD, h0, h1]) t trivial hl
  replace h2 : numD r1 = p2 := h2
  rcases p2 with _ | ⟨y2, r2⟩
  · subst h3
    obtain ⟨l, hl⟩ := hr
    exact SobF.bad (by simp only [instrD, andD, h0, h1, h2]) t trivial hl
  replace h3 : numD r2 = p3 := h3
  rcases p3 with _ | ⟨y3, r3⟩
  · obtain ⟨l, hl⟩ := hr
    exact SobF.bad (by simp only [instrD, andD, h0, h1, h2, h3]) t trivial hl
  obtain rfl := e0 _ _ rfl
  obtain rfl := e1 _ _ rfl
  obtain rfl := e2 _ _ rfl
  obtain rfl := e3 _ _ rfl
  exact SobF.good (x := (x0, x1, x2, x3)) (by simp only [instrD, andD, h0, h1, h2, h3]) t (fun _ _ => ⟨_, _, _, _, rfl, rfl⟩) hr
theorem sl_new_set (w : World) (p : Addr) (v : Value) (cs : Array Value) (t : TypeId) (k n : Nat) (hs : cs.size = n * k) (hn : n ≤ maxLen) : Sl ((w.setCell p v).alloc (.cells cs t)) (w.heap.size + 1) k (.slice (some ⟨w.heap.size, 0, none⟩) n n) cs.toList := by
  have h := sl_new (w.setCell p v) cs t k n hs hn
  rw [show (w.setCell p v).heap.size = w.heap.size by simp] at h
  exact h
theorem proc_chain {σ : Option Bt} {qa qc : Option (Int × Bt)} {qi : Option (List (Int × Int × Int × Int) × Bt)} (ha : σ.bind numD = qa) (hc : (qa.map (·.2)).bind numD = qc) (hi : (qc.map (·.2)).bind (allD instrD) = qi) :
    (∃ a r1 c r2 l r3, qa = some (a, r1) ∧ qc = some (c, r2) ∧ qi = some (l, r3) ∧ σ.bind procD = some (⟨a, c, l⟩, r3)) ∨ (σ.bind procD = none ∧ qi = none) := by
  rcases σ with _ | s
  · subst ha; subst hc; subst hi; exact .inr ⟨rfl, rfl⟩
  replace ha : numD s = qa := ha
  show (∃ a r1 c r2 l r3, _ ∧ _ ∧ _ ∧ procD s = _) ∨ (procD s = none ∧ _)
  rcases qa with _ | ⟨a, r1⟩
  · subst hc; subst hi; exact .inr ⟨by simp only [procD, mapD, andD, ha], rfl⟩
  replace hc : numD r1 = qc := hc
  rcases qc with _ | ⟨c, r2⟩
  · subst hi; exact .inr ⟨by simp only [procD, mapD, andD, ha, hc], rfl⟩
  replace hi : allD instrD r2 = qi := hi
  rcases qi with _ | ⟨l, r3⟩
  · exact .inr ⟨by simp only [procD, mapD, andD, ha, hc, hi], rfl⟩
  exact .inl ⟨a, r1, c, r2, l, r3, rfl, rfl, rfl, by simp only [procD, mapD, andD, ha, hc, hi]⟩
set_option maxRecDepth 100000 in
set_option maxHeartbeats 16000000 in
theorem soproc_any (w : World) (bk B : Nat) (σ : Option Bt) (hR : RsO w bk B σ) :
    Calls Try.prog 36 #[.pointer (some ⟨bk, 0, none⟩)] w (Sob (ElK 3 RProc) IsProc bk B w (σ.bind procD)) := by
  have FX := hid (fix_two hR)
  have S0 := hid (SoAt.start (T := 47) #[.int .i64 0, .int .i64 0, .slice none 0 0] hR)
  have HLT := hid hR.lt
  clear hR
  go_enter Try.func36, Try.ntmps36
  have Ca := hid (sonum_any ((w.alloc (.cells #[.int .i64 0, .int .i64 0, .slice none 0 0] 47)).alloc (.cells #[.int .i64 0, .int .i64 0, .slice none 0 0] 47)) bk B _ S0.out.rd)
  go_wp2_with fail
  refine Ca.out.mono ?_
  rintro e wa ⟨va, rfl, h2⟩
  obtain ⟨qa, hq⟩ : ∃ qa, σ.bind numD = qa := ⟨_, rfl⟩
  rw [hq] at h2
  have HQa := hid hq
  obtain ⟨xa, rfl⟩ : ∃ x, va = .int .i64 x := h2.shape (fun _ x h => ⟨_, h⟩) (fun h => ⟨_, h⟩)
  have HXa : Hid (∀ x r, qa = some (x, r) → xa = x) := hid (fun x r hx => by have := (h2.some_ hx).1 _ (Turn.refl _ _); injection this)
  have Sa := hid (S0.out.call FX.out h2.1 h2.rs)
  have e0 : wa.cell? ⟨w.heap.size + 1, 0, none⟩ = some (.int .i64 0) := Sa.out.cell 0
  have e1 : wa.cell? ⟨w.heap.size + 1, 1, none⟩ = some (.int .i64 0) := Sa.out.cell 1
  have e2 : wa.cell? ⟨w.heap.size + 1, 2, none⟩ = some (.slice none 0 0) := Sa.out.cell 2
  have z0 := Sa.out.free
  clear h2 hq Ca
  have Sa9 := hid (Sa.out.set FX.out 0 (.int .i64 xa))
  have Cc := hid (sonum_any (wa.setCell ⟨w.heap.size + 1, 0, none⟩ (.int .i64 xa)) bk B _ Sa9.out.rd)
  go_wp2_with fail
  refine Cc.out.mono ?_
  rintro e wc ⟨vc, rfl, h2⟩
  obtain ⟨qc, hq⟩ : ∃ qc, (qa.map (·.2)).bind numD = qc := ⟨_, rfl⟩
  rw [hq] at h2
  have HQc := hid hq
  obtain ⟨xc, rfl⟩ : ∃ x, vc = .int .i64 x := h2.shape (fun _ x h => ⟨_, h⟩) (fun h => ⟨_, h⟩)
  have HXc : Hid (∀ x r, qc = some (x, r) → xc = x) := hid (fun x r hx => by have := (h2.some_ hx).1 _ (Turn.refl _ _); injection this)
  have Sc := hid (Sa9.out.call FX.out h2.1 h2.rs)
  have e0 : wc.cell? ⟨w.heap.size + 1, 0, none⟩ = some (.int .i64 xa) := Sc.out.cell 0
  have e1 : wc.cell? ⟨w.heap.size + 1, 1, none⟩ = some (.int .i64 0) := Sc.out.cell 1
  have e2 : wc.cell? ⟨w.heap.size + 1, 2, none⟩ = some (.slice none 0 0) := Sc.out.cell 2
  have z0 := Sc.out.free
  clear h2 hq Cc
  have Sc9 := hid (Sc.out.set FX.out 1 (.int .i64 xc))
  have Cn := hid (somany_any (wc.setCell ⟨w.heap.size + 1, 1, none⟩ (.int .i64 xc)) bk B _ Sc9.out.rd)
  go_wp2_with fail
  clear e0 e1 e2 z0
  refine Cn.out.mono ?_
  rintro e wn ⟨vn, rfl, h2⟩
  obtain ⟨Wi, hW⟩ : ∃ Wi, (wc.setCell ⟨w.heap.size + 1, 1, none⟩ (.int .i64 xc)) = Wi := ⟨_, rfl⟩
  rw [hW] at h2 Sc9 
  clear hW Cn
  obtain ⟨mi, rfl, hn0, hst⟩ := lo_start (k := 4) (T := 64) (R := RInstr) (d1 := instrD) (F := (fun k => k = bk ∨ k = w.heap.size + 1)) h2 (h2.1.mono fun j _ hj => .inl hj)
  obtain ⟨qi, hq⟩ : ∃ qi, (qc.map (·.2)).bind (allD instrD) = qi := ⟨_, rfl⟩
  rw [hq] at hst
  have HQi := hid hq
  have HST := hid hst
  have HAR := hid (Sc9.out.call FX.out h2.1 h2.rs).arr
  have HFS : Hid (∀ j, (j = bk ∨ j = w.heap.size + 1) → j < Wi.heap.size) := hid (fun j hj => by have := Sc9.out.size; have := FX.out.km; have := FX.out.vm; rcases hj with rfl | rfl <;> omega)
  clear h2 hst hq
  go_wp2_with fail
  go_loopw [5] (fun v5 wr => ∃ (i : Nat) (v : Value), v5 = .int .i64 (i : Int) ∧ i ≤ mi ∧ LoS 4 64 RInstr instrD (fun k => k = bk ∨ k = w.heap.size + 1) Wi bk B mi qi wr v i ∧ wr.heap[w.heap.size + 1]? = some (.cells #[.int .i64 xa, .int .i64 xc, v] 47 (0, 0))) (fun v5 _ => mi - (intOf v5).toNat)
  case atStart => exact ⟨0, _, rfl, by omega, HST.out, HAR.out⟩
  case round =>
    obtain ⟨i, v, rfl, hi, hat, har⟩ := hrel
    obtain ⟨Ai, ni, ci, rfl⟩ := hat.shape
    have HARR := hid har
    clear har
    by_cases hlt : i < mi
    · have hlt1 := hlt
      rcases hat with ⟨ys, xs, r, hat⟩ | hat
      · obtain ⟨A, c, hn1, hc1, hL1, hB1, hbs, hb, d1, d2, z1, z2⟩ := hat.rd.parts
        have HAT := hid hat
        clear hat hbs hb d1 z1 z2
        have L0 := hid (LocAt.start #[.int .i64 0, .int .i64 0, .int .i64 0, .int .i64 0] 64 (show RsO wr bk B (some r) from HAT.out.rd))
        have hbkr := HAT.out.rd.lt
        have HN := hid (sonum_any (wr.alloc (.cells #[.int .i64 0, .int .i64 0, .int .i64 0, .int .i64 0] 64)) bk B _ L0.out.rd)
        go_wp2_with fail
        refine HN.out.mono ?_
        rintro e u0 ⟨vk, rfl, h5⟩
        obtain ⟨p0, hp⟩ : ∃ p0, numD r = p0 := ⟨_, rfl⟩
        rw [show (some r).bind numD = p0 from hp] at h5
        have HP0 := hid hp
        obtain ⟨x0, rfl⟩ : ∃ x, vk = .int .i64 x := h5.shape (fun _ x h => ⟨_, h⟩) (fun h => ⟨_, h⟩)
        have HX0 : Hid (∀ x r, p0 = some (x, r) → x0 = x) := hid (fun x r hx => by have := (h5.some_ hx).1 _ (Turn.refl _ _); injection this)
        have L0a := hid (L0.out.call hbkr h5.1 h5.rs)
        clear h5 hp HN d2
        have l0 : u0.cell? ⟨wr.heap.size, 0, none⟩ = some (.int .i64 0) := L0a.out.cell 0
        have l1 : u0.cell? ⟨wr.heap.size, 1, none⟩ = some (.int .i64 0) := L0a.out.cell 1
        have l2 : u0.cell? ⟨wr.heap.size, 2, none⟩ = some (.int .i64 0) := L0a.out.cell 2
        have l3 : u0.cell? ⟨wr.heap.size, 3, none⟩ = some (.int .i64 0) := L0a.out.cell 3
        have lz := L0a.out.free
        have L0b := hid (L0a.out.set hbkr 0 (.int .i64 x0))
        have HN := hid (sonum_any (u0.setCell ⟨wr.heap.size, 0, none⟩ (.int .i64 x0)) bk B _ L0b.out.rd)
        go_wp2_with fail
        refine HN.out.mono ?_
        rintro e u1 ⟨vk, rfl, h5⟩
        obtain ⟨p1, hp⟩ : ∃ p1, (p0.map (·.2)).bind numD = p1 := ⟨_, rfl⟩
        rw [hp] at h5
        have HP1 := hid hp
        obtain ⟨x1, rfl⟩ : ∃ x, vk = .int .i64 x := h5.shape (fun _ x h => ⟨_, h⟩) (fun h => ⟨_, h⟩)
        have HX1 : Hid (∀ x r, p1 = some (x, r) → x1 = x) := hid (fun x r hx => by have := (h5.some_ hx).1 _ (Turn.refl _ _); injection this)
        have L1a := hid (L0b.out.call hbkr h5.1 h5.rs)
        clear h5 hp HN l0 l1 l2 l3 lz
        have l0 : u1.cell? ⟨wr.heap.size, 0, none⟩ = some (.int .i64 x0) := L1a.out.cell 0
        have l1 : u1.cell? ⟨wr.heap.size, 1, none⟩ = some (.int .i64 0) := L1a.out.cell 1
        have l2 : u1.cell? ⟨wr.heap.size, 2, none⟩ = some (.int .i64 0) := L1a.out.cell 2
        have l3 : u1.cell? ⟨wr.heap.size, 3, none⟩ = some (.int .i64 0) := L1a.out.cell 3
        have lz := L1a.out.free
        have L1b := hid (L1a.out.set hbkr 1 (.int .i64 x1))
        have HN := hid (sonum_any (u1.setCell ⟨wr.heap.size, 1, none⟩ (.int .i64 x1)) bk B _ L1b.out.rd)
        go_wp2_with fail
        refine HN.out.mono ?_
        rintro e u2 ⟨vk, rfl, h5⟩
        obtain ⟨p2, hp⟩ : ∃ p2, (p1.map (·.2)).bind numD = p2 := ⟨_, rfl⟩
        rw [hp] at h5
        have HP2 := hid hp
        obtain ⟨x2, rfl⟩ : ∃ x, vk = .int .i64 x := h5.shape (fun _ x h => ⟨_, h⟩) (fun h => ⟨_, h⟩)
        have HX2 : Hid (∀ x r, p2 = some (x, r) → x2 = x) := hid (fun x r hx => by have := (h5.some_ hx).1 _ (Turn.refl _ _); injection this)
        have L2a := hid (L1b.out.call hbkr h5.1 h5.rs)
        clear h5 hp HN l0 l1 l2 l3 lz
        have l0 : u2.cell? ⟨wr.heap.size, 0, none⟩ = some (.int .i64 x0) := L2a.out.cell 0
        have l1 : u2.cell? ⟨wr.heap.size, 1, none⟩ = some (.int .i64 x1) := L2a.out.cell 1
        have l2 : u2.cell? ⟨wr.heap.size, 2, none⟩ = some (.int .i64 0) := L2a.out.cell 2
        have l3 : u2.cell? ⟨wr.heap.size, 3, none⟩ = some (.int .i64 0) := L2a.out.cell 3
        have lz := L2a.out.free
        have L2b := hid (L2a.out.set hbkr 2 (.int .i64 x2))
        have HN := hid (sonum_any (u2.setCell ⟨wr.heap.size, 2, none⟩ (.int .i64 x2)) bk B _ L2b.out.rd)
        go_wp2_with fail
        refine HN.out.mono ?_
        rintro e u3 ⟨vk, rfl, h5⟩
        obtain ⟨p3, hp⟩ : ∃ p3, (p2.map (·.2)).bind numD = p3 := ⟨_, rfl⟩
        rw [hp] at h5
        have HP3 := hid hp
        obtain ⟨x3, rfl⟩ : ∃ x, vk = .int .i64 x := h5.shape (fun _ x h => ⟨_, h⟩) (fun h => ⟨_, h⟩)
        have HX3 : Hid (∀ x r, p3 = some (x, r) → x3 = x) := hid (fun x r hx => by have := (h5.some_ hx).1 _ (Turn.refl _ _); injection this)
        have L3a := hid (L2b.out.call hbkr h5.1 h5.rs)
        clear h5 hp HN l0 l1 l2 l3 lz
        have l0 : u3.cell? ⟨wr.heap.size, 0, none⟩ = some (.int .i64 x0) := L3a.out.cell 0
        have l1 : u3.cell? ⟨wr.heap.size, 1, none⟩ = some (.int .i64 x1) := L3a.out.cell 1
        have l2 : u3.cell? ⟨wr.heap.size, 2, none⟩ = some (.int .i64 x2) := L3a.out.cell 2
        have l3 : u3.cell? ⟨wr.heap.size, 3, none⟩ = some (.int .i64 0) := L3a.out.cell 3
        have lz := L3a.out.free
        have L3b := hid (L3a.out.set hbkr 3 (.int .i64 x3))
        have h45 := so_instr HP0.out HP1.out HP2.out HP3.out HX0.out HX1.out HX2.out HX3.out L3b.out.turn L3b.out.rd
        have HL3 := L3b
        have H45 := hid h45
        have hsz5 : Wi.heap.size ≤ ((u3.setCell ⟨wr.heap.size, 3, none⟩ (.int .i64 x3))).heap.size := Nat.le_trans HAT.out.turn.size h45.1.size
        have HROW5 := hid (own_turn HAT.out.row h45.1 (fun g hg e => by have := (HAT.out.row.lt g hg).1; have := HFS.out _ (.inl e); omega))
        have harr5 := block_turn HARR.out h45.1 (Ne.symm FX.out.kv)
        have HARR5 := hid harr5
        have harr6 := block_turn HARR.out L3a.out.turn (Ne.symm FX.out.kv)
        have k1 : u3.cell? ⟨w.heap.size + 1, 2, none⟩ = some (.slice Ai ni ci) := (cell_of_row _ _ _ _ _ _ harr6).trans rfl
        have hbv5 : w.heap.size + 1 < wr.heap.size := block_lt HARR.out
        clear harr6
        have HIL := HAT.out.row.1
        have H1 : Hid (∀ u ∈ ([Value.int .i64 x0, .int .i64 x1, .int .i64 x2, .int .i64 x3] : List Value), u.oneCell' = true) := hid (by intro u hu; simp only [List.mem_cons, List.not_mem_nil, or_false] at hu; rcases hu with rfl | rfl | rfl | rfl <;> rfl)
        clear h45 harr5
        go_wp2_with (at_builtin; go_must (refine wpList_app rfl _ _ _ rfl Wi.heap.size el_rd_instr _ _ rfl rfl (HROW5.out.alloc _) (sl_new_set u3 _ _ _ _ 4 1 rfl (by decide)) H1.out (by simp [maxLen]; omega) (by simp; omega) (le_alloc hsz5 _) (fun v9 w9 n9 hown9 hg9 hbk9 => ?_)); have HS9 := hid (lo_next HAT.out HFS.out (.inl rfl) hlt1 H45.out (z := [Value.int .i64 x0, .int .i64 x1, .int .i64 x2, .int .i64 x3]) rfl (fun w x h => instr_cells h) ((Below.refl _ _).alloc (Nat.le_refl _) _) hg9 (by have h9 := hown9.1; simp at h9 HIL; omega) hown9 hbk9); obtain ⟨A9, m9, c9, rfl⟩ := sl_shape (Sl.of_own hown9); have har9 := block_turn HARR5.out ((Turn.of_below (F := fun k => Value.ownBlock (.slice Ai ni ci) = some k) ((Below.refl ((u3.setCell ⟨wr.heap.size, 3, none⟩ (.int .i64 x3))).heap.size (u3.setCell ⟨wr.heap.size, 3, none⟩ (.int .i64 x3))).alloc (Nat.le_refl _) _)).trans (Turn.of_grown hg9 (fun j hj => hj)) (fun _ _ h => h)) (fun e => by have := (HAT.out.row.lt _ e).1; have := HFS.out _ (.inr rfl); omega); have k9 : w9.cell? ⟨w.heap.size + 1, 2, none⟩ = some (.slice Ai ni ci) := (cell_of_row _ _ _ _ _ _ har9).trans rfl; have f9 := block_free har9 2; have HAR9 := hid har9; clear hown9 hg9 hbk9 har9)
        refine ⟨⟨i + 1, _, rfl, by omega, lo_set HS9.out (.inr rfl) FX.out.kv FX.out.bb (HFS.out _ (.inr rfl)), heap_setCell_same _ _ 2 _ _ _ HAR9.out⟩, ?_⟩
        simp [intOf]; omega
      · obtain ⟨l8, hl⟩ := hat.rd
        obtain ⟨A, c, hn1, hc1, hL1, hB1, hbs, hb, d1, d2, z1, z2⟩ := hl.parts
        have hb2 := LoB.done (k := 4) (R := RInstr) hat
        have HQN := hid hat.eq
        clear hat hbs hb d1 z1 z2 hl
        have Si := hid (Sc9.out.loop FX.out hb2.1 hb2.rs HARR.out)
        have Ki := hid (hb2.held (M := w.heap.size + 2) Sc9.out.size)
        clear hb2
        have e0 : wr.cell? ⟨w.heap.size + 1, 0, none⟩ = some (.int .i64 xa) := Si.out.cell 0
        have e1 : wr.cell? ⟨w.heap.size + 1, 1, none⟩ = some (.int .i64 xc) := Si.out.cell 1
        have e2 : wr.cell? ⟨w.heap.size + 1, 2, none⟩ = some (.slice Ai ni ci) := Si.out.cell 2
        have y0 : wr.cell? ⟨w.heap.size, 0, none⟩ = some (.int .i64 0) := Si.out.cell0 0
        have y1 : wr.cell? ⟨w.heap.size, 1, none⟩ = some (.int .i64 0) := Si.out.cell0 1
        have y2 : wr.cell? ⟨w.heap.size, 2, none⟩ = some (.slice none 0 0) := Si.out.cell0 2
        have x0 := Si.out.free0
        go_wp2_with fail
        have ec := (heap_setCell_same _ _ 2 _ _ (.slice Ai ni ci) (heap_setCell_same _ _ 1 _ _ (.int .i64 xc) (heap_setCell_same _ _ 0 _ _ (.int .i64 xa) Si.out.res)))
        have tc := ((turn_set wr w.heap.size 0 (.int .i64 xa)).trans ((turn_set _ w.heap.size 1 (.int .i64 xc)).trans (turn_set _ w.heap.size 2 (.slice Ai ni ci)) (fun _ _ h => h)) (fun _ _ h => h))
        have fx := FX.out
        have hbk := HLT.out
        have hB := Si.out.rd.base
        refine bodyPost_ret (results_cell rfl rfl ec Try.underlying47 rfl (by kernel_rfl)) rfl ?_
        have hrd := Si.out.rd.turn tc (by omega) (fun j hj e => by omega)
        have htt := Si.out.turn.trans tc (fun j hj e => by omega)
        rcases proc_chain HQa.out HQc.out HQi.out with ⟨a, r1, c2, r2, ll, r3, ea, ec2, ei, hq⟩ | ⟨hq, ei⟩
        · rw [ei] at hrd
          refine ⟨_, rfl, SobF.good hq htt (fun w9 t9 => ?_) hrd⟩
          have tt := (tc.mono (G := fun k => k < w.heap.size + 2) (fun j _ hj => by omega)).trans t9 (fun j _ hj => by omega)
          have li := Ki.out w9 tt _ _ ei
          obtain rfl := HXa.out _ _ ea
          obtain rfl := HXc.out _ _ ec2
          refine ⟨[.int .i64 xa, .int .i64 xc, .slice Ai ni ci], rfl, rfl, ?_, ⟨_, rfl, list_instrs li⟩⟩
          intro u hu
          simp only [List.mem_cons, List.not_mem_nil, or_false] at hu
          rcases hu with rfl | rfl | rfl <;> rfl
        · rw [ei] at hrd
          obtain ⟨l9, hl9⟩ := hrd
          exact ⟨_, rfl, SobF.bad hq htt ⟨_, _, _, _, _, rfl⟩ hl9⟩
    · obtain rfl : i = mi := by omega
      have hb2 := hat.done
      clear hat
      have Si := hid (Sc9.out.loop FX.out hb2.1 hb2.rs HARR.out)
      have Ki := hid (hb2.held (M := w.heap.size + 2) Sc9.out.size)
      clear hb2
      have e0 : wr.cell? ⟨w.heap.size + 1, 0, none⟩ = some (.int .i64 xa) := Si.out.cell 0
      have e1 : wr.cell? ⟨w.heap.size + 1, 1, none⟩ = some (.int .i64 xc) := Si.out.cell 1
      have e2 : wr.cell? ⟨w.heap.size + 1, 2, none⟩ = some (.slice Ai ni ci) := Si.out.cell 2
      have y0 : wr.cell? ⟨w.heap.size, 0, none⟩ = some (.int .i64 0) := Si.out.cell0 0
      have y1 : wr.cell? ⟨w.heap.size, 1, none⟩ = some (.int .i64 0) := Si.out.cell0 1
      have y2 : wr.cell? ⟨w.heap.size, 2, none⟩ = some (.slice none 0 0) := Si.out.cell0 2
      have x0 := Si.out.free0
      go_wp2_with fail
      have ec := (heap_setCell_same _ _ 2 _ _ (.slice Ai ni ci) (heap_setCell_same _ _ 1 _ _ (.int .i64 xc) (heap_setCell_same _ _ 0 _ _ (.int .i64 xa) Si.out.res)))
      have tc := ((turn_set wr w.heap.size 0 (.int .i64 xa)).trans ((turn_set _ w.heap.size 1 (.int .i64 xc)).trans (turn_set _ w.heap.size 2 (.slice Ai ni ci)) (fun _ _ h => h)) (fun _ _ h => h))
      have fx := FX.out
      have hbk := HLT.out
      have hB := Si.out.rd.base
      refine bodyPost_ret (results_cell rfl rfl ec Try.underlying47 rfl (by kernel_rfl)) rfl ?_
      have hrd := Si.out.rd.turn tc (by omega) (fun j hj e => by omega)
      have htt := Si.out.turn.trans tc (fun j hj e => by omega)
      rcases proc_chain HQa.out HQc.out HQi.out with ⟨a, r1, c2, r2, ll, r3, ea, ec2, ei, hq⟩ | ⟨hq, ei⟩
      · rw [ei] at hrd
        refine ⟨_, rfl, SobF.good hq htt (fun w9 t9 => ?_) hrd⟩
        have tt := (tc.mono (G := fun k => k < w.heap.size + 2) (fun j _ hj => by omega)).trans t9 (fun j _ hj => by omega)
        have li := Ki.out w9 tt _ _ ei
        obtain rfl := HXa.out _ _ ea
        obtain rfl := HXc.out _ _ ec2
        refine ⟨[.int .i64 xa, .int .i64 xc, .slice Ai ni ci], rfl, rfl, ?_, ⟨_, rfl, list_instrs li⟩⟩
        intro u hu
        simp only [List.mem_cons, List.not_mem_nil, or_false] at hu
        rcases hu with rfl | rfl | rfl <;> rfl
      · rw [ei] at hrd
        obtain ⟨l9, hl9⟩ := hrd
        exact ⟨_, rfl, SobF.bad hq htt ⟨_, _, _, _, _, rfl⟩ hl9⟩
end Go.Proofs.Ytpnggkkfoipfhaa
