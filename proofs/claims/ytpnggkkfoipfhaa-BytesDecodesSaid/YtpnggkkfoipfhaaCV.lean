/- The reference's reader of bytes: coercions, functions. -/
import Derived.Test.YtpnggkkfoipfhaaCU
set_option linter.unusedVariables false
namespace Go.Proofs.Ytpnggkkfoipfhaa
open Go.RowKit

/-- What stays as it is while a struct is read: the result's block, the variable's, the reader's. -/
structure Fix (w : World) (F0 : Nat → Prop) (bk B rs bv M : Nat) : Prop where
  rs0 : w.heap.size ≤ rs
  bv0 : w.heap.size ≤ bv
  ne : rs ≠ bv
  kr : bk ≠ rs
  kv : bk ≠ bv
  kk : F0 bk ∨ w.heap.size ≤ bk
  br : B ≤ rs
  bb : B ≤ bv
  km : bk < M
  rm : rs < M
  vm : bv < M
/-- Where a struct's reading stands. -/
structure SoAt (T : TypeId) (zero : Array Value) (w : World) (F0 : Nat → Prop) (bk B rs bv M : Nat) (wr : World) (cs : Array Value) (σ : Option Bt) : Prop where
  turn : Turn F0 w wr
  size : M ≤ wr.heap.size
  rd : RsO wr bk B σ
  res : wr.heap[rs]? = some (.cells zero T (0, 0))
  arr : wr.heap[bv]? = some (.cells cs T (0, 0))
/-- What holds and will hold, whatever becomes of what is below M. -/
def HeldM (M : Nat) (P : World → Prop) (wr : World) : Prop := ∀ w'', Turn (fun k => k < M) wr w'' → P w''
section
variable {T : TypeId} {zero : Array Value} {w : World} {F0 G : Nat → Prop} {bk B rs bv M : Nat} {wr w1 : World} {cs cs' : Array Value} {σ σ' : Option Bt} {P : World → Prop}
theorem SoAt.call (h : SoAt T zero w F0 bk B rs bv M wr cs σ) (f : Fix w F0 bk B rs bv M) (t : Turn (fun k => k = bk) wr w1) (hr : RsO w1 bk B σ') : SoAt T zero w F0 bk B rs bv M w1 cs σ' := by
  have hs := h.turn.size
  refine ⟨h.turn.trans t (fun j hj e => ?_), Nat.le_trans h.size t.size, hr, block_turn h.res t (Ne.symm f.kr), block_turn h.arr t (Ne.symm f.kv)⟩
  subst e
  rcases f.kk with k | k
  · exact k
  · omega
theorem SoAt.below (h : SoAt T zero w F0 bk B rs bv M wr cs σ) (f : Fix w F0 bk B rs bv M) (hb : Below wr.heap.size wr w1) : SoAt T zero w F0 bk B rs bv M w1 cs σ := by
  have t := Turn.of_below (F := fun _ => False) hb
  exact ⟨h.turn.trans t (fun _ _ h => h.elim), Nat.le_trans h.size hb.size, h.rd.below hb, block_turn h.res t id, block_turn h.arr t id⟩
theorem SoAt.set (h : SoAt T zero w F0 bk B rs bv M wr cs σ) (f : Fix w F0 bk B rs bv M) (i : Nat) (v : Value) : SoAt T zero w F0 bk B rs bv M (wr.setCell ⟨bv, i, none⟩ v) (cs.setIfInBounds i v) σ := by
  have t := turn_set wr bv i v
  have := f.bb
  have := f.bv0
  exact ⟨h.turn.trans t (fun j hj e => by omega), Nat.le_trans h.size t.size, h.rd.turn t f.kv (fun j hj e => by omega), block_turn h.res t f.ne, heap_setCell_same _ _ _ _ _ _ h.arr⟩
theorem SoAt.loop (h : SoAt T zero w F0 bk B rs bv M wr cs σ) (f : Fix w F0 bk B rs bv M) (t : Turn (fun k => k = bk ∨ k = bv) wr w1) (hr : RsO w1 bk B σ') (ha : w1.heap[bv]? = some (.cells cs' T (0, 0))) : SoAt T zero w F0 bk B rs bv M w1 cs' σ' := by
  refine ⟨h.turn.trans t (fun j hj e => ?_), Nat.le_trans h.size t.size, hr, block_turn h.res t (fun e => e.elim (fun e => f.kr e.symm) f.ne), ha⟩
  rcases e with rfl | rfl
  · rcases f.kk with k | k
    · exact k
    · omega
  · have := f.bv0; omega
theorem SoAt.cell (h : SoAt T zero w F0 bk B rs bv M wr cs σ) (i : Nat) : wr.cell? ⟨bv, i, none⟩ = cs[i]? := cell_of_row _ _ _ _ _ _ h.arr
theorem SoAt.free (h : SoAt T zero w F0 bk B rs bv M wr cs σ) (i : Nat) : wr.frozen? ⟨bv, i, none⟩ = false := block_free h.arr i
theorem SoAt.cell0 (h : SoAt T zero w F0 bk B rs bv M wr cs σ) (i : Nat) : wr.cell? ⟨rs, i, none⟩ = zero[i]? := cell_of_row _ _ _ _ _ _ h.res
theorem SoAt.free0 (h : SoAt T zero w F0 bk B rs bv M wr cs σ) (i : Nat) : wr.frozen? ⟨rs, i, none⟩ = false := block_free h.res i
theorem HeldM.turn (h : HeldM M P wr) (t : Turn G wr w1) (hG : ∀ k, G k → k < M) : HeldM M P w1 := fun w'' t' => h w'' ((t.mono fun j _ hj => hG j hj).trans t' fun _ _ h => h)
theorem HeldM.call (h : HeldM M P wr) (f : Fix w F0 bk B rs bv M) (t : Turn (fun k => k = bk) wr w1) : HeldM M P w1 := h.turn t fun k hk => hk ▸ f.km
theorem HeldM.set (h : HeldM M P wr) (f : Fix w F0 bk B rs bv M) (i : Nat) (v : Value) : HeldM M P (wr.setCell ⟨bv, i, none⟩ v) := h.turn (turn_set wr bv i v) fun k hk => hk ▸ f.vm
theorem HeldM.loop (h : HeldM M P wr) (f : Fix w F0 bk B rs bv M) (t : Turn (fun k => k = bk ∨ k = bv) wr w1) : HeldM M P w1 := h.turn t fun k hk => by
  rcases hk with rfl | rfl
  · exact f.km
  · exact f.vm
theorem HeldM.below (h : HeldM M P wr) (hb : Below wr.heap.size wr w1) : HeldM M P w1 := h.turn (Turn.of_below (F := fun _ => False) hb) fun _ h => h.elim
end
theorem SobF.held {α : Type} {F : Nat → Prop} {P : World → Value → α → Prop} {Z : Value → Prop} {bk B M : Nat} {w w' : World} {q : Option (α × Bt)} {v : Value} (h : SobF F P Z bk B w q v w') (hM : M ≤ w.heap.size) : HeldM M (fun w'' => ∀ x r, q = some (x, r) → P w'' v x) w' :=
  fun w'' t x r hq => (h.some_ hq).1 w'' (t.mono fun _ _ hj => Nat.lt_of_lt_of_le hj hM)
theorem fix_two {w : World} {bk B : Nat} {σ : Option Bt} (h : RsO w bk B σ) : Fix w (fun k => k = bk) bk B w.heap.size (w.heap.size + 1) (w.heap.size + 2) := by
  have := h.lt
  have := h.base
  exact ⟨Nat.le_refl _, by omega, by omega, by omega, by omega, .inl rfl, by omega, by omega, by omega, by omega, by omega⟩
theorem SoAt.start {T : TypeId} {w : World} {bk B : Nat} {σ : Option Bt} (o : Array Value) (h : RsO w bk B σ) : SoAt T o w (fun k => k = bk) bk B w.heap.size (w.heap.size + 1) (w.heap.size + 2) ((w.alloc (.cells o T)).alloc (.cells o T)) o σ := by
  have b2 : Below w.heap.size w ((w.alloc (.cells o T)).alloc (.cells o T)) := ((Below.refl _ _).alloc (Nat.le_refl _) _).alloc (by simp) _
  exact ⟨Turn.of_below b2, by simp, h.below b2, (two_new w _ _).1, (two_new w _ _).2⟩
/-- A loop's list lies in a cell of the variable's. -/
theorem lo_set {α : Type} {k : Nat} {T : TypeId} {R : World → List Value → α → Prop} {d1 : Bt → Option (α × Bt)} {F : Nat → Prop} {w0 : World} {bk B n : Nat} {q : Option (List α × Bt)} {wr : World} {v : Value} {i : Nat} (h : LoS k T R d1 F w0 bk B n q wr v i) {bv j : Nat} {u : Value} (hF : F bv) (hk : bk ≠ bv) (hB : B ≤ bv) (hv : bv < w0.heap.size) :
    LoS k T R d1 F w0 bk B n q (wr.setCell ⟨bv, j, none⟩ u) v i := by
  have t := turn_set wr bv j u
  rcases h with ⟨ys, xs, r, h⟩ | h
  · refine .inl ⟨ys, xs, r, h.len, h.turn.trans t (fun i hi e => by subst e; exact hF), own_turn h.row t (fun g hg e => by have := (h.row.lt g hg).1; omega), h.rd.turn t hk (fun i hi e => by omega), fun w'' t' => h.all w'' ((t.mono fun j _ hj => .inl (by omega)).trans t' (fun _ _ h => h)), h.eq⟩
  · obtain ⟨l, hl⟩ := h.rd
    exact .inr ⟨h.turn.trans t (fun i hi e => by subst e; exact hF), ⟨l, hl.turn t hk (fun i hi e => by omega)⟩, h.shape, h.eq⟩
theorem so_need {bk B : Nat} {w w1 w2 : World} {l : Bt} {va vb : Value} (h1 : SobR (fun _ v x => v = sv x) (fun v => v = sv []) bk B w (textD l) va w1) (h2 : SobR (fun _ v x => v = .int .i64 x) (fun v => v = .int .i64 0) bk B w1 (((textD l).map (·.2)).bind numD) vb w2) :
    SobR (fun w z x => ∃ a b, z = .agg #[a, b] ∧ RNeed w [a, b] x) (fun _ => True) bk B w (needD l) (.agg #[va, vb]) w2 := by
  have t := turn_same h1.1 h2.1
  rcases hq : textD l with _ | ⟨x, r⟩
  · rw [hq] at h2
    obtain ⟨_, l', hl⟩ := h2.none_ rfl
    exact SobF.bad (by simp only [needD, andD, hq]) t trivial hl
  · rw [hq] at h2
    have h2 : SobR _ _ bk B w1 (numD r) vb w2 := h2
    have hva := (h1.some_ hq).1 w1 (Turn.refl _ _)
    rcases hq2 : numD r with _ | ⟨y, r'⟩
    · obtain ⟨_, l', hl⟩ := h2.none_ hq2
      exact SobF.bad (by simp only [needD, andD, hq, hq2]) t trivial hl
    · have hvb := (h2.some_ hq2).1 w2 (Turn.refl _ _)
      refine SobF.good (x := (x, y)) (by simp only [needD, andD, hq, hq2]) t (fun w'' _ => ⟨va, vb, rfl, ?_⟩) (h2.some_ hq2).2
      rw [hva, hvb]; rfl
theorem LoS.shape {α : Type} {k : Nat} {T : TypeId} {R : World → List Value → α → Prop} {d1 : Bt → Option (α × Bt)} {F : Nat → Prop} {w0 : World} {bk B n : Nat} {q : Option (List α × Bt)} {wr : World} {v : Value} {i : Nat} (h : LoS k T R d1 F w0 bk B n q wr v i) : IsSlice v := by
  rcases h with ⟨ys, xs, r, h⟩ | h
  · exact sl_shape (Sl.of_own h.row)
  · exact h.shape
theorem LoS.done {α : Type} {k : Nat} {T : TypeId} {R : World → List Value → α → Prop} {d1 : Bt → Option (α × Bt)} {F : Nat → Prop} {w0 : World} {bk B n : Nat} {q : Option (List α × Bt)} {wr : World} {v : Value} (h : LoS k T R d1 F w0 bk B n q wr v n) : SobF F (ListP k R) IsSlice bk B w0 q v wr := by
  rcases h with ⟨ys, xs, r, h⟩ | h
  · exact h.done
  · exact h.done
theorem need_cells {w : World} {a b : Value} {x : Bt × Int} (h : ∃ a' b', Value.agg #[a, b] = .agg #[a', b'] ∧ RNeed w [a', b'] x) : RNeed w [a, b] x := by
  obtain ⟨a', b', e, h⟩ := h
  injection e with e
  have e := congrArg Array.toList e
  simp only [List.cons.injEq, and_true] at e
  obtain ⟨rfl, rfl⟩ := e
  exact h
theorem SobF.more {α : Type} {P : World → Value → α → Prop} {Z : Value → Prop} {bk B rs bv M : Nat} {F0 : Nat → Prop} {w w1 w2 : World} {q : Option (α × Bt)} {v : Value} (h : SobR P Z bk B w q v w1) (_ : Fix w2 F0 bk B rs bv M) : SobR P Z bk B w q v w1 := h
/-- The reference's reading of a coercion, so many within one another. -/
def CoS (d : Nat) : Prop := ∀ (w : World) (bk B : Nat) (σ : Option Bt), RsO w bk B σ → Calls Try.prog 61 #[.pointer (some ⟨bk, 0, none⟩), .int .i64 (d : Int)] w (Sob (ElK 5 RCo) IsFive bk B w (σ.bind (coD d)))
theorem five_nil : ∀ u ∈ [Value.slice none 0 0, .slice none 0 0, .slice none 0 0, .slice none 0 0, .slice none 0 0], u.oneCell' = true := by
  intro u hu
  simp only [List.mem_cons, List.not_mem_nil, or_false] at hu
  rcases hu with rfl | rfl | rfl | rfl | rfl <;> rfl
set_option maxRecDepth 100000 in
set_option maxHeartbeats 4000000 in
theorem soco_zero : CoS 0 := by
  intro w bk B σ hR
  have hq : σ.bind (coD 0) = none := by
    cases σ with
    | none => rfl
    | some l => exact coD_zero l
  rw [hq]
  have FX := hid (fix_two hR)
  have S0 := hid (SoAt.start (T := 42) #[.slice none 0 0, .slice none 0 0, .slice none 0 0, .slice none 0 0, .slice none 0 0] hR)
  have hlt := hR.lt
  obtain ⟨l0, b0, hr0, _⟩ := hR.open_
  have HSP : Hid (RsO (w.setCell ⟨bk, 1, none⟩ (.bool true)) bk B none) := hid ⟨l0, hr0.spoil⟩
  obtain ⟨A, c, hn, hc, hL, hB, hbs, hb, d1, d2, z1, z2⟩ := hr0.parts
  clear hR hr0 hbs hb d1 z1
  go_enter Try.func61, Try.ntmps61
  go_wp2_with fail
  have hs : (w.setCell ⟨bk, 1, none⟩ (.bool true)).heap.size = w.heap.size := by simp
  have S1 := SoAt.start (T := 42) #[.slice none 0 0, .slice none 0 0, .slice none 0 0, .slice none 0 0, .slice none 0 0] HSP.out
  have hres := S1.res
  rw [hs] at hres
  refine bodyPost_ret (results_cell rfl rfl hres Try.underlying42 rfl (by kernel_rfl)) rfl ?_
  obtain ⟨l9, hl9⟩ := S1.rd
  exact ⟨_, rfl, SobF.bad rfl (turn_same (turn_set w bk 1 _) S1.turn) ⟨_, _, _, _, _, _, _, _, _, _, _, _, _, _, _, rfl⟩ hl9⟩
theorem co_chain {σ : Option Bt} {d : Nat} {qa : Option (List Int × Bt)} {qb : Option (List (Bt × Int) × Bt)} {qc : Option (List Bt × Bt)} {qf qu : Option (List CoD × Bt)} (ha : σ.bind (allD numD) = qa) (hb : (qa.map (·.2)).bind (allD needD) = qb) (hc : (qb.map (·.2)).bind (allD textD) = qc)
    (hf : (qc.map (·.2)).bind (allD (coD d)) = qf) (hu : (qf.map (·.2)).bind (allD (coD d)) = qu) :
    (∃ t r1 n r2 m r3 f r4 u r5, qa = some (t, r1) ∧ qb = some (n, r2) ∧ qc = some (m, r3) ∧ qf = some (f, r4) ∧ qu = some (u, r5) ∧ σ.bind (coD (d + 1)) = some (.mk t n m f u, r5)) ∨ (σ.bind (coD (d + 1)) = none ∧ qu = none) := by
  rcases σ with _ | l
  · subst ha; subst hb; subst hc; subst hf; subst hu; exact .inr ⟨rfl, rfl⟩
  have ha : allD numD l = qa := ha
  show (∃ t r1 n r2 m r3 f r4 u r5, _ ∧ _ ∧ _ ∧ _ ∧ _ ∧ coD (d + 1) l = _) ∨ (coD (d + 1) l = none ∧ _)
  rcases qa with _ | ⟨t, r1⟩
  · subst hb; subst hc; subst hf; subst hu; exact .inr ⟨by simp only [coD, mapD, andD, ha], rfl⟩
  have hb : allD needD r1 = qb := hb
  rcases qb with _ | ⟨n, r2⟩
  · subst hc; subst hf; subst hu; exact .inr ⟨by simp only [coD, mapD, andD, ha, hb], rfl⟩
  have hc : allD textD r2 = qc := hc
  rcases qc with _ | ⟨m, r3⟩
  · subst hf; subst hu; exact .inr ⟨by simp only [coD, mapD, andD, ha, hb, hc], rfl⟩
  have hf : allD (coD d) r3 = qf := hf
  rcases qf with _ | ⟨f, r4⟩
  · subst hu; exact .inr ⟨by simp only [coD, mapD, andD, ha, hb, hc, hf], rfl⟩
  have hu : allD (coD d) r4 = qu := hu
  rcases qu with _ | ⟨u, r5⟩
  · exact .inr ⟨by simp only [coD, mapD, andD, ha, hb, hc, hf, hu], rfl⟩
  exact .inl ⟨t, r1, n, r2, m, r3, f, r4, u, r5, rfl, rfl, rfl, rfl, rfl, by simp only [coD, mapD, andD, ha, hb, hc, hf, hu]⟩
set_option maxRecDepth 100000 in
set_option maxHeartbeats 16000000 in
theorem soco_succ (d : Nat) (hd : d ≤ 40) (ih : CoS d) : CoS (d + 1) := by
  intro w bk B σ hR
  have FX := hid (fix_two hR)
  have S0 := hid (SoAt.start (T := 42) #[.slice none 0 0, .slice none 0 0, .slice none 0 0, .slice none 0 0, .slice none 0 0] hR)
  have HLT := hid hR.lt
  have IH := hid ih
  have hd0 : (((d + 1 : Nat) : Int) == 0) = false := by simp; omega
  have hd1 : ((d : Int) + 1 == 0) = false := by simp; omega
  have hd2 : (d : Int) ≤ 40 := by omega
  clear hR ih
  go_enter Try.func61, Try.ntmps61
  have Ca := hid (sonums_any ((w.alloc (.cells #[.slice none 0 0, .slice none 0 0, .slice none 0 0, .slice none 0 0, .slice none 0 0] 42)).alloc (.cells #[.slice none 0 0, .slice none 0 0, .slice none 0 0, .slice none 0 0, .slice none 0 0] 42)) bk B _ S0.out.rd)
  go_wp2_with fail
  refine Ca.out.mono ?_
  rintro e wa ⟨va, rfl, h2⟩
  obtain ⟨qa, hq⟩ : ∃ qa, σ.bind (allD numD) = qa := ⟨_, rfl⟩
  rw [hq] at h2
  have HQa := hid hq
  obtain ⟨Aa, na, ca, rfl⟩ : IsSlice va := h2.shape (fun _ _ h => list_shape h) (fun h => h)
  have Sa := hid (S0.out.call FX.out h2.1 h2.rs)
  have Ka0 := hid (h2.held (M := w.heap.size + 2) S0.out.size)
  have e0 : wa.cell? ⟨w.heap.size + 1, 0, none⟩ = some (.slice none 0 0) := Sa.out.cell 0
  have e1 : wa.cell? ⟨w.heap.size + 1, 1, none⟩ = some (.slice none 0 0) := Sa.out.cell 1
  have e2 : wa.cell? ⟨w.heap.size + 1, 2, none⟩ = some (.slice none 0 0) := Sa.out.cell 2
  have e3 : wa.cell? ⟨w.heap.size + 1, 3, none⟩ = some (.slice none 0 0) := Sa.out.cell 3
  have e4 : wa.cell? ⟨w.heap.size + 1, 4, none⟩ = some (.slice none 0 0) := Sa.out.cell 4
  have z0 := Sa.out.free
  clear h2 hq Ca
  have Sa9 := hid (Sa.out.set FX.out 0 (.slice Aa na ca))
  have Ka := hid (Ka0.out.set FX.out 0 (.slice Aa na ca))
  have Cn := hid (somany_any (wa.setCell ⟨w.heap.size + 1, 0, none⟩ (.slice Aa na ca)) bk B _ Sa9.out.rd)
  go_wp2_with fail
  clear e0 e1 e2 e3 e4 z0 hd0 hd1
  refine Cn.out.mono ?_
  rintro e wn ⟨vn, rfl, h2⟩
  obtain ⟨Wb, hW⟩ : ∃ Wb, (wa.setCell ⟨w.heap.size + 1, 0, none⟩ (.slice Aa na ca)) = Wb := ⟨_, rfl⟩
  rw [hW] at h2 Sa9 Ka
  clear hW Cn
  obtain ⟨mb, rfl, hn0, hst⟩ := lo_start (k := 2) (T := 84) (R := RNeed) (d1 := needD) (F := (fun k => k = bk ∨ k = w.heap.size + 1)) h2 (h2.1.mono fun j _ hj => .inl hj)
  obtain ⟨qb, hq⟩ : ∃ qb, (qa.map (·.2)).bind (allD needD) = qb := ⟨_, rfl⟩
  rw [hq] at hst
  have HQb := hid hq
  have HST := hid hst
  have HAR := hid (Sa9.out.call FX.out h2.1 h2.rs).arr
  have HFS : Hid (∀ j, (j = bk ∨ j = w.heap.size + 1) → j < Wb.heap.size) := hid (fun j hj => by have := Sa9.out.size; have := FX.out.km; have := FX.out.vm; rcases hj with rfl | rfl <;> omega)
  clear h2 hst hq
  go_wp2_with fail
  go_loopw [7] (fun v7 wr => ∃ (i : Nat) (v : Value), v7 = .int .i64 (i : Int) ∧ i ≤ mb ∧ LoS 2 84 RNeed needD (fun k => k = bk ∨ k = w.heap.size + 1) Wb bk B mb qb wr v i ∧ wr.heap[w.heap.size + 1]? = some (.cells #[.slice Aa na ca, v, .slice none 0 0, .slice none 0 0, .slice none 0 0] 42 (0, 0))) (fun v7 _ => mb - (intOf v7).toNat)
  case atStart => exact ⟨0, _, rfl, by omega, HST.out, HAR.out⟩
  case round =>
    obtain ⟨i, v, rfl, hi, hat, har⟩ := hrel
    obtain ⟨Ab, nb, cb, rfl⟩ := hat.shape
    have HARR := hid har
    clear har
    by_cases hlt : i < mb
    · have hlt1 := hlt
      rcases hat with ⟨ys, xs, r, hat⟩ | hat
      · obtain ⟨A, c, hn1, hc1, hL1, hB1, hbs, hb, d1, d2, z1, z2⟩ := hat.rd.parts
        have HAT := hid hat
        clear hat hbs hb d1 z1 z2
        have HN := hid (sotext_any wr bk B (some r) HAT.out.rd)
        go_wp2_with fail
        refine HN.out.mono ?_
        rintro e w4 ⟨vs, rfl, h4⟩
        have h4 : SobR _ _ bk B wr (textD r) vs w4 := h4
        obtain ⟨xs4, rfl⟩ : ∃ x, vs = sv x := h4.shape (fun _ x h => ⟨_, h⟩) (fun h => ⟨_, h⟩)
        have HN5 := hid (sonum_any w4 bk B _ h4.rs)
        have H4 := hid h4
        clear h4 HN d2
        go_wp2_with fail
        refine HN5.out.mono ?_
        rintro e w5 ⟨vk, rfl, h5⟩
        obtain ⟨xk, rfl⟩ : ∃ x, vk = .int .i64 x := h5.shape (fun _ x h => ⟨_, h⟩) (fun h => ⟨_, h⟩)
        have h45 := so_need H4.out h5
        clear h5 H4 HN5
        have H45 := hid h45
        have hsz5 : Wb.heap.size ≤ (w5).heap.size := Nat.le_trans HAT.out.turn.size h45.1.size
        have HROW5 := hid (own_turn HAT.out.row h45.1 (fun g hg e => by have := (HAT.out.row.lt g hg).1; have := HFS.out _ (.inl e); omega))
        have harr5 := block_turn HARR.out h45.1 (Ne.symm FX.out.kv)
        have HARR5 := hid harr5
        have k1 : w5.cell? ⟨w.heap.size + 1, 1, none⟩ = some (.slice Ab nb cb) := (cell_of_row _ _ _ _ _ _ harr5).trans rfl
        have hbv5 : w.heap.size + 1 < w5.heap.size := block_lt harr5
        have HIL := HAT.out.row.1
        have H1 : Hid (∀ u ∈ ([sv xs4, Value.int .i64 xk] : List Value), u.oneCell' = true) := hid (by intro u hu; simp only [List.mem_cons, List.not_mem_nil, or_false] at hu; rcases hu with rfl | rfl <;> rfl)
        clear h45 harr5
        go_wp2_with (at_builtin; go_must (refine wpList_app rfl _ _ _ rfl Wb.heap.size el_rd_need _ _ rfl rfl (HROW5.out.alloc _) (sl_new w5 _ _ 2 1 rfl (by decide)) H1.out (by simp [maxLen]; omega) (by simp; omega) (le_alloc hsz5 _) (fun v9 w9 n9 hown9 hg9 hbk9 => ?_)); have HS9 := hid (lo_next HAT.out HFS.out (.inl rfl) hlt1 H45.out (z := [sv xs4, Value.int .i64 xk]) rfl (fun w x h => need_cells h) ((Below.refl _ _).alloc (Nat.le_refl _) _) hg9 (by have h9 := hown9.1; simp at h9 HIL; omega) hown9 hbk9); obtain ⟨A9, m9, c9, rfl⟩ := sl_shape (Sl.of_own hown9); have har9 := block_turn HARR5.out ((Turn.of_below (F := fun k => Value.ownBlock (.slice Ab nb cb) = some k) ((Below.refl w5.heap.size w5).alloc (Nat.le_refl _) _)).trans (Turn.of_grown hg9 (fun j hj => hj)) (fun _ _ h => h)) (fun e => by have := (HAT.out.row.lt _ e).1; have := HFS.out _ (.inr rfl); omega); have k9 : w9.cell? ⟨w.heap.size + 1, 1, none⟩ = some (.slice Ab nb cb) := (cell_of_row _ _ _ _ _ _ har9).trans rfl; have f9 := block_free har9 1; have HAR9 := hid har9; clear hown9 hg9 hbk9 har9)
        refine ⟨⟨i + 1, _, rfl, by omega, lo_set HS9.out (.inr rfl) FX.out.kv FX.out.bb (HFS.out _ (.inr rfl)), heap_setCell_same _ _ 1 _ _ _ HAR9.out⟩, ?_⟩
        simp [intOf]; omega
      · obtain ⟨l8, hl⟩ := hat.rd
        obtain ⟨A, c, hn1, hc1, hL1, hB1, hbs, hb, d1, d2, z1, z2⟩ := hl.parts
        have hb2 := LoB.done (k := 2) (R := RNeed) hat
        have HQN := hid hat.eq
        clear hat hbs hb d1 z1 z2 hl
        have Sb := hid (Sa9.out.loop FX.out hb2.1 hb2.rs HARR.out)
        have Ka_b := hid (Ka.out.loop FX.out hb2.1)
        have Kb := hid (hb2.held (M := w.heap.size + 2) Sa9.out.size)
        clear hb2
        have Cc := hid (sotexts_any wr bk B _ Sb.out.rd)
        go_wp2_with fail
        refine Cc.out.mono ?_
        rintro e wc ⟨vc, rfl, h2⟩
        obtain ⟨qc, hq⟩ : ∃ qc, (qb.map (·.2)).bind (allD textD) = qc := ⟨_, rfl⟩
        rw [hq] at h2
        have HQc := hid hq
        obtain ⟨Ac, nc, cc, rfl⟩ : IsSlice vc := h2.shape (fun _ _ h => list_shape h) (fun h => h)
        have Sc := hid (Sb.out.call FX.out h2.1 h2.rs)
        have Ka_b_c := hid (Ka_b.out.call FX.out h2.1)
        have Kb_c := hid (Kb.out.call FX.out h2.1)
        have Kc0 := hid (h2.held (M := w.heap.size + 2) Sb.out.size)
        have e0 : wc.cell? ⟨w.heap.size + 1, 0, none⟩ = some (.slice Aa na ca) := Sc.out.cell 0
        have e1 : wc.cell? ⟨w.heap.size + 1, 1, none⟩ = some (.slice Ab nb cb) := Sc.out.cell 1
        have e2 : wc.cell? ⟨w.heap.size + 1, 2, none⟩ = some (.slice none 0 0) := Sc.out.cell 2
        have e3 : wc.cell? ⟨w.heap.size + 1, 3, none⟩ = some (.slice none 0 0) := Sc.out.cell 3
        have e4 : wc.cell? ⟨w.heap.size + 1, 4, none⟩ = some (.slice none 0 0) := Sc.out.cell 4
        have z0 := Sc.out.free
        clear h2 hq Cc
        have Sc9 := hid (Sc.out.set FX.out 2 (.slice Ac nc cc))
        have Ka_b_c9 := hid (Ka_b_c.out.set FX.out 2 (.slice Ac nc cc))
        have Kb_c9 := hid (Kb_c.out.set FX.out 2 (.slice Ac nc cc))
        have Kc := hid (Kc0.out.set FX.out 2 (.slice Ac nc cc))
        have Cf := hid (socos_any d (wc.setCell ⟨w.heap.size + 1, 2, none⟩ (.slice Ac nc cc)) bk B _ Sc9.out.rd IH.out)
        go_wp2_with fail
        refine Cf.out.mono ?_
        rintro e wf ⟨vf, rfl, h2⟩
        obtain ⟨qf, hq⟩ : ∃ qf, (qc.map (·.2)).bind (allD (coD d)) = qf := ⟨_, rfl⟩
        rw [hq] at h2
        have HQf := hid hq
        obtain ⟨Af, nf, cf, rfl⟩ : IsSlice vf := h2.shape (fun _ _ h => list_shape h) (fun h => h)
        have Sf := hid (Sc9.out.call FX.out h2.1 h2.rs)
        have Ka_b_c9_f := hid (Ka_b_c9.out.call FX.out h2.1)
        have Kb_c9_f := hid (Kb_c9.out.call FX.out h2.1)
        have Kc_f := hid (Kc.out.call FX.out h2.1)
        have Kf0 := hid (h2.held (M := w.heap.size + 2) Sc9.out.size)
        have e0 : wf.cell? ⟨w.heap.size + 1, 0, none⟩ = some (.slice Aa na ca) := Sf.out.cell 0
        have e1 : wf.cell? ⟨w.heap.size + 1, 1, none⟩ = some (.slice Ab nb cb) := Sf.out.cell 1
        have e2 : wf.cell? ⟨w.heap.size + 1, 2, none⟩ = some (.slice Ac nc cc) := Sf.out.cell 2
        have e3 : wf.cell? ⟨w.heap.size + 1, 3, none⟩ = some (.slice none 0 0) := Sf.out.cell 3
        have e4 : wf.cell? ⟨w.heap.size + 1, 4, none⟩ = some (.slice none 0 0) := Sf.out.cell 4
        have z0 := Sf.out.free
        clear h2 hq Cf
        have Sf9 := hid (Sf.out.set FX.out 3 (.slice Af nf cf))
        have Ka_b_c9_f9 := hid (Ka_b_c9_f.out.set FX.out 3 (.slice Af nf cf))
        have Kb_c9_f9 := hid (Kb_c9_f.out.set FX.out 3 (.slice Af nf cf))
        have Kc_f9 := hid (Kc_f.out.set FX.out 3 (.slice Af nf cf))
        have Kf := hid (Kf0.out.set FX.out 3 (.slice Af nf cf))
        have Cu := hid (socos_any d (wf.setCell ⟨w.heap.size + 1, 3, none⟩ (.slice Af nf cf)) bk B _ Sf9.out.rd IH.out)
        go_wp2_with fail
        refine Cu.out.mono ?_
        rintro e wu ⟨vu, rfl, h2⟩
        obtain ⟨qu, hq⟩ : ∃ qu, (qf.map (·.2)).bind (allD (coD d)) = qu := ⟨_, rfl⟩
        rw [hq] at h2
        have HQu := hid hq
        obtain ⟨Au, nu, cu, rfl⟩ : IsSlice vu := h2.shape (fun _ _ h => list_shape h) (fun h => h)
        have Su := hid (Sf9.out.call FX.out h2.1 h2.rs)
        have Ka_b_c9_f9_u := hid (Ka_b_c9_f9.out.call FX.out h2.1)
        have Kb_c9_f9_u := hid (Kb_c9_f9.out.call FX.out h2.1)
        have Kc_f9_u := hid (Kc_f9.out.call FX.out h2.1)
        have Kf_u := hid (Kf.out.call FX.out h2.1)
        have Ku0 := hid (h2.held (M := w.heap.size + 2) Sf9.out.size)
        have e0 : wu.cell? ⟨w.heap.size + 1, 0, none⟩ = some (.slice Aa na ca) := Su.out.cell 0
        have e1 : wu.cell? ⟨w.heap.size + 1, 1, none⟩ = some (.slice Ab nb cb) := Su.out.cell 1
        have e2 : wu.cell? ⟨w.heap.size + 1, 2, none⟩ = some (.slice Ac nc cc) := Su.out.cell 2
        have e3 : wu.cell? ⟨w.heap.size + 1, 3, none⟩ = some (.slice Af nf cf) := Su.out.cell 3
        have e4 : wu.cell? ⟨w.heap.size + 1, 4, none⟩ = some (.slice none 0 0) := Su.out.cell 4
        have z0 := Su.out.free
        clear h2 hq Cu
        have Su9 := hid (Su.out.set FX.out 4 (.slice Au nu cu))
        have Ka_b_c9_f9_u9 := hid (Ka_b_c9_f9_u.out.set FX.out 4 (.slice Au nu cu))
        have Kb_c9_f9_u9 := hid (Kb_c9_f9_u.out.set FX.out 4 (.slice Au nu cu))
        have Kc_f9_u9 := hid (Kc_f9_u.out.set FX.out 4 (.slice Au nu cu))
        have Kf_u9 := hid (Kf_u.out.set FX.out 4 (.slice Au nu cu))
        have Ku := hid (Ku0.out.set FX.out 4 (.slice Au nu cu))
        have y0 : wu.cell? ⟨w.heap.size, 0, none⟩ = some (.slice none 0 0) := Su.out.cell0 0
        have y1 : wu.cell? ⟨w.heap.size, 1, none⟩ = some (.slice none 0 0) := Su.out.cell0 1
        have y2 : wu.cell? ⟨w.heap.size, 2, none⟩ = some (.slice none 0 0) := Su.out.cell0 2
        have y3 : wu.cell? ⟨w.heap.size, 3, none⟩ = some (.slice none 0 0) := Su.out.cell0 3
        have y4 : wu.cell? ⟨w.heap.size, 4, none⟩ = some (.slice none 0 0) := Su.out.cell0 4
        have x0 := Su.out.free0
        go_wp2_with fail
        have ec := (heap_setCell_same _ _ 4 _ _ (.slice Au nu cu) (heap_setCell_same _ _ 3 _ _ (.slice Af nf cf) (heap_setCell_same _ _ 2 _ _ (.slice Ac nc cc) (heap_setCell_same _ _ 1 _ _ (.slice Ab nb cb) (heap_setCell_same _ _ 0 _ _ (.slice Aa na ca) Su9.out.res)))))
        have tc := ((turn_set (wu.setCell ⟨w.heap.size + 1, 4, none⟩ (.slice Au nu cu)) w.heap.size 0 (.slice Aa na ca)).trans ((turn_set _ w.heap.size 1 (.slice Ab nb cb)).trans ((turn_set _ w.heap.size 2 (.slice Ac nc cc)).trans ((turn_set _ w.heap.size 3 (.slice Af nf cf)).trans (turn_set _ w.heap.size 4 (.slice Au nu cu)) (fun _ _ h => h)) (fun _ _ h => h)) (fun _ _ h => h)) (fun _ _ h => h))
        have fx := FX.out
        have hbk := HLT.out
        have hB := Su9.out.rd.base
        refine bodyPost_ret (results_cell rfl rfl ec Try.underlying42 rfl (by kernel_rfl)) rfl ?_
        have hrd := Su9.out.rd.turn tc (by omega) (fun j hj e => by omega)
        have htt := Su9.out.turn.trans tc (fun j hj e => by omega)
        have hone : ∀ u ∈ ([.slice Aa na ca, .slice Ab nb cb, .slice Ac nc cc, .slice Af nf cf, .slice Au nu cu] : List Value), u.oneCell' = true := by
          intro u hu
          simp only [List.mem_cons, List.not_mem_nil, or_false] at hu
          rcases hu with rfl | rfl | rfl | rfl | rfl <;> rfl
        rcases co_chain HQa.out HQb.out HQc.out HQf.out HQu.out with ⟨t, r1, nn, r2, m, r3, f, r4, u, r5, ea, eb, ec1, ef, eu, hq⟩ | ⟨hq, eu⟩
        · rw [eu] at hrd
          refine ⟨_, rfl, SobF.good hq htt (fun w9 t9 => ?_) hrd⟩
          have tt := (tc.mono (G := fun k => k < w.heap.size + 2) (fun j _ hj => by omega)).trans t9 (fun j _ hj => by omega)
          have la := Ka_b_c9_f9_u9.out w9 tt _ _ ea
          have lb := Kb_c9_f9_u9.out w9 tt _ _ eb
          have lc := Kc_f9_u9.out w9 tt _ _ ec1
          have lf := Kf_u9.out w9 tt _ _ ef
          have lu := Ku.out w9 tt _ _ eu
          obtain ⟨zf, sf, rf⟩ := lf
          obtain ⟨zu, su, ru⟩ := lu
          exact ⟨[.slice Aa na ca, .slice Ab nb cb, .slice Ac nc cc, .slice Af nf cf, .slice Au nu cu], rfl, rfl, hone, CoR.mk (list_ints la) (list_needs lb) (list_texts lc) sf (row_cos rf) su (row_cos ru)⟩
        · rw [eu] at hrd
          obtain ⟨l9, hl9⟩ := hrd
          exact ⟨_, rfl, SobF.bad hq htt ⟨_, _, _, _, _, _, _, _, _, _, _, _, _, _, _, rfl⟩ hl9⟩
    · obtain rfl : i = mb := by omega
      have hb2 := hat.done
      clear hat
      have Sb := hid (Sa9.out.loop FX.out hb2.1 hb2.rs HARR.out)
      have Ka_b := hid (Ka.out.loop FX.out hb2.1)
      have Kb := hid (hb2.held (M := w.heap.size + 2) Sa9.out.size)
      clear hb2
      have Cc := hid (sotexts_any wr bk B _ Sb.out.rd)
      go_wp2_with fail
      refine Cc.out.mono ?_
      rintro e wc ⟨vc, rfl, h2⟩
      obtain ⟨qc, hq⟩ : ∃ qc, (qb.map (·.2)).bind (allD textD) = qc := ⟨_, rfl⟩
      rw [hq] at h2
      have HQc := hid hq
      obtain ⟨Ac, nc, cc, rfl⟩ : IsSlice vc := h2.shape (fun _ _ h => list_shape h) (fun h => h)
      have Sc := hid (Sb.out.call FX.out h2.1 h2.rs)
      have Ka_b_c := hid (Ka_b.out.call FX.out h2.1)
      have Kb_c := hid (Kb.out.call FX.out h2.1)
      have Kc0 := hid (h2.held (M := w.heap.size + 2) Sb.out.size)
      have e0 : wc.cell? ⟨w.heap.size + 1, 0, none⟩ = some (.slice Aa na ca) := Sc.out.cell 0
      have e1 : wc.cell? ⟨w.heap.size + 1, 1, none⟩ = some (.slice Ab nb cb) := Sc.out.cell 1
      have e2 : wc.cell? ⟨w.heap.size + 1, 2, none⟩ = some (.slice none 0 0) := Sc.out.cell 2
      have e3 : wc.cell? ⟨w.heap.size + 1, 3, none⟩ = some (.slice none 0 0) := Sc.out.cell 3
      have e4 : wc.cell? ⟨w.heap.size + 1, 4, none⟩ = some (.slice none 0 0) := Sc.out.cell 4
      have z0 := Sc.out.free
      clear h2 hq Cc
      have Sc9 := hid (Sc.out.set FX.out 2 (.slice Ac nc cc))
      have Ka_b_c9 := hid (Ka_b_c.out.set FX.out 2 (.slice Ac nc cc))
      have Kb_c9 := hid (Kb_c.out.set FX.out 2 (.slice Ac nc cc))
      have Kc := hid (Kc0.out.set FX.out 2 (.slice Ac nc cc))
      have Cf := hid (socos_any d (wc.setCell ⟨w.heap.size + 1, 2, none⟩ (.slice Ac nc cc)) bk B _ Sc9.out.rd IH.out)
      go_wp2_with fail
      refine Cf.out.mono ?_
      rintro e wf ⟨vf, rfl, h2⟩
      obtain ⟨qf, hq⟩ : ∃ qf, (qc.map (·.2)).bind (allD (coD d)) = qf := ⟨_, rfl⟩
      rw [hq] at h2
      have HQf := hid hq
      obtain ⟨Af, nf, cf, rfl⟩ : IsSlice vf := h2.shape (fun _ _ h => list_shape h) (fun h => h)
      have Sf := hid (Sc9.out.call FX.out h2.1 h2.rs)
      have Ka_b_c9_f := hid (Ka_b_c9.out.call FX.out h2.1)
      have Kb_c9_f := hid (Kb_c9.out.call FX.out h2.1)
      have Kc_f := hid (Kc.out.call FX.out h2.1)
      have Kf0 := hid (h2.held (M := w.heap.size + 2) Sc9.out.size)
      have e0 : wf.cell? ⟨w.heap.size + 1, 0, none⟩ = some (.slice Aa na ca) := Sf.out.cell 0
      have e1 : wf.cell? ⟨w.heap.size + 1, 1, none⟩ = some (.slice Ab nb cb) := Sf.out.cell 1
      have e2 : wf.cell? ⟨w.heap.size + 1, 2, none⟩ = some (.slice Ac nc cc) := Sf.out.cell 2
      have e3 : wf.cell? ⟨w.heap.size + 1, 3, none⟩ = some (.slice none 0 0) := Sf.out.cell 3
      have e4 : wf.cell? ⟨w.heap.size + 1, 4, none⟩ = some (.slice none 0 0) := Sf.out.cell 4
      have z0 := Sf.out.free
      clear h2 hq Cf
      have Sf9 := hid (Sf.out.set FX.out 3 (.slice Af nf cf))
      have Ka_b_c9_f9 := hid (Ka_b_c9_f.out.set FX.out 3 (.slice Af nf cf))
      have Kb_c9_f9 := hid (Kb_c9_f.out.set FX.out 3 (.slice Af nf cf))
      have Kc_f9 := hid (Kc_f.out.set FX.out 3 (.slice Af nf cf))
      have Kf := hid (Kf0.out.set FX.out 3 (.slice Af nf cf))
      have Cu := hid (socos_any d (wf.setCell ⟨w.heap.size + 1, 3, none⟩ (.slice Af nf cf)) bk B _ Sf9.out.rd IH.out)
      go_wp2_with fail
      refine Cu.out.mono ?_
      rintro e wu ⟨vu, rfl, h2⟩
      obtain ⟨qu, hq⟩ : ∃ qu, (qf.map (·.2)).bind (allD (coD d)) = qu := ⟨_, rfl⟩
      rw [hq] at h2
      have HQu := hid hq
      obtain ⟨Au, nu, cu, rfl⟩ : IsSlice vu := h2.shape (fun _ _ h => list_shape h) (fun h => h)
      have Su := hid (Sf9.out.call FX.out h2.1 h2.rs)
      have Ka_b_c9_f9_u := hid (Ka_b_c9_f9.out.call FX.out h2.1)
      have Kb_c9_f9_u := hid (Kb_c9_f9.out.call FX.out h2.1)
      have Kc_f9_u := hid (Kc_f9.out.call FX.out h2.1)
      have Kf_u := hid (Kf.out.call FX.out h2.1)
      have Ku0 := hid (h2.held (M := w.heap.size + 2) Sf9.out.size)
      have e0 : wu.cell? ⟨w.heap.size + 1, 0, none⟩ = some (.slice Aa na ca) := Su.out.cell 0
      have e1 : wu.cell? ⟨w.heap.size + 1, 1, none⟩ = some (.slice Ab nb cb) := Su.out.cell 1
      have e2 : wu.cell? ⟨w.heap.size + 1, 2, none⟩ = some (.slice Ac nc cc) := Su.out.cell 2
      have e3 : wu.cell? ⟨w.heap.size + 1, 3, none⟩ = some (.slice Af nf cf) := Su.out.cell 3
      have e4 : wu.cell? ⟨w.heap.size + 1, 4, none⟩ = some (.slice none 0 0) := Su.out.cell 4
      have z0 := Su.out.free
      clear h2 hq Cu
      have Su9 := hid (Su.out.set FX.out 4 (.slice Au nu cu))
      have Ka_b_c9_f9_u9 := hid (Ka_b_c9_f9_u.out.set FX.out 4 (.slice Au nu cu))
      have Kb_c9_f9_u9 := hid (Kb_c9_f9_u.out.set FX.out 4 (.slice Au nu cu))
      have Kc_f9_u9 := hid (Kc_f9_u.out.set FX.out 4 (.slice Au nu cu))
      have Kf_u9 := hid (Kf_u.out.set FX.out 4 (.slice Au nu cu))
      have Ku := hid (Ku0.out.set FX.out 4 (.slice Au nu cu))
      have y0 : wu.cell? ⟨w.heap.size, 0, none⟩ = some (.slice none 0 0) := Su.out.cell0 0
      have y1 : wu.cell? ⟨w.heap.size, 1, none⟩ = some (.slice none 0 0) := Su.out.cell0 1
      have y2 : wu.cell? ⟨w.heap.size, 2, none⟩ = some (.slice none 0 0) := Su.out.cell0 2
      have y3 : wu.cell? ⟨w.heap.size, 3, none⟩ = some (.slice none 0 0) := Su.out.cell0 3
      have y4 : wu.cell? ⟨w.heap.size, 4, none⟩ = some (.slice none 0 0) := Su.out.cell0 4
      have x0 := Su.out.free0
      go_wp2_with fail
      have ec := (heap_setCell_same _ _ 4 _ _ (.slice Au nu cu) (heap_setCell_same _ _ 3 _ _ (.slice Af nf cf) (heap_setCell_same _ _ 2 _ _ (.slice Ac nc cc) (heap_setCell_same _ _ 1 _ _ (.slice Ab nb cb) (heap_setCell_same _ _ 0 _ _ (.slice Aa na ca) Su9.out.res)))))
      have tc := ((turn_set (wu.setCell ⟨w.heap.size + 1, 4, none⟩ (.slice Au nu cu)) w.heap.size 0 (.slice Aa na ca)).trans ((turn_set _ w.heap.size 1 (.slice Ab nb cb)).trans ((turn_set _ w.heap.size 2 (.slice Ac nc cc)).trans ((turn_set _ w.heap.size 3 (.slice Af nf cf)).trans (turn_set _ w.heap.size 4 (.slice Au nu cu)) (fun _ _ h => h)) (fun _ _ h => h)) (fun _ _ h => h)) (fun _ _ h => h))
      have fx := FX.out
      have hbk := HLT.out
      have hB := Su9.out.rd.base
      refine bodyPost_ret (results_cell rfl rfl ec Try.underlying42 rfl (by kernel_rfl)) rfl ?_
      have hrd := Su9.out.rd.turn tc (by omega) (fun j hj e => by omega)
      have htt := Su9.out.turn.trans tc (fun j hj e => by omega)
      have hone : ∀ u ∈ ([.slice Aa na ca, .slice Ab nb cb, .slice Ac nc cc, .slice Af nf cf, .slice Au nu cu] : List Value), u.oneCell' = true := by
        intro u hu
        simp only [List.mem_cons, List.not_mem_nil, or_false] at hu
        rcases hu with rfl | rfl | rfl | rfl | rfl <;> rfl
      rcases co_chain HQa.out HQb.out HQc.out HQf.out HQu.out with ⟨t, r1, nn, r2, m, r3, f, r4, u, r5, ea, eb, ec1, ef, eu, hq⟩ | ⟨hq, eu⟩
      · rw [eu] at hrd
        refine ⟨_, rfl, SobF.good hq htt (fun w9 t9 => ?_) hrd⟩
        have tt := (tc.mono (G := fun k => k < w.heap.size + 2) (fun j _ hj => by omega)).trans t9 (fun j _ hj => by omega)
        have la := Ka_b_c9_f9_u9.out w9 tt _ _ ea
        have lb := Kb_c9_f9_u9.out w9 tt _ _ eb
        have lc := Kc_f9_u9.out w9 tt _ _ ec1
        have lf := Kf_u9.out w9 tt _ _ ef
        have lu := Ku.out w9 tt _ _ eu
        obtain ⟨zf, sf, rf⟩ := lf
        obtain ⟨zu, su, ru⟩ := lu
        exact ⟨[.slice Aa na ca, .slice Ab nb cb, .slice Ac nc cc, .slice Af nf cf, .slice Au nu cu], rfl, rfl, hone, CoR.mk (list_ints la) (list_needs lb) (list_texts lc) sf (row_cos rf) su (row_cos ru)⟩
      · rw [eu] at hrd
        obtain ⟨l9, hl9⟩ := hrd
        exact ⟨_, rfl, SobF.bad hq htt ⟨_, _, _, _, _, _, _, _, _, _, _, _, _, _, _, rfl⟩ hl9⟩
end Go.Proofs.Ytpnggkkfoipfhaa
