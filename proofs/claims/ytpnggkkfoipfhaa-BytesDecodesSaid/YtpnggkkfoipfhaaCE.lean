/- A reader of bytes: functions and coercions. -/
import Derived.Test.YtpnggkkfoipfhaaCD
set_option linter.unusedVariables false
namespace Go.Proofs.Ytpnggkkfoipfhaa
open Go.RowKit

/-- Where a struct's reading stands: two blocks of its own, the result's and the variable's. -/
structure StAt (T : TypeId) (zero : Array Value) (w : World) (bk B : Nat) (d : Int) (wr : World) (cs : Array Value) (r : Bt) : Prop where
  hbk : bk < w.heap.size
  turn : Turn (fun k => k = bk) w wr
  rd : RdAt wr bk B r d
  res : wr.heap[w.heap.size]? = some (.cells zero T (0, 0))
  arr : wr.heap[w.heap.size + 1]? = some (.cells cs T (0, 0))
/-- What holds and will hold, whatever becomes of what was there and of the two blocks. -/
def Held (w : World) (P : World → Prop) (wr : World) : Prop := ∀ w'', Turn (fun k => k < w.heap.size + 2) wr w'' → P w''
section
variable {T : TypeId} {zero : Array Value} {w : World} {bk B : Nat} {d : Int} {wr w1 : World} {cs : Array Value} {r r' : Bt} {P : World → Prop}
theorem StAt.size (h : StAt T zero w bk B d wr cs r) : w.heap.size + 2 ≤ wr.heap.size := block_lt h.arr
theorem StAt.call {d' : Int} (h : StAt T zero w bk B d wr cs r) (t : Turn (fun k => k = bk) wr w1) (hr : RdAt w1 bk B r' d') : StAt T zero w bk B d' w1 cs r' :=
  ⟨h.hbk, turn_same h.turn t, hr, block_turn h.res t (by have := h.hbk; omega), block_turn h.arr t (by have := h.hbk; omega)⟩
theorem StAt.set (h : StAt T zero w bk B d wr cs r) (i : Nat) (v : Value) : StAt T zero w bk B d (wr.setCell ⟨w.heap.size + 1, i, none⟩ v) (cs.setIfInBounds i v) r := by
  have t := turn_set wr (w.heap.size + 1) i v
  have := h.hbk
  have := h.rd.1
  exact ⟨h.hbk, h.turn.trans t (fun j hj e => by omega), h.rd.turn t (by omega) (fun j hj e => by omega), block_turn h.res t (by omega), heap_setCell_same _ _ _ _ _ _ h.arr⟩
theorem StAt.cell (h : StAt T zero w bk B d wr cs r) (i : Nat) : wr.cell? ⟨w.heap.size + 1, i, none⟩ = cs[i]? := cell_of_row _ _ _ _ _ _ h.arr
theorem StAt.free (h : StAt T zero w bk B d wr cs r) (i : Nat) : wr.frozen? ⟨w.heap.size + 1, i, none⟩ = false := block_free h.arr i
theorem StAt.cell0 (h : StAt T zero w bk B d wr cs r) (i : Nat) : wr.cell? ⟨w.heap.size, i, none⟩ = zero[i]? := cell_of_row _ _ _ _ _ _ h.res
theorem StAt.free0 (h : StAt T zero w bk B d wr cs r) (i : Nat) : wr.frozen? ⟨w.heap.size, i, none⟩ = false := block_free h.res i
theorem StAt.start (o : Array Value) (h : RdAt w bk B r d) : StAt T o w bk B d ((w.alloc (.cells o T)).alloc (.cells o T)) o r := by
  have b2 : Below w.heap.size w ((w.alloc (.cells o T)).alloc (.cells o T)) := ((Below.refl _ _).alloc (Nat.le_refl _) _).alloc (by simp) _
  exact ⟨h.lt, Turn.of_below b2, h.below b2, (two_new w _ _).1, (two_new w _ _).2⟩
theorem Held.new (h : ∀ w'', Turn (fun k => k < wr.heap.size) w1 w'' → P w'') (hs : w.heap.size + 2 ≤ wr.heap.size) : Held w P w1 := fun w'' t => h w'' (t.mono fun j _ hj => by omega)
theorem Held.call (h : Held w P wr) (hb : bk < w.heap.size) (t : Turn (fun k => k = bk) wr w1) : Held w P w1 := fun w'' t' => h w'' ((t.mono fun j _ hj => (by omega : j < w.heap.size + 2)).trans t' fun _ _ h => h)
theorem Held.set (h : Held w P wr) (i : Nat) (v : Value) : Held w P (wr.setCell ⟨w.heap.size + 1, i, none⟩ v) := fun w'' t' => h w'' (((turn_set wr (w.heap.size + 1) i v).mono fun j _ hj => (by omega : j < w.heap.size + 2)).trans t' fun _ _ h => h)
end
theorem sl_shape {w : World} {B k : Nat} {v : Value} {xs : List Value} (h : Sl w B k v xs) : ∃ A n c, v = .slice A n c := by
  obtain ⟨A, n, c, hv, _⟩ := h
  exact ⟨A, n, c, hv⟩
theorem list_shape {α : Type} {R : World → List Value → α → Prop} {w : World} {k : Nat} {v : Value} {x : List α} (h : ListP k R w v x) : ∃ A n c, v = .slice A n c := by
  obtain ⟨xs, h, _⟩ := h
  exact sl_shape h
theorem rdinstrs_any (w : World) (bk B : Nat) (l : Bt) (d : Int) (hR : RdAt w bk B l d) :
    Calls Try.prog 69 #[.pointer (some ⟨bk, 0, none⟩), .func (.func 70) #[.pointer (some ⟨bk, 0, none⟩)] #[]] w fun e w' => ReadsTo (fun w v x => Sl w w.heap.size 4 v (instrsV x)) bk B d w (allD instrD l) e w' :=
  (all_instr_any instrD RInstr w bk B l d hR (fun w1 l1 h => rdinstr_any w1 bk B l1 d h)).mono fun _ _ h => h.mono_ fun _ _ _ _ _ hv => list_instrs hv
theorem rdneeds_any (w : World) (bk B : Nat) (l : Bt) (d : Int) (hR : RdAt w bk B l d) :
    Calls Try.prog 67 #[.pointer (some ⟨bk, 0, none⟩), .func (.func 68) #[.pointer (some ⟨bk, 0, none⟩)] #[]] w fun e w' => ReadsTo (fun w v x => Sl w w.heap.size 2 v (needsV x)) bk B d w (allD needD l) e w' :=
  (all_need_any needD RNeed w bk B l d hR (fun w1 l1 h => rdneed_any w1 bk B l1 d h)).mono fun _ _ h => h.mono_ fun _ _ _ _ _ hv => list_needs hv
set_option maxRecDepth 100000 in
set_option maxHeartbeats 2000000 in
theorem rdproc_any (w : World) (bk B : Nat) (l : Bt) (d : Int) (hR : RdAt w bk B l d) :
    Calls Try.prog 58 #[.pointer (some ⟨bk, 0, none⟩)] w fun e w' => ReadsTo (ElK 3 RProc) bk B d w (procD l) e w' := by
  have hmf : ∀ (fn : Fn) (first cap : Array Value) (w : World), (Instr.makeFunc fn first cap).run Try.prog w = .ok (.func fn first cap) w := fun _ _ _ _ => rfl
  have S0 := hid (StAt.start (T := 47) #[(.int .i64 0), (.int .i64 0), (.slice none 0 0)] hR)
  clear hR
  go_enter Try.func58, Try.ntmps58
  have Ca := hid (rdnum_any ((w.alloc (.cells #[(.int .i64 0), (.int .i64 0), (.slice none 0 0)] 47)).alloc (.cells #[(.int .i64 0), (.int .i64 0), (.slice none 0 0)] 47)) bk B l d S0.out.rd)
  go_wp2_with fail
  refine Ca.out.mono ?_
  rintro e wa h2
  rcases hx : numD l with _ | ⟨xa, ra⟩
  · obtain ⟨rfl, t2⟩ := h2.none_ hx
    have HXa := hid hx
    clear hx h2 Ca
    go_wp2_with fail
    exact ⟨rfl, ReadsTo.fail (by simp only [procD, mapD, andD, HXa.out]) (turn_same S0.out.turn t2)⟩
  obtain ⟨va, rfl, t2, hv, hr2⟩ := h2.some_ hx
  have HXa := hid hx
  obtain rfl := hv _ (Turn.refl _ _)
  have Sa := hid (S0.out.call t2 hr2)
  have c0 : wa.cell? ⟨w.heap.size + 1, 0, none⟩ = some (.int .i64 0) := Sa.out.cell 0
  have z0 := Sa.out.free
  clear hx h2 hv hr2 t2 Ca
  have Sa9 := hid (Sa.out.set 0 (.int .i64 xa))
  have Cb := hid (rdnum_any (wa.setCell ⟨w.heap.size + 1, 0, none⟩ (.int .i64 xa)) bk B ra d Sa9.out.rd)
  go_wp2_with fail
  refine Cb.out.mono ?_
  rintro e wb h2
  rcases hx : numD ra with _ | ⟨xb, rb⟩
  · obtain ⟨rfl, t2⟩ := h2.none_ hx
    have HXb := hid hx
    clear hx h2 Cb
    go_wp2_with fail
    exact ⟨rfl, ReadsTo.fail (by simp only [procD, mapD, andD, HXa.out, HXb.out]) (turn_same Sa9.out.turn t2)⟩
  obtain ⟨vb, rfl, t2, hv, hr2⟩ := h2.some_ hx
  have HXb := hid hx
  obtain rfl := hv _ (Turn.refl _ _)
  have Sb := hid (Sa9.out.call t2 hr2)
  have c1 : wb.cell? ⟨w.heap.size + 1, 1, none⟩ = some (.int .i64 0) := Sb.out.cell 1
  have z0 := Sb.out.free
  clear hx h2 hv hr2 t2 Cb
  have Sb9 := hid (Sb.out.set 1 (.int .i64 xb))
  have Cc := hid (rdinstrs_any (wb.setCell ⟨w.heap.size + 1, 1, none⟩ (.int .i64 xb)) bk B rb d Sb9.out.rd)
  go_wp2_with fail
  refine Cc.out.mono ?_
  rintro e wc h2
  rcases hx : allD instrD rb with _ | ⟨xc, rc⟩
  · obtain ⟨rfl, t2⟩ := h2.none_ hx
    have HXc := hid hx
    clear hx h2 Cc
    go_wp2_with fail
    exact ⟨rfl, ReadsTo.fail (by simp only [procD, mapD, andD, HXa.out, HXb.out, HXc.out]) (turn_same Sb9.out.turn t2)⟩
  obtain ⟨vc, rfl, t2, hv, hr2⟩ := h2.some_ hx
  have HXc := hid hx
  obtain ⟨Ac, nc, cc, rfl⟩ := sl_shape (hv _ (Turn.refl _ _))
  have Sc := hid (Sb9.out.call t2 hr2)
  have Kcc := hid (Held.new (w := w) hv Sb9.out.size)
  have c0 : wc.cell? ⟨w.heap.size + 1, 0, none⟩ = some (.int .i64 xa) := Sc.out.cell 0
  have c1 : wc.cell? ⟨w.heap.size + 1, 1, none⟩ = some (.int .i64 xb) := Sc.out.cell 1
  have c2 : wc.cell? ⟨w.heap.size + 1, 2, none⟩ = some (.slice none 0 0) := Sc.out.cell 2
  have d0 : wc.cell? ⟨w.heap.size, 0, none⟩ = some (.int .i64 0) := Sc.out.cell0 0
  have d1 : wc.cell? ⟨w.heap.size, 1, none⟩ = some (.int .i64 0) := Sc.out.cell0 1
  have d2 : wc.cell? ⟨w.heap.size, 2, none⟩ = some (.slice none 0 0) := Sc.out.cell0 2
  have z1 := Sc.out.free0
  have z0 := Sc.out.free
  clear hx h2 hv hr2 t2 Cc
  have Sc9 := hid (Sc.out.set 2 (.slice Ac nc cc))
  have Kcc9 := hid (Held.set Kcc.out 2 (.slice Ac nc cc))
  go_wp2_with fail
  have ec := heap_setCell_same _ _ 2 _ _ (.slice Ac nc cc) (heap_setCell_same _ _ 1 _ _ (.int .i64 xb) (heap_setCell_same _ _ 0 _ _ (.int .i64 xa) (Sc9.out.res)))
  have tc := ((turn_set (wc.setCell ⟨w.heap.size + 1, 2, none⟩ (.slice Ac nc cc)) w.heap.size 0 (.int .i64 xa)).trans ((turn_set _ w.heap.size 1 (.int .i64 xb)).trans (turn_set _ w.heap.size 2 (.slice Ac nc cc)) (fun _ _ h => h)) (fun _ _ h => h))
  have hbk := Sc9.out.hbk
  have hB := Sc9.out.rd.1
  refine bodyPost_ret (results_cell rfl rfl ec Try.underlying47 rfl (by kernel_rfl)) rfl ?_
  refine ReadsTo.done (x := ⟨xa, xb, xc⟩) (r := rc) (by simp only [procD, mapD, andD, HXa.out, HXb.out, HXc.out]) (Sc9.out.turn.trans tc (fun j hj e => by omega)) (fun w9 t9 => ?_) (Sc9.out.rd.turn tc (by omega) (fun j hj e => by omega))
  have tt := (tc.mono (G := fun k => k < w.heap.size + 2) (fun j _ hj => by omega)).trans t9 (fun j _ hj => by omega)
  refine ⟨[(.int .i64 xa), (.int .i64 xb), (.slice Ac nc cc)], rfl, rfl, ?_, ⟨_, rfl, Kcc9.out w9 tt⟩⟩
  · intro u hu
    simp only [List.mem_cons, List.not_mem_nil, or_false] at hu
    rcases hu with rfl | rfl | rfl <;> rfl
theorem RdAt.deep {w : World} {bk B : Nat} {l : Bt} {d : Int} (h : RdAt w bk B l d) (d' : Int) : RdAt (w.setCell ⟨bk, 1, none⟩ (.int .i64 d')) bk B l d' := by
  have hlt := h.lt
  obtain ⟨h1, h2, v, h3, h4⟩ := h
  exact ⟨h1, h2, v, heap_setCell_same _ _ 1 _ _ _ h3, h4.turn (by omega) (turn_set _ bk 1 _) (fun k hk e => by omega)⟩
theorem StAt.deep {T : TypeId} {zero : Array Value} {w : World} {bk B : Nat} {d : Int} {wr : World} {cs : Array Value} {r : Bt} (h : StAt T zero w bk B d wr cs r) (d' : Int) : StAt T zero w bk B d' (wr.setCell ⟨bk, 1, none⟩ (.int .i64 d')) cs r :=
  h.call (turn_set _ bk 1 _) (h.rd.deep d')
theorem StAt.start2 {T : TypeId} {w : World} {bk B : Nat} {d : Int} {r : Bt} (o : Array Value) (h : RdAt w bk B r d) (d' : Int) : StAt T o w bk B d' (((w.setCell ⟨bk, 1, none⟩ (.int .i64 d')).alloc (.cells o T)).alloc (.cells o T)) o r := by
  have hs : (w.setCell ⟨bk, 1, none⟩ (.int .i64 d')).heap.size = w.heap.size := by simp
  have h1 := StAt.start (T := T) o (h.deep d')
  have h2 := h1.res
  have h3 := h1.arr
  rw [hs] at h2 h3
  exact ⟨h.lt, turn_same (turn_set w bk 1 _) h1.turn, h1.rd, h2, h3⟩
theorem rdcos_of (k : Nat) (d : Int) (w : World) (bk B : Nat) (l : Bt) (hR : RdAt w bk B l d) (ih : ∀ (w : World) (bk B : Nat) (l : Bt), RdAt w bk B l d → Calls Try.prog 56 #[.pointer (some ⟨bk, 0, none⟩)] w fun e w' => ReadsTo (ElK 5 RCo) bk B d w (coD k l) e w') :
    Calls Try.prog 55 #[.pointer (some ⟨bk, 0, none⟩), .func (.func 56) #[.pointer (some ⟨bk, 0, none⟩)] #[]] w fun e w' => ReadsTo (ListP 5 RCo) bk B d w (allD (coD k) l) e w' :=
  all_co_any (coD k) RCo w bk B l d hR (fun w1 l1 h => ih w1 bk B l1 h)
theorem coD_zero (l : Bt) : coD 0 l = none := by rw [coD]
theorem rdco_zero (w : World) (bk B : Nat) (l : Bt) (d : Int) (hd : d = 40) (hR : RdAt w bk B l d) :
    Calls Try.prog 56 #[.pointer (some ⟨bk, 0, none⟩)] w fun e w' => ReadsTo (ElK 5 RCo) bk B d w (coD 0 l) e w' := by
  obtain ⟨A, c, hn, hc, hL, hB, hbs, hb, d1, d2, z1, z2⟩ := hR.parts
  clear hbs hb hR
  have hlt := cell_lt d1
  subst hd
  go_enter Try.func56, Try.ntmps56
  go_wp2_with fail
  refine (must_not _ rfl _).mono ?_
  rintro e w2 ⟨rfl, rfl⟩
  go_wp2_with fail
  exact ⟨rfl, ReadsTo.fail (coD_zero l) (Turn.alloc _ _ _)⟩
set_option maxRecDepth 100000 in
set_option maxHeartbeats 4000000 in
theorem rdco_any : ∀ (k : Nat) (w : World) (bk B : Nat) (l : Bt) (d : Int), d + (k : Int) = 40 → 0 ≤ d → RdAt w bk B l d →
    Calls Try.prog 56 #[.pointer (some ⟨bk, 0, none⟩)] w fun e w' => ReadsTo (ElK 5 RCo) bk B d w (coD k l) e w'
  | 0, w, bk, B, l, d, hk, hd, hR => rdco_zero w bk B l d (by omega) hR
  | k + 1, w, bk, B, l, d, hk, hd, hR => by
    have hmf : ∀ (fn : Fn) (first cap : Array Value) (w : World), (Instr.makeFunc fn first cap).run Try.prog w = .ok (.func fn first cap) w := fun _ _ _ _ => rfl
    have ih : ∀ (w : World) (bk B : Nat) (l : Bt), RdAt w bk B l (d + 1) → Calls Try.prog 56 #[.pointer (some ⟨bk, 0, none⟩)] w fun e w' => ReadsTo (ElK 5 RCo) bk B (d + 1) w (coD k l) e w' :=
      fun w bk B l h => rdco_any k w bk B l (d + 1) (by omega) (by omega) h
    have IH := hid ih
    clear ih
    have hd40 : d < 40 := by omega
    obtain ⟨A, c, hn, hc, hL, hB, hbs, hb, d1, d2, z1, z2⟩ := hR.parts
    have hlt := hR.lt
    have S0 := hid (StAt.start2 (T := 42) #[(.slice none 0 0), (.slice none 0 0), (.slice none 0 0), (.slice none 0 0), (.slice none 0 0)] hR (d + 1))
    clear hR hbs hb hn hc hL
    go_enter Try.func56, Try.ntmps56
    go_wp2_with fail
    refine (must_yes _).mono ?_
    rintro e w1 ⟨rfl, rfl⟩
    have Ca := hid (rdints_any (((w.setCell ⟨bk, 1, none⟩ (.int .i64 (d + 1))).alloc (.cells #[(.slice none 0 0), (.slice none 0 0), (.slice none 0 0), (.slice none 0 0), (.slice none 0 0)] 42)).alloc (.cells #[(.slice none 0 0), (.slice none 0 0), (.slice none 0 0), (.slice none 0 0), (.slice none 0 0)] 42)) bk B l (d + 1) S0.out.rd)
    go_wp2_with fail
    refine Ca.out.mono ?_
    rintro e wa h2
    rcases hx : allD numD l with _ | ⟨xa, ra⟩
    · obtain ⟨rfl, t2⟩ := h2.none_ hx
      have HXa := hid hx
      clear hx h2 Ca
      go_wp2_with fail
      exact ⟨rfl, ReadsTo.fail (by simp only [coD, mapD, andD, HXa.out]) (turn_same S0.out.turn t2)⟩
    obtain ⟨va, rfl, t2, hv, hr2⟩ := h2.some_ hx
    have HXa := hid hx
    obtain ⟨Aa, na, ca, rfl⟩ := sl_shape (hv _ (Turn.refl _ _))
    have Sa := hid (S0.out.call t2 hr2)
    have Kaa := hid (Held.new (w := w) hv S0.out.size)
    have c0 : wa.cell? ⟨w.heap.size + 1, 0, none⟩ = some (.slice none 0 0) := Sa.out.cell 0
    have z0 := Sa.out.free
    clear hx h2 hv hr2 t2 Ca
    have Sa9 := hid (Sa.out.set 0 (.slice Aa na ca))
    have Kaa9 := hid (Held.set Kaa.out 0 (.slice Aa na ca))
    have Cb := hid (rdneeds_any (wa.setCell ⟨w.heap.size + 1, 0, none⟩ (.slice Aa na ca)) bk B ra (d + 1) Sa9.out.rd)
    go_wp2_with fail
    refine Cb.out.mono ?_
    rintro e wb h2
    rcases hx : allD needD ra with _ | ⟨xb, rb⟩
    · obtain ⟨rfl, t2⟩ := h2.none_ hx
      have HXb := hid hx
      clear hx h2 Cb
      go_wp2_with fail
      exact ⟨rfl, ReadsTo.fail (by simp only [coD, mapD, andD, HXa.out, HXb.out]) (turn_same Sa9.out.turn t2)⟩
    obtain ⟨vb, rfl, t2, hv, hr2⟩ := h2.some_ hx
    have HXb := hid hx
    obtain ⟨Ab, nb, cb, rfl⟩ := sl_shape (hv _ (Turn.refl _ _))
    have Sb := hid (Sa9.out.call t2 hr2)
    have Kab := hid (Held.call Kaa9.out Sa9.out.hbk t2)
    have Kbb := hid (Held.new (w := w) hv Sa9.out.size)
    have c1 : wb.cell? ⟨w.heap.size + 1, 1, none⟩ = some (.slice none 0 0) := Sb.out.cell 1
    have z0 := Sb.out.free
    clear hx h2 hv hr2 t2 Cb
    have Sb9 := hid (Sb.out.set 1 (.slice Ab nb cb))
    have Kab9 := hid (Held.set Kab.out 1 (.slice Ab nb cb))
    have Kbb9 := hid (Held.set Kbb.out 1 (.slice Ab nb cb))
    have Cc := hid (rdtexts_any (wb.setCell ⟨w.heap.size + 1, 1, none⟩ (.slice Ab nb cb)) bk B rb (d + 1) Sb9.out.rd)
    go_wp2_with fail
    refine Cc.out.mono ?_
    rintro e wc h2
    rcases hx : allD textD rb with _ | ⟨xc, rc⟩
    · obtain ⟨rfl, t2⟩ := h2.none_ hx
      have HXc := hid hx
      clear hx h2 Cc
      go_wp2_with fail
      exact ⟨rfl, ReadsTo.fail (by simp only [coD, mapD, andD, HXa.out, HXb.out, HXc.out]) (turn_same Sb9.out.turn t2)⟩
    obtain ⟨vc, rfl, t2, hv, hr2⟩ := h2.some_ hx
    have HXc := hid hx
    obtain ⟨Ac, nc, cc, rfl⟩ := sl_shape (hv _ (Turn.refl _ _))
    have Sc := hid (Sb9.out.call t2 hr2)
    have Kac := hid (Held.call Kab9.out Sb9.out.hbk t2)
    have Kbc := hid (Held.call Kbb9.out Sb9.out.hbk t2)
    have Kcc := hid (Held.new (w := w) hv Sb9.out.size)
    have c2 : wc.cell? ⟨w.heap.size + 1, 2, none⟩ = some (.slice none 0 0) := Sc.out.cell 2
    have z0 := Sc.out.free
    clear hx h2 hv hr2 t2 Cc
    have Sc9 := hid (Sc.out.set 2 (.slice Ac nc cc))
    have Kac9 := hid (Held.set Kac.out 2 (.slice Ac nc cc))
    have Kbc9 := hid (Held.set Kbc.out 2 (.slice Ac nc cc))
    have Kcc9 := hid (Held.set Kcc.out 2 (.slice Ac nc cc))
    have Cf := hid (rdcos_of k (d + 1) (wc.setCell ⟨w.heap.size + 1, 2, none⟩ (.slice Ac nc cc)) bk B rc Sc9.out.rd IH.out)
    go_wp2_with fail
    refine Cf.out.mono ?_
    rintro e wf h2
    rcases hx : allD (coD k) rc with _ | ⟨xf, rf⟩
    · obtain ⟨rfl, t2⟩ := h2.none_ hx
      have HXf := hid hx
      clear hx h2 Cf
      go_wp2_with fail
      exact ⟨rfl, ReadsTo.fail (by simp only [coD, mapD, andD, HXa.out, HXb.out, HXc.out, HXf.out]) (turn_same Sc9.out.turn t2)⟩
    obtain ⟨vf, rfl, t2, hv, hr2⟩ := h2.some_ hx
    have HXf := hid hx
    obtain ⟨Af, nf, cf, rfl⟩ := list_shape (hv _ (Turn.refl _ _))
    have Sf := hid (Sc9.out.call t2 hr2)
    have Kaf := hid (Held.call Kac9.out Sc9.out.hbk t2)
    have Kbf := hid (Held.call Kbc9.out Sc9.out.hbk t2)
    have Kcf := hid (Held.call Kcc9.out Sc9.out.hbk t2)
    have Kff := hid (Held.new (w := w) hv Sc9.out.size)
    have c3 : wf.cell? ⟨w.heap.size + 1, 3, none⟩ = some (.slice none 0 0) := Sf.out.cell 3
    have z0 := Sf.out.free
    clear hx h2 hv hr2 t2 Cf
    have Sf9 := hid (Sf.out.set 3 (.slice Af nf cf))
    have Kaf9 := hid (Held.set Kaf.out 3 (.slice Af nf cf))
    have Kbf9 := hid (Held.set Kbf.out 3 (.slice Af nf cf))
    have Kcf9 := hid (Held.set Kcf.out 3 (.slice Af nf cf))
    have Kff9 := hid (Held.set Kff.out 3 (.slice Af nf cf))
    have Cu := hid (rdcos_of k (d + 1) (wf.setCell ⟨w.heap.size + 1, 3, none⟩ (.slice Af nf cf)) bk B rf Sf9.out.rd IH.out)
    go_wp2_with fail
    refine Cu.out.mono ?_
    rintro e wu h2
    rcases hx : allD (coD k) rf with _ | ⟨xu, ru⟩
    · obtain ⟨rfl, t2⟩ := h2.none_ hx
      have HXu := hid hx
      clear hx h2 Cu
      go_wp2_with fail
      exact ⟨rfl, ReadsTo.fail (by simp only [coD, mapD, andD, HXa.out, HXb.out, HXc.out, HXf.out, HXu.out]) (turn_same Sf9.out.turn t2)⟩
    obtain ⟨vu, rfl, t2, hv, hr2⟩ := h2.some_ hx
    have HXu := hid hx
    obtain ⟨Au, nu, cu, rfl⟩ := list_shape (hv _ (Turn.refl _ _))
    have Su := hid (Sf9.out.call t2 hr2)
    have Kau := hid (Held.call Kaf9.out Sf9.out.hbk t2)
    have Kbu := hid (Held.call Kbf9.out Sf9.out.hbk t2)
    have Kcu := hid (Held.call Kcf9.out Sf9.out.hbk t2)
    have Kfu := hid (Held.call Kff9.out Sf9.out.hbk t2)
    have Kuu := hid (Held.new (w := w) hv Sf9.out.size)
    have c0 : wu.cell? ⟨w.heap.size + 1, 0, none⟩ = some (.slice Aa na ca) := Su.out.cell 0
    have c1 : wu.cell? ⟨w.heap.size + 1, 1, none⟩ = some (.slice Ab nb cb) := Su.out.cell 1
    have c2 : wu.cell? ⟨w.heap.size + 1, 2, none⟩ = some (.slice Ac nc cc) := Su.out.cell 2
    have c3 : wu.cell? ⟨w.heap.size + 1, 3, none⟩ = some (.slice Af nf cf) := Su.out.cell 3
    have c4 : wu.cell? ⟨w.heap.size + 1, 4, none⟩ = some (.slice none 0 0) := Su.out.cell 4
    have d0 : wu.cell? ⟨w.heap.size, 0, none⟩ = some (.slice none 0 0) := Su.out.cell0 0
    have d1 : wu.cell? ⟨w.heap.size, 1, none⟩ = some (.slice none 0 0) := Su.out.cell0 1
    have d2 : wu.cell? ⟨w.heap.size, 2, none⟩ = some (.slice none 0 0) := Su.out.cell0 2
    have d3 : wu.cell? ⟨w.heap.size, 3, none⟩ = some (.slice none 0 0) := Su.out.cell0 3
    have d4 : wu.cell? ⟨w.heap.size, 4, none⟩ = some (.slice none 0 0) := Su.out.cell0 4
    have z1 := Su.out.free0
    have z0 := Su.out.free
    obtain ⟨_, _, _, _, _, _, _, _, _, d2u, _, z2u⟩ := hr2.parts
    clear hx h2 hv hr2 t2 Cu
    have Su9 := hid (Su.out.set 4 (.slice Au nu cu))
    have Kau9 := hid (Held.set Kau.out 4 (.slice Au nu cu))
    have Kbu9 := hid (Held.set Kbu.out 4 (.slice Au nu cu))
    have Kcu9 := hid (Held.set Kcu.out 4 (.slice Au nu cu))
    have Kfu9 := hid (Held.set Kfu.out 4 (.slice Au nu cu))
    have Kuu9 := hid (Held.set Kuu.out 4 (.slice Au nu cu))
    have S99 := hid (Su9.out.deep d)
    have Ka99 := hid (Held.call Kau9.out Su9.out.hbk (turn_set _ bk 1 (.int .i64 d)))
    have Kb99 := hid (Held.call Kbu9.out Su9.out.hbk (turn_set _ bk 1 (.int .i64 d)))
    have Kc99 := hid (Held.call Kcu9.out Su9.out.hbk (turn_set _ bk 1 (.int .i64 d)))
    have Kf99 := hid (Held.call Kfu9.out Su9.out.hbk (turn_set _ bk 1 (.int .i64 d)))
    have Ku99 := hid (Held.call Kuu9.out Su9.out.hbk (turn_set _ bk 1 (.int .i64 d)))
    go_wp2_with fail
    have ec := heap_setCell_same _ _ 4 _ _ (.slice Au nu cu) (heap_setCell_same _ _ 3 _ _ (.slice Af nf cf) (heap_setCell_same _ _ 2 _ _ (.slice Ac nc cc) (heap_setCell_same _ _ 1 _ _ (.slice Ab nb cb) (heap_setCell_same _ _ 0 _ _ (.slice Aa na ca) (S99.out.res)))))
    have tc := ((turn_set ((wu.setCell ⟨w.heap.size + 1, 4, none⟩ (.slice Au nu cu)).setCell ⟨bk, 1, none⟩ (.int .i64 d)) w.heap.size 0 (.slice Aa na ca)).trans ((turn_set _ w.heap.size 1 (.slice Ab nb cb)).trans ((turn_set _ w.heap.size 2 (.slice Ac nc cc)).trans ((turn_set _ w.heap.size 3 (.slice Af nf cf)).trans (turn_set _ w.heap.size 4 (.slice Au nu cu)) (fun _ _ h => h)) (fun _ _ h => h)) (fun _ _ h => h)) (fun _ _ h => h))
    have hbk := S99.out.hbk
    have hB := S99.out.rd.1
    refine bodyPost_ret (results_cell rfl rfl ec Try.underlying42 rfl (by kernel_rfl)) rfl ?_
    refine ReadsTo.done (x := CoD.mk xa xb xc xf xu) (r := ru) (by simp only [coD, mapD, andD, HXa.out, HXb.out, HXc.out, HXf.out, HXu.out]) (S99.out.turn.trans tc (fun j hj e => by omega)) (fun w9 t9 => ?_) (S99.out.rd.turn tc (by omega) (fun j hj e => by omega))
    have tt := (tc.mono (G := fun k => k < w.heap.size + 2) (fun j _ hj => by omega)).trans t9 (fun j _ hj => by omega)
    obtain ⟨zf, sf, rf⟩ := Kf99.out w9 tt
    obtain ⟨zu, su, ru⟩ := Ku99.out w9 tt
    refine ⟨[(.slice Aa na ca), (.slice Ab nb cb), (.slice Ac nc cc), (.slice Af nf cf), (.slice Au nu cu)], rfl, rfl, ?_, CoR.mk (Ka99.out w9 tt) (Kb99.out w9 tt) (Kc99.out w9 tt) sf (row_cos rf) su (row_cos ru)⟩
    · intro u hu
      simp only [List.mem_cons, List.not_mem_nil, or_false] at hu
      rcases hu with rfl | rfl | rfl | rfl | rfl <;> rfl
end Go.Proofs.Ytpnggkkfoipfhaa
