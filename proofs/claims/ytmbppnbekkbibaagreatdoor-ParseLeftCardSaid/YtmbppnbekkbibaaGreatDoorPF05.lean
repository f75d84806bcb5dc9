/- MQ, FD, FE, FF, FG, FJ, MX -/
import Derived.Deep.RegionHeld
import Derived.WalkKit
import Derived.Test.YtmbppnbekkbibaaGreatDoorPF01
import Derived.Test.YtmbppnbekkbibaaGreatDoorPF04
import Derived.Recover
import Derived.Defers
set_option linter.unusedSimpArgs false
set_option linter.unusedVariables false
section
/- Steps of regions that draw their order, said in short. -/
set_option linter.unusedVariables false
namespace Go.Proofs.YtmbppnbekkbibaaGreatDoor
open Go.RowKit

section
variable {P : Program} {md : Region.Mode} {ops : Array Oper} {Q : Exit → Act → World → Prop} {S : World → Prop}
/-- Number i is taken first: it yields v. -/
theorem tk (i : Nat) (v : Value) {oi : Oper} {fuel : Nat} {listed listed' : Array Bool} {a a' : Act} {w : World} (hS : S w) (h : wpAnyH P md ops Q S fuel listed' a' w)
    (hi : ops[i]? = some oi := by rfl) (hs : Region.noSelect ops = true := by kernel_rfl) (hf : Region.free md ops listed i = true := by kernel_rfl) (hr : (Region.ready md ops listed).contains i = true := by kernel_rfl)
    (hQ : ∀ c a w, Q (.panic c) (a.put oi.dst v) w → Q (.panic c) a w := by exact fun _ _ _ h => h) (hw : Region.wanted oi (yielded ops a.tmps) = true := by kernel_rfl)
    (hy : ∀ w, S w → (execOp a.eval oi).run P w = .ok (.value v) w := by intro w' hSw; go_simp)
    (hl : listed.setIfInBounds i true = listed' := by (try simp only [List.setIfInBounds_toArray, List.set_cons_zero, List.set_cons_succ]); rfl)
    (ha : a.put oi.dst v = a' := by (try simp only [Act.put, List.getElem_toArray, List.getElem_cons_zero, List.getElem_cons_succ, List.setIfInBounds_toArray, List.set_cons_zero, List.set_cons_succ]); rfl) : wpAnyH P md ops Q S (fuel + 1) listed a w := by
  subst hl ha
  exact wpAnyH_take hi hs hf hr hQ (.inl ⟨hw, hy⟩) hS h
/-- The same, of what cells hold. -/
theorem tkf (i : Nat) (v : Value) {F : World → Prop} (f : ∀ w', S w' → F w') {oi : Oper} {fuel : Nat} {listed listed' : Array Bool} {a a' : Act} {w : World} (hS : S w) (h : wpAnyH P md ops Q S fuel listed' a' w)
    (hi : ops[i]? = some oi := by rfl) (hs : Region.noSelect ops = true := by kernel_rfl) (hf : Region.free md ops listed i = true := by kernel_rfl) (hr : (Region.ready md ops listed).contains i = true := by kernel_rfl)
    (hQ : ∀ c a w, Q (.panic c) (a.put oi.dst v) w → Q (.panic c) a w := by exact fun _ _ _ h => h) (hw : Region.wanted oi (yielded ops a.tmps) = true := by kernel_rfl)
    (hy : ∀ w, F w → (execOp a.eval oi).run P w = .ok (.value v) w := by intro w' hSw; go_simp)
    (hl : listed.setIfInBounds i true = listed' := by (try simp only [List.setIfInBounds_toArray, List.set_cons_zero, List.set_cons_succ]); rfl)
    (ha : a.put oi.dst v = a' := by (try simp only [Act.put, List.getElem_toArray, List.getElem_cons_zero, List.getElem_cons_succ, List.setIfInBounds_toArray, List.set_cons_zero, List.set_cons_succ]); rfl) : wpAnyH P md ops Q S (fuel + 1) listed a w := by
  subst hl ha
  exact wpAnyH_take hi hs hf hr hQ (.inl ⟨hw, fun w h => hy w (f w h)⟩) hS h
end
section
variable {w : World} {a0 a1 a2 a3 a4 a5 a6 a7 : Addr} {v0 v1 v2 v3 v4 v5 v6 v7 : Value}
theorem kb {w w' : World} {a : Addr} {v : Value} (h : Below w.heap.size w w') (d : w.cell? a = some v) : w'.cell? a = some v := (h.cell (World.block_lt_of_cell? w a d)).trans d
theorem kp1 (d0 : w.cell? a0 = some v0) : ∀ w', Below w.heap.size w w' → w'.cell? a0 = some v0 := fun _ h => kb h d0
end
end Go.Proofs.YtmbppnbekkbibaaGreatDoor
end
section
/- The contracts of the parser's tokens: take, has. -/
set_option linter.unusedVariables false
namespace Go.Proofs.YtmbppnbekkbibaaGreatDoor
open Go.RowKit

theorem take1_any (w : World) (bp B : Nat) (ts : List TokD) (d : Int) (h : TkAt w bp B ts d) (p : Nat) (hp : w.cell? ⟨p, 0, none⟩ = some (.pointer (some ⟨bp, 0, none⟩))) (s : Bt) :
    Calls Tryz.prog 139 #[sv s, .pointer (some ⟨p, 0, none⟩)] w fun e w' => e = .returned (.bool (isT (nextP ts) s)) ∧ Below w.heap.size w w' := by
  have HN := hid (nxt_any w bp B ts d h)
  clear h
  generalize nextP ts = t at *
  have HI := hid (fun w1 => is_any w1 t s)
  go_enter Tryz.func139, Tryz.ntmps139
  go_wp2_with fail
  refine HN.out.mono ?_
  rintro e w1 ⟨rfl, hb⟩
  have HB := hid hb
  clear hb hp
  go_wp2_with fail
  refine (HI.out _).mono ?_
  rintro e w2 ⟨rfl, hb⟩
  have HB2 := hid (HB.out.trans (hb.mono HB.out.size))
  clear hb
  go_wp2_with fail
  go_ret
  exact ⟨rfl, HB2.out⟩
/-- Which of the texts is met first, as a number: below 0, none. -/
def idxI (o : Option Nat) : Int := match o with | some i => (i : Int) | none => -1
theorem find_take {p : Bt → Bool} {l : List Bt} {k : Nat} (hk : k < l.length) (h : (l.take k).findIdx? p = none) : (l.take (k + 1)).findIdx? p = if p l[k] then some k else none := by
  rw [List.take_succ_eq_append_getElem hk, List.findIdx?_append, h]
  have : (l.take k).length = k := by rw [List.length_take]; omega
  cases hp : p l[k] <;> simp [hp, this]
theorem pfind_more {p : Bt → Bool} {l : List Bt} {k j : Nat} (h : (l.take k).findIdx? p = some j) : l.findIdx? p = some j := by
  rw [← List.take_append_drop k l, List.findIdx?_append, h]; rfl
set_option maxRecDepth 100000 in
set_option maxHeartbeats 2000000 in
theorem index_take (w : World) (bp B : Nat) (ts : List TokD) (d : Int) (h : TkAt w bp B ts d) (p : Nat) (hp : w.cell? ⟨p, 0, none⟩ = some (.pointer (some ⟨bp, 0, none⟩))) (v : Value) (l : List Bt) (hv : Ss w w.heap.size v l) (hl : l.length ≤ 100000) :
    Calls Tryz.prog 138 #[v, .func (.func 139) #[] #[.pointer (some ⟨p, 0, none⟩)]] w fun e w' => e = .returned (.int .i64 (idxI (l.findIdx? (isT (nextP ts))))) ∧ Below w.heap.size w w' := by
  obtain ⟨A, c, rfl, hn, hc, hx⟩ := hv.open_
  unfold maxLen at hc
  have hx : 0 < l.length → ∃ b off, A = some ⟨b, off, none⟩ ∧ b < w.heap.size ∧ ∀ (j : Nat) (s : Bt), l[j]? = some s → w.cell? ⟨b, off + j, none⟩ = some (sv s) := fun h0 => by
    obtain ⟨b, o, h1, h2, h3⟩ := hx h0
    refine ⟨b, o, h1, h2, fun j s hj => ?_⟩
    obtain ⟨hj1, rfl⟩ := List.getElem?_eq_some_iff.1 hj
    exact h3 j hj1
  have HT := hid (fun (w1 : World) (hb : Below w.heap.size w w1) (s : Bt) => take1_any w1 bp B ts d (h.below hb) p (kb hb hp) s)
  have HX := hid hx
  clear h hp hv hx
  generalize nextP ts = t at *
  obtain ⟨m, hm⟩ : ∃ m, l.length = m := ⟨_, rfl⟩
  rw [hm] at hn HX hl
  rw [hm]
  have HM := hid hm
  clear hm
  go_enter Tryz.func138, Tryz.ntmps138
  go_wp2_with fail
  go_loopw [8] (fun v8 wr => ∃ k : Nat, v8 = .int .i64 k ∧ k ≤ m ∧ (l.take k).findIdx? (isT t) = none ∧ Below w.heap.size w wr) (fun v8 _ => m - (intOf v8).toNat)
  case atStart => exact ⟨0, rfl, by omega, rfl, Below.refl _ _⟩
  case round =>
    obtain ⟨k, rfl, hk, hinv, hbr⟩ := hrel
    have HB := hid hbr
    by_cases hlt : k < m
    · have hlt' : k < l.length := by rw [HM.out]; exact hlt
      obtain ⟨b, o, rfl, hb, hcell⟩ := HX.out (by omega)
      obtain ⟨s, hs⟩ : ∃ s, l[k]? = some s := ⟨_, List.getElem?_eq_getElem hlt'⟩
      have hst := find_take hlt' hinv
      rw [(List.getElem?_eq_some_iff.1 hs).2] at hst
      have d0 := kb hbr (hcell k s hs)
      have HC := hid (HT.out wr hbr s)
      clear hs
      have HI := hid hinv
      clear hinv hbr
      cases hq : isT t s
      · rw [hq] at HC hst
        have HS := hid hst
        clear hst hq
        go_wp2_with fail
        refine HC.out.mono ?_
        rintro e w2 ⟨rfl, hb2⟩
        have HB2 := hid (HB.out.trans (hb2.mono HB.out.size))
        clear hb2 d0
        go_wp2_with fail
        go_roundw
        case rel => exact ⟨k + 1, rfl, by omega, HS.out, HB2.out⟩
        case measure => simp [intOf]; omega
      · rw [hq] at HC hst
        have HS := hid (pfind_more hst)
        clear hst hq
        go_wp2_with fail
        refine HC.out.mono ?_
        rintro e w2 ⟨rfl, hb2⟩
        have HB2 := hid (HB.out.trans (hb2.mono HB.out.size))
        clear hb2 d0
        go_wp2_with fail
        go_ret
        exact ⟨by rw [HS.out]; rfl, HB2.out⟩
    · obtain rfl : k = m := by omega
      rw [List.take_of_length_le (by rw [HM.out]; exact Nat.le_refl _)] at hinv
      have HI := hid hinv
      clear hinv hbr
      go_wp2_with fail
      go_ret
      exact ⟨by rw [HI.out]; rfl, HB.out⟩
theorem tcell {w w' : World} {G : Nat → Prop} {b o : Nat} {v : Value} (h : w.cell? ⟨b, o, none⟩ = some v) (t : Turn G w w') (hd : ¬ G b) : w'.cell? ⟨b, o, none⟩ = some v := by
  have hb := t.block (World.block_lt_of_cell? w _ h) hd
  simp only [World.cell?, hb] at h ⊢; exact h
/-- What take answers. -/
def PTake (w : World) (v : Value) (o : Option Nat) : Prop := v = .tuple #[.int .i64 ((o.getD 0 : Nat) : Int), .bool o.isSome]
set_option maxRecDepth 100000 in
set_option maxHeartbeats 4000000 in
theorem take_any (w : World) (bp B : Nat) (ts : List TokD) (d : Int) (h : TkAt w bp B ts d) (v : Value) (l : List Bt) (hv : Ss w w.heap.size v l) (hl : l.length ≤ 100000) :
    Calls Tryz.prog 90 #[.pointer (some ⟨bp, 0, none⟩), v] w (ReadsP PTake bp B d w (takeP l ts)) := by
  have hlt := h.lt
  obtain ⟨W, hW⟩ : ∃ W, w.alloc (.cells #[.pointer (some ⟨bp, 0, none⟩)] 179) = W := ⟨_, rfl⟩
  have hb1 : Below w.heap.size w W := by rw [← hW]; exact (Below.refl _ _).alloc (Nat.le_refl _) _
  have hbt : W.heap[w.heap.size]? = some (.cells #[.pointer (some ⟨bp, 0, none⟩)] 179 (0, 0)) := by rw [← hW]; exact heap_alloc_new _ _
  have hbc : W.cell? ⟨w.heap.size, 0, none⟩ = some (.pointer (some ⟨bp, 0, none⟩)) := (cell_of_row _ _ _ _ _ _ hbt).trans rfl
  have hT := h.below hb1
  have HI := hid (index_take W bp B ts d hT w.heap.size hbc v l (Sl.more (Sl.below hv hb1) hb1.size) hl)
  have HB := hid hb1
  have HT := hid hT
  have HW := hid hW
  have HBC := hid hbc
  obtain ⟨A, c, rfl, hn, hc, hx0⟩ := hv.open_
  clear hx0
  unfold maxLen at hc
  have hw := h.wf
  clear h hv hb1 hT hW hbt hbc
  rcases hq : l.findIdx? (isT (nextP ts)) with _ | i
  · rw [hq] at HI
    have HQ : Hid (takeP l ts = .good none ts) := hid (by unfold takeP; rw [hq])
    have HWF := hid hw
    clear hq hw
    generalize l.length = m at *
    go_enter Tryz.func90, Tryz.ntmps90
    go_wp2_with fail
    rw [HW.out]
    refine HI.out.mono ?_
    rintro e w2 ⟨rfl, hb⟩
    have HB2 := hid (HB.out.trans (hb.mono HB.out.size))
    have HT2 := hid (HT.out.below hb)
    clear hb
    unfold idxI
    go_wp2_with fail
    go_ret2
    exact ReadsP.done HQ.out (Turn.of_below HB2.out) rfl HT2.out
  · rw [hq] at HI
    obtain ⟨t, r, rfl⟩ : ∃ t r, ts = t :: r := by
      rcases hw.cases with ⟨e, rfl, _⟩ | ⟨t, r, rfl, _⟩
      · exact ⟨e, [], rfl⟩
      · exact ⟨t, r, rfl⟩
    have HQ : Hid (takeP l (t :: r) = .good (some i) r) := hid (by unfold takeP; rw [hq]; rfl)
    have HWF := hid hw
    clear hq hw
    generalize l.length = m at *
    go_enter Tryz.func90, Tryz.ntmps90
    go_wp2_with fail
    rw [HW.out]
    refine HI.out.mono ?_
    rintro e w2 ⟨rfl, hb⟩
    have HB2 := hid (HB.out.trans (hb.mono HB.out.size))
    have HT2 := hid (HT.out.below hb)
    have p0 := kb hb HBC.out
    clear hb
    unfold idxI
    obtain ⟨b, o, c2, t', r', he, hc2, hcm2, hok, hB2, hbB, hbk, hsl, d0, d1, z0, c0, c1, c2', c3⟩ := HT2.out.open_
    injection he with he1 he2
    subst he1 he2
    obtain ⟨A', hAb, hA', hrun⟩ := toks_from hsl
    have HTB := hid ((HT2.out.tok hbk).behind (n' := r.length) (c' := c2 - 1) hAb)
    clear hAb
    have HA := hid hA'
    have HBK := hid hbk
    have HOK := hid hok
    have hne : ¬ w.heap.size = bp := by omega
    have P0 := hid (fun (w' : World) (h : Turn (fun j => j = bp) w2 w') => tcell p0 h hne)
    have D0 := hid d0
    have HD0 : Hid (Turn (fun j => j = bp) w2 w2.drew) := hid ⟨rfl, rfl, rfl, Nat.le_refl _, fun _ _ _ => rfl⟩
    clear hsl hbk hok hA' c0 c1 c2' c3 d1 p0
    go_wp2_with fail
    refine wp_region_held_drew (S := fun w' => Turn (fun j => j = bp) w2 w') (by kernel_rfl) HD0.out (fun _ => ?_)
    try simp only [Act.put, List.getElem_toArray, List.getElem_cons_zero, List.getElem_cons_succ, List.setIfInBounds_toArray, List.set_cons_zero, List.set_cons_succ]
    refine tkf 0 (.pointer (some ⟨bp, 0, none⟩)) P0.out HD0.out ?_
    refine tkf 1 (.pointer (some ⟨bp, 0, none⟩)) P0.out HD0.out ?_
    refine tk 2 (.pointer (some ⟨bp, 0, none⟩)) HD0.out ?_
    refine tk 3 (.pointer (some ⟨bp, 0, none⟩)) HD0.out ?_
    refine wpAnyH_ready (rs := [4]) (by kernel_rfl) (by simp) ?_
    refine AllReadyH.cons rfl (fun K hK => ?_) AllReadyH.nil
    go_simp
    refine hK.out _ _ HD0.out (fun _ => ?_)
    clear hK K
    try simp only [Act.put, List.getElem_toArray, List.getElem_cons_zero, List.getElem_cons_succ, List.setIfInBounds_toArray, List.set_cons_zero, List.set_cons_succ]
    refine wpAnyH_ready (rs := [5]) (by kernel_rfl) (by simp) ?_
    refine AllReadyH.cons rfl (fun K hK => ?_) AllReadyH.nil
    go_simp
    refine hK.out _ _ HD0.out (fun _ => ?_)
    clear hK K
    try simp only [Act.put, List.getElem_toArray, List.getElem_cons_zero, List.getElem_cons_succ, List.setIfInBounds_toArray, List.set_cons_zero, List.set_cons_succ]
    refine tk 6 (.pointer (some ⟨bp, 0, none⟩)) HD0.out ?_
    refine tk 7 (.pointer (some ⟨bp, 0, none⟩)) HD0.out ?_
    refine wpAnyH_ready (rs := [8]) (by kernel_rfl) (by simp) ?_
    refine AllReadyH.cons rfl (fun K hK => ?_) AllReadyH.nil
    try rw [if_pos (by kernel_rfl)]
    go_simp
    have HS1 : Hid (Turn (fun j => j = bp) w2 (w2.drew.setCell ⟨bp, 0, none⟩ (.slice A' r.length (c2 - 1)))) := hid (HD0.out.trans (turn_set _ _ _ _) (fun _ _ h => h))
    refine hK.out _ _ HS1.out (fun _ => ?_)
    clear hK K
    try simp only [Act.put, List.getElem_toArray, List.getElem_cons_zero, List.getElem_cons_succ, List.setIfInBounds_toArray, List.set_cons_zero, List.set_cons_succ]
    refine wpAnyH_done (by kernel_rfl) ?_ _
    go_wp2_with fail
    go_ret2
    refine ReadsP.done HQ.out ((Turn.of_below (F := fun k => k = bp) HB2.out).trans HS1.out (fun _ _ h => h)) rfl ⟨hB2, HOK.out.tail, ((Sf.take_ l).good HWF.out HQ.out).1, _, heap_setCell_same _ bp 0 _ _ _ HBK.out, ?_⟩
    have hbw := (HS1.out).below (B := B) (by have := HB2.out.size; omega) (fun k hk e => by omega)
    exact ⟨Sl.below HA.out hbw, HT2.out.laid.below hbw, HTB.out.below hbw⟩
end Go.Proofs.YtmbppnbekkbibaaGreatDoor
end
section
/- The contracts of the parser's tokens: has, want, kind, name. -/
set_option linter.unusedVariables false
namespace Go.Proofs.YtmbppnbekkbibaaGreatDoor
open Go.RowKit

/-- A bool, a text, nothing. -/
def PBool (w : World) (v : Value) (b : Bool) : Prop := v = .bool b
def PTxt (w : World) (v : Value) (b : Bt) : Prop := v = sv b
def PUnit (w : World) (v : Value) (b : Unit) : Prop := True
theorem hasP_take (s : Bt) (ts : List TokD) : hasP s ts = thenP (takeP [s]) (fun o => retP o.isSome) ts := by
  unfold hasP thenP takeP
  cases h : isT (nextP ts) s <;> simp [h, retP]
theorem takeP_good {l : List Bt} {ts : List TokD} {g : DgD} (h : takeP l ts = .bad g) : False := by
  unfold takeP at h
  split at h <;> cases h
set_option maxRecDepth 100000 in
theorem has_any (w : World) (bp B : Nat) (ts : List TokD) (d : Int) (h : TkAt w bp B ts d) (s : Bt) :
    Calls Tryz.prog 76 #[.pointer (some ⟨bp, 0, none⟩), sv s] w (ReadsP PBool bp B d w (hasP s ts)) := by
  obtain ⟨W, hW⟩ : ∃ W, w.alloc (.cells #[sv s] 9) = W := ⟨_, rfl⟩
  have hb1 : Below w.heap.size w W := by rw [← hW]; exact (Below.refl _ _).alloc (Nat.le_refl _) _
  have hs : Ss W W.heap.size (.slice (some ⟨w.heap.size, 0, none⟩) 1 1) [s] := by rw [← hW]; exact (ss_new w s _).more (by simp)
  have HT := hid (take_any W bp B ts d (h.below hb1) _ [s] hs (by simp))
  have HB := hid hb1
  have HW := hid hW
  obtain ⟨Q, hQ⟩ : ∃ Q, hasP s ts = Q := ⟨_, rfl⟩
  rw [hQ]
  rw [hasP_take] at hQ
  have HQ := hid hQ
  clear hQ hs hb1 hW h
  go_enter Tryz.func76, Tryz.ntmps76
  go_wp2_with fail
  rw [HW.out]
  refine HT.out.mono ?_
  rintro e w2 h2
  rcases hq : takeP [s] ts with g | ⟨o, r⟩
  · exact (takeP_good hq).elim
  obtain ⟨v, rfl, t2, rfl, hR⟩ := h2.good_ hq
  have HQ2 := hid (HQ.out.symm.trans (thenP_good hq))
  have HT2 := hid ((Turn.of_below (F := fun k => k = bp) HB.out).trans t2 (fun _ _ h => h))
  have HR := hid hR
  clear h2 t2 hR hq
  go_wp2_with fail
  go_ret
  exact ReadsP.done HQ2.out HT2.out rfl HR.out
set_option maxRecDepth 100000 in
theorem want_any (w : World) (bp B : Nat) (ts : List TokD) (d : Int) (h : TkAt w bp B ts d) (v : Value) (l : List Bt) (hv : Ss w w.heap.size v l) (hl : l.length ≤ 100000) :
    Calls Tryz.prog 129 #[.pointer (some ⟨bp, 0, none⟩), v] w (ReadsP PUnit bp B d w (wantsP l ts)) := by
  obtain ⟨A, c, rfl, hn, hc, hx⟩ := hv.open_
  unfold maxLen at hc
  have hx : 0 < l.length → ∃ b off, A = some ⟨b, off, none⟩ ∧ b < w.heap.size ∧ ∀ (j : Nat) (s : Bt), l[j]? = some s → w.cell? ⟨b, off + j, none⟩ = some (sv s) := fun h0 => by
    obtain ⟨b, o, h1, h2, h3⟩ := hx h0
    refine ⟨b, o, h1, h2, fun j s hj => ?_⟩
    obtain ⟨hj1, rfl⟩ := List.getElem?_eq_some_iff.1 hj
    exact h3 j hj1
  have HX := hid hx
  have H0 := hid h
  obtain ⟨Q, hQ⟩ : ∃ Q, wantsP l ts = Q := ⟨_, rfl⟩
  rw [hQ]
  have HQ := hid hQ
  clear h hv hx hQ
  obtain ⟨m, hm⟩ : ∃ m, l.length = m := ⟨_, rfl⟩
  rw [hm] at hn HX hl
  rw [hm]
  have HM := hid hm
  clear hm
  go_enter Tryz.func129, Tryz.ntmps129
  go_wp2_with fail
  go_loopw [8] (fun v8 wr => ∃ (k : Nat) (r : List TokD), v8 = .int .i64 k ∧ k ≤ m ∧ wantsP (l.drop k) r = Q ∧ Turn (fun j => j = bp) w wr ∧ TkAt wr bp B r d) (fun v8 _ => m - (intOf v8).toNat)
  case atStart => exact ⟨0, ts, rfl, by omega, HQ.out, Turn.refl _ _, H0.out⟩
  case round =>
    obtain ⟨k, r, rfl, hk, hinv, htr, hR⟩ := hrel
    have HT := hid htr
    by_cases hlt : k < m
    · have hlt' : k < l.length := by rw [HM.out]; exact hlt
      obtain ⟨b, o, rfl, hb, hcell⟩ := HX.out (by omega)
      obtain ⟨s, hs⟩ : ∃ s, l[k]? = some s := ⟨_, List.getElem?_eq_getElem hlt'⟩
      have d00 := hcell k s hs
      have d0 := tcell d00 htr (H0.out.text d00)
      obtain ⟨hj1, hj2⟩ := List.getElem?_eq_some_iff.1 hs
      have hd : l.drop k = s :: l.drop (k + 1) := by rw [← hj2]; exact List.drop_eq_getElem_cons hlt'
      rw [hd] at hinv
      have HI : Hid (thenP (wantP s) (fun _ => wantsP (l.drop (k + 1))) r = Q) := hid hinv
      have HH := hid (has_any wr bp B r d hR s)
      have HF := hid (fun (w1 : World) (r1 : List TokD) (h1 : TkAt w1 bp B r1 d) => fails_any w1 bp B r1 d 7 h1)
      clear hs hj1 hj2 hd hinv htr d00 hR hlt' hcell
      rcases hq : hasP s r with g | ⟨o1, r1⟩
      · exfalso
        unfold hasP at hq
        split at hq <;> cases hq
      cases o1
      · have HQ1 : Hid (wantP s r = failP 7 r1) := hid (by unfold wantP; rw [thenP_good hq]; rfl)
        go_wp2_with fail
        refine HH.out.mono ?_
        rintro e w2 h2
        obtain ⟨v, rfl, t2, rfl, hR⟩ := h2.good_ hq
        have HT2 := hid (HT.out.trans t2 (fun _ _ h => h))
        have HR := hid hR
        clear h2 t2 hR hq
        go_wp2_with fail
        refine (HF.out _ _ HR.out).mono ?_
        rintro e w3 ⟨rfl, hb3⟩
        have HT3 := hid (BadP.below HT2.out HR.out.bp hb3)
        clear hb3
        go_wp2_with fail
        exact ⟨rfl, ReadsP.fail (HI.out.symm.trans (thenP_bad (HQ1.out.trans rfl))) HT3.out⟩
      · have HQ1 : Hid (wantP s r = .good () r1) := hid (by unfold wantP; rw [thenP_good hq]; rfl)
        go_wp2_with fail
        refine HH.out.mono ?_
        rintro e w2 h2
        obtain ⟨v, rfl, t2, rfl, hR⟩ := h2.good_ hq
        have HT2 := hid (HT.out.trans t2 (fun _ _ h => h))
        have HR := hid hR
        clear h2 t2 hR hq
        go_wp2_with fail
        go_roundw
        case rel => exact ⟨k + 1, r1, rfl, by omega, (thenP_good HQ1.out).symm.trans HI.out, HT2.out, HR.out⟩
        case measure => simp [intOf]; omega
    · obtain rfl : k = m := by omega
      rw [List.drop_of_length_le (by rw [HM.out]; exact Nat.le_refl _)] at hinv
      have HI := hid hinv
      have HR := hid hR
      clear hinv htr hR
      go_wp2_with fail
      go_end0
      exact ReadsP.done HI.out.symm HT.out trivial HR.out
set_option maxRecDepth 100000 in
theorem kind_any (w : World) (bp B : Nat) (ts : List TokD) (d : Int) (h : TkAt w bp B ts d) (k : Int) :
    Calls Tryz.prog 74 #[.pointer (some ⟨bp, 0, none⟩), .int .i64 k] w (ReadsP PTxt bp B d w (kindP k ts)) := by
  have HN := hid (nxt_any w bp B ts d h)
  have HF := hid (fun (w1 : World) (h1 : TkAt w1 bp B ts d) => fails_any w1 bp B ts d 7 h1)
  have H0 := hid h
  have hlt := h.lt
  have hwf := h.wf
  clear h
  by_cases hk : (nextP ts).kind = k
  · by_cases h0 : k = 0
    · subst h0
      have HQ : Hid (kindP 0 ts = .good (nextP ts).text ts) := hid (by unfold kindP; rw [if_pos hk]; rfl)
      clear hwf
      generalize nextP ts = t at *
      obtain ⟨tk_, tx, tl, tc⟩ := t
      simp only at hk
      subst hk
      unfold tokG at HN
      go_enter Tryz.func74, Tryz.ntmps74
      go_wp2_with fail
      refine HN.out.mono ?_
      rintro e w1 ⟨rfl, hb⟩
      have HB := hid hb
      have HR := hid (H0.out.below hb)
      clear hb
      go_wp2_with fail
      go_ret
      exact ReadsP.done HQ.out (Turn.of_below (HB.out.alloc HB.out.size _)) rfl (HR.out.below ((Below.refl _ _).alloc (Nat.le_refl _) _))
    · obtain ⟨t, r, rfl⟩ : ∃ t r, ts = t :: r := by
        rcases hwf.cases with ⟨e, rfl, _⟩ | ⟨t, r, rfl, _⟩
        · exact ⟨e, [], rfl⟩
        · exact ⟨t, r, rfl⟩
      have HQ : Hid (kindP k (t :: r) = .good t.text r) := hid (by unfold kindP; rw [if_pos hk, if_neg h0]; rfl)
      have HWF := hid hwf
      clear hwf
      rw [show nextP (t :: r) = t from rfl] at *
      obtain ⟨tk_, tx, tl, tc⟩ := t
      simp only at hk
      subst hk
      unfold tokG at HN
      go_enter Tryz.func74, Tryz.ntmps74
      go_wp2_with fail
      refine HN.out.mono ?_
      rintro e w1 ⟨rfl, hb⟩
      have HB := hid hb
      have hR := H0.out.below hb
      have HLAID := hid hR.laid
      have hlt1 := hR.lt
      obtain ⟨b, o, c2, t', r', he, hc2, hcm2, hok, hB2, hbB, hbk, hsl, d0, d1, z0, c0, c1, c2', c3⟩ := hR.open_
      injection he with he1 he2
      subst he1 he2
      obtain ⟨A', hAb, hA', hrun⟩ := toks_from hsl
      have HTB := hid ((hR.tok hbk).behind (n' := r.length) (c' := c2 - 1) hAb)
      clear hAb
      have HA := hid hA'
      have HBK := hid hbk
      have HOK := hid hok
      have hbs : b < w1.heap.size := by omega
      clear hb hR hsl hbk hok hA' c0 c1 c2' c3 d1
      go_wp2_with fail
      go_ret
      have t2 := turn_set w1 bp 0 (.slice A' r.length (c2 - 1))
      have hb2 := heap_setCell_same w1 bp 0 _ _ (.slice A' r.length (c2 - 1)) HBK.out
      generalize hw2 : w1.setCell _ _ = w2 at *
      have hlt2 := block_lt hb2
      have hbl : Below w2.heap.size w2 (w2.alloc (.cells #[.int .i64 tk_, .string ⟨tx.toArray⟩, .int .i64 (tl : Nat), .int .i64 (tc : Nat)] 70)) := (Below.refl _ _).alloc (Nat.le_refl _) _
      have t3 := t2.trans (Turn.of_below (F := fun j => j = bp) hbl) (fun _ _ h => h)
      refine ReadsP.done HQ.out ((Turn.of_below (F := fun k => k = bp) HB.out).trans t3 (fun _ _ h => h)) rfl ⟨hB2, HOK.out.tail, ((Sf.kind _).good HWF.out HQ.out).1, _, (hbl.block _ hlt2).trans hb2, ?_⟩
      have hbw := t3.below (B := B) (by omega) (fun k hk e => by omega)
      exact ⟨Sl.below HA.out hbw, HLAID.out.below hbw, HTB.out.below hbw⟩
  · have HQ : Hid (kindP k ts = .bad ((nextP ts).line, (nextP ts).col, 7)) := hid (by unfold kindP; rw [if_neg hk])
    clear hwf
    generalize nextP ts = t at *
    obtain ⟨tk_, tx, tl, tc⟩ := t
    simp only at hk
    unfold tokG at HN
    go_enter Tryz.func74, Tryz.ntmps74
    go_wp2_with fail
    refine HN.out.mono ?_
    rintro e w1 ⟨rfl, hb⟩
    have HB := hid hb
    have HR := hid (H0.out.below hb)
    clear hb
    go_wp2_with fail
    refine (HF.out _ (HR.out.below ((Below.refl _ _).alloc (Nat.le_refl _) _))).mono ?_
    rintro e w3 ⟨rfl, hb3⟩
    have HT3 := hid (BadP.below (Turn.of_below (F := fun j => j = bp) (HB.out.alloc HB.out.size _)) (HR.out.below ((Below.refl _ _).alloc (Nat.le_refl _) _)).bp hb3)
    clear hb3
    go_wp2_with fail
    exact ⟨rfl, ReadsP.fail HQ.out HT3.out⟩
theorem pname_any (w : World) (bp B : Nat) (ts : List TokD) (d : Int) (h : TkAt w bp B ts d) :
    Calls Tryz.prog 92 #[.pointer (some ⟨bp, 0, none⟩)] w (ReadsP PTxt bp B d w (nameP ts)) := by
  have HK := hid (kind_any w bp B ts d h 1)
  clear h
  obtain ⟨Q, hQ⟩ : ∃ Q, nameP ts = Q := ⟨_, rfl⟩
  rw [show kindP 1 ts = Q from hQ] at HK
  rw [hQ]
  clear hQ
  go_enter Tryz.func92, Tryz.ntmps92
  go_wp2_with fail
  refine HK.out.mono ?_
  rintro e w2 h2
  rcases Q with g | ⟨x, r⟩
  · obtain ⟨rfl, t2⟩ := h2.bad_ rfl
    have HT := hid t2
    clear t2 h2
    go_wp2_with fail
    exact ⟨rfl, ReadsP.fail rfl HT.out⟩
  · obtain ⟨v, rfl, t2, rfl, hR⟩ := h2.good_ rfl
    have HT := hid t2
    have HR := hid hR
    clear t2 h2 hR
    go_wp2_with fail
    go_ret
    exact ReadsP.done rfl HT.out rfl HR.out
end Go.Proofs.YtmbppnbekkbibaaGreatDoor
end
section
/- How deep the parser is: enter, and what it defers. -/
set_option linter.unusedVariables false
namespace Go.Proofs.YtmbppnbekkbibaaGreatDoor
open Go.RowKit

theorem TkAt.deep {w w' : World} {bp B : Nat} {ts : List TokD} {d e : Int} (h : TkAt w bp B ts d) (hw : w' = w.setCell ⟨bp, 1, none⟩ (.int .i64 e)) : TkAt w' bp B ts e := by
  subst hw
  have hlt := h.lt
  obtain ⟨h1, h2, h5, v, h3, h4, h6, h7⟩ := h
  have hb := (turn_set w bp 1 (.int .i64 e)).below (B := B) (by omega) (fun k hk e => by omega)
  exact ⟨h1, h2, h5, v, heap_setCell_same _ bp 1 _ _ _ h3, Sl.below h4 hb, h6.below hb, h7.below hb⟩
set_option maxRecDepth 100000 in
theorem enter_any (w : World) (bp B : Nat) (ts : List TokD) (d : Int) (h : TkAt w bp B ts d) (h0 : 0 ≤ d) (h1 : d < 100) :
    Calls Tryz.prog 88 #[.pointer (some ⟨bp, 0, none⟩)] w fun e w' => e = .returned (.func (.func 137) #[] #[.pointer (some ⟨w.heap.size, 0, none⟩)]) ∧ Turn (fun k => k = bp) w w' ∧ w'.cell? ⟨w.heap.size, 0, none⟩ = some (.pointer (some ⟨bp, 0, none⟩)) ∧ TkAt w' bp B ts (d + 1) := by
  have H0 := hid h
  have hlt := h.lt
  obtain ⟨b, o, c, t, r, rfl, hc, hcm, hl, hB, hb, hbk, hs, d0, d1, z0, c0, c1, c2, c3⟩ := h.open_
  have hne : ¬ d = 100 := by omega
  have hmf : ∀ (fn : Fn) (first cap : Array Value) (w : World), (Instr.makeFunc fn first cap).run Tryz.prog w = .ok (.func fn first cap) w := fun _ _ _ _ => rfl
  clear h hs hbk d0 c0 c1 c2 c3
  go_enter Tryz.func88, Tryz.ntmps88
  go_wp2_with fail
  go_ret
  have t1 := turn_set w bp 1 (.int .i64 (d + 1))
  have hR := H0.out.deep (e := d + 1) (w' := w.setCell ⟨bp, 1, none⟩ (.int .i64 (d + 1))) rfl
  have hs : (w.setCell ⟨bp, 1, none⟩ (.int .i64 (d + 1))).heap.size = w.heap.size := by simp
  refine ⟨rfl, t1.trans (Turn.alloc _ _ _) (fun _ _ h => h), ?_, hR.below ((Below.refl _ _).alloc (Nat.le_refl _) _)⟩
  have hn := heap_alloc_new (w.setCell ⟨bp, 1, none⟩ (.int .i64 (d + 1))) (.cells #[.pointer (some ⟨bp, 0, none⟩)] 94)
  rw [hs] at hn
  exact (cell_of_row _ _ _ _ _ _ hn).trans rfl
set_option maxRecDepth 100000 in
theorem enter_deep (w : World) (bp B : Nat) (ts : List TokD) (h : TkAt w bp B ts 100) :
    Calls Tryz.prog 88 #[.pointer (some ⟨bp, 0, none⟩)] w fun e w' => e = BrkD ((nextP ts).line, (nextP ts).col, 6) ∧ BadP bp w w' := by
  have H0 := hid h
  have HF := hid (fun (w1 : World) (h1 : TkAt w1 bp B ts 100) => fails_any w1 bp B ts 100 6 h1)
  have hlt := h.lt
  obtain ⟨b, o, c, t, r, he, hc, hcm, hl, hB, hb, hbk, hs, d0, d1, z0, c0, c1, c2, c3⟩ := h.open_
  clear h hs hbk d0 c0 c1 c2 c3 he
  go_enter Tryz.func88, Tryz.ntmps88
  go_wp2_with fail
  refine (HF.out _ (H0.out.below ((Below.refl _ _).alloc (Nat.le_refl _) _))).mono ?_
  rintro e w3 ⟨rfl, hb3⟩
  have HT3 := hid (BadP.below (Turn.of_below (F := fun j => j = bp) ((Below.refl _ _).alloc (Nat.le_refl _) _)) (H0.out.below ((Below.refl _ _).alloc (Nat.le_refl _) _)).bp hb3)
  clear hb3
  go_wp2_with fail
  exact ⟨rfl, rfl, HT3.out⟩
set_option maxRecDepth 100000 in
theorem leave_any (w : World) (bp x : Nat) (v : Value) (d : Int) (u : FrameMode) (h : w.heap[bp]? = some (.cells #[v, .int .i64 d] 140 (0, 0))) (hx : w.cell? ⟨x, 0, none⟩ = some (.pointer (some ⟨bp, 0, none⟩))) :
    CallsD Tryz.prog 137 #[.pointer (some ⟨x, 0, none⟩)] u w fun e u' w' => u' = u ∧ (e = .returned (.tuple #[]) ∧ w' = w.setCell ⟨bp, 1, none⟩ (.int .i64 (wrap64 (d - 1)))) := by
  have d1 : w.cell? ⟨bp, 1, none⟩ = some (.int .i64 d) := (cell_of_row _ _ _ _ _ _ h).trans rfl
  have z0 : ∀ i, w.frozen? ⟨bp, i, none⟩ = false := fun i => frozen_of_row _ _ _ _ _ h
  clear h
  go_enter_d Tryz.func137, Tryz.ntmps137
  go_wp2_with fail
  go_end0
  exact ⟨rfl, rfl⟩
end Go.Proofs.YtmbppnbekkbibaaGreatDoor
end
section
/- The contract of several: things with commas between, each laid by a function that is handed in. -/
set_option linter.unusedVariables false
namespace Go.Proofs.YtmbppnbekkbibaaGreatDoor
open Go.RowKit

def leftOf (w : World) (bp : Nat) : Nat := match w.cell? ⟨bp, 0, none⟩ with | some (.slice _ n _) => n | _ => 0
theorem TkAt.left {w : World} {bp B : Nat} {ts : List TokD} {d : Int} (h : TkAt w bp B ts d) : leftOf w bp = ts.length := by
  obtain ⟨b, o, c, t, r, rfl, hc, hcm, hl, hB, hb, hbk, hs, d0, d1, z0, c0, c1, c2, c3⟩ := h.open_
  unfold leftOf; rw [d0]; rfl
/-- The end of a call that adds to a list what it reads. -/
def AddsP {α : Type} (Inv : World → List α → Prop) (G : Nat → Prop) (bp B : Nat) (d : Int) (w : World) (q : Pr (List α)) (e : Ending) (w' : World) : Prop := match q with
  | .good l r => e = .returned (.tuple #[]) ∧ Turn G w w' ∧ Inv w' l ∧ TkAt w' bp B r d
  | .bad g => e = BrkD g ∧ Turn G w w' ∧ BpAt w' bp
section
variable {α : Type} {Inv : World → List α → Prop} {G : Nat → Prop} {bp B : Nat} {d : Int} {w w' : World} {q : Pr (List α)} {e : Ending}
theorem AddsP.bad_ {g : DgD} (h : AddsP Inv G bp B d w q e w') (hq : q = .bad g) : e = BrkD g ∧ Turn G w w' ∧ BpAt w' bp := by
  subst hq; exact h
theorem AddsP.good_ {x : List α} {r : List TokD} (h : AddsP Inv G bp B d w q e w') (hq : q = .good x r) : e = .returned (.tuple #[]) ∧ Turn G w w' ∧ Inv w' x ∧ TkAt w' bp B r d := by
  subst hq; exact h
theorem AddsP.fail {g : DgD} (hq : q = .bad g) (t : Turn G w w') (hb : BpAt w' bp) : AddsP Inv G bp B d w q (BrkD g) w' := by
  subst hq; exact ⟨rfl, t, hb⟩
theorem AddsP.done {x : List α} {r : List TokD} (hq : q = .good x r) (t : Turn G w w') (hI : Inv w' x) (hR : TkAt w' bp B r d) : AddsP Inv G bp B d w q (.returned (.tuple #[])) w' := by
  subst hq; exact ⟨rfl, t, hI, hR⟩
end
/-- One thing more. -/
def moreP {α : Type} (one : Ps α) (l : List α) : Ps (List α) := thenP one fun x => retP (l ++ [x])
theorem moreP_bad {α : Type} {one : Ps α} {l : List α} {ts : List TokD} {g : DgD} (h : one ts = .bad g) : moreP one l ts = .bad g := thenP_bad h
theorem moreP_good {α : Type} {one : Ps α} {l : List α} {ts r : List TokD} {x : α} (h : one ts = .good x r) : moreP one l ts = .good (l ++ [x]) r := thenP_good h
theorem hasP_bad {s : Bt} {ts : List TokD} {g : DgD} (h : hasP s ts = .bad g) : False := by
  unfold hasP at h
  split at h <;> cases h
theorem hasP_less {s : Bt} {ts r : List TokD} (h : hasP s ts = .good true r) (hw : 1 ≤ ts.length) : r.length < ts.length := by
  unfold hasP at h
  split at h
  · injection h with _ h
    subst h
    rw [List.length_drop]; omega
  · injection h with h
    cases h
set_option maxRecDepth 100000 in
set_option maxHeartbeats 1000000 in
theorem several_any {α : Type} (one : Ps α) (hone : Sf one) (K : Nat) (caps : Array Value) (Inv : World → List α → Prop) (G : Nat → Prop) (d : Int) (w : World) (bp B : Nat) (ts : List TokD) (hG : G bp)
    (hInv : ∀ (w1 w2 : World) (l : List α), Turn (fun k => k = bp) w1 w2 → Inv w1 l → Inv w2 l) (hnew : ∀ g, w.heap.size ≤ g → G g)
    (HC : ∀ (w1 : World) (r : List TokD) (l : List α), l.length ≤ 8193 → w.heap.size ≤ w1.heap.size → Inv w1 l → TkAt w1 bp B r d → Calls Tryz.prog K caps w1 (AddsP Inv G bp B d w1 (moreP one l r)))
    (hent : ∀ w : World, (callFunc K caps).run Tryz.prog w = .ok (.enter K caps) w) (h : TkAt w bp B ts d) (hI : Inv w []) :
    Calls Tryz.prog 130 #[.pointer (some ⟨bp, 0, none⟩), .func (.func K) #[] caps] w (AddsP Inv G bp B d w (sepP one ts)) := by
  have HC0 := hid (HC w ts [] (by simp) (Nat.le_refl _) hI h)
  have hn := h.2.1.1
  have HN := hid hn
  have HCC := hid HC
  have HINV := hid hInv
  obtain ⟨Q, hQ⟩ : ∃ Q, sepP one ts = Q := ⟨_, rfl⟩
  rw [hQ]
  have HQ := hid hQ
  have HW0 := hid h.wf
  clear HC hI hQ hInv h hn
  go_enter Tryz.func130, Tryz.ntmps130
  go_wp2_with fail
  refine HC0.out.mono ?_
  rintro e w1 h1
  rcases hq : one ts with g | ⟨x, r1⟩
  · obtain ⟨rfl, t1, b1⟩ := h1.bad_ (moreP_bad hq)
    have HT := hid t1
    have HB := hid b1
    have HQ1 := hid (HQ.out.symm.trans (show sepP one ts = .bad g from thenP_bad hq))
    clear h1 t1 b1 hq
    go_wp2_with fail
    exact ⟨rfl, AddsP.fail HQ1.out HT.out HB.out⟩
  · obtain ⟨rfl, t1, i1, k1⟩ := h1.good_ (moreP_good hq)
    have HT1 := hid t1
    have HI1 := hid i1
    have HK1 := hid k1
    have HS1 := hid ((hone.good HW0.out hq).2.length_le)
    have HQ1 := hid ((show sepP one ts = sepF one r1.length [x] r1 from thenP_good hq).symm.trans HQ.out)
    clear h1 t1 i1 k1 hq
    go_wp2_with fail
    go_loopw [6] (fun _ wr => ∃ (f : Nat) (l : List α) (r : List TokD), sepF one f l r = Q ∧ r.length ≤ f ∧ l.length + r.length ≤ ts.length + 1 ∧ Turn G w wr ∧ Inv wr l ∧ TkAt wr bp B r d) (fun _ wr => leftOf wr bp)
    case atStart => exact ⟨_, _, r1, HQ1.out, Nat.le_refl _, by have := HS1.out; simp only [List.length_singleton]; omega, HT1.out, HI1.out, HK1.out⟩
    case round =>
      obtain ⟨f, l, r, hs, hf, hlr, ht, hi, hk⟩ := hrel
      have hwf := hk.wf
      have hpos := hwf.pos
      obtain ⟨f, rfl⟩ : ∃ f', f = f' + 1 := ⟨f - 1, by omega⟩
      have HS : Hid (thenP (hasP [44]) (fun b => if b then thenP one fun a => sepF one f (l ++ [a]) else retP l) r = Q) := hid hs
      have HLEN := hid hk.left
      have HF := hid hf
      have HT := hid ht
      have HI := hid hi
      have HWF := hid hwf
      have HH := hid (has_any wr bp B r d hk [44])
      have HP := hid hpos
      have HLR := hid hlr
      clear hs hf ht hi hk hwf hpos hlr
      rcases hq : hasP [44] r with g | ⟨b, r2⟩
      · exact (hasP_bad hq).elim
      cases b
      · have HQ2 : Hid (Pr.good l r2 = Q) := hid ((thenP_good hq).symm.trans HS.out)
        go_wp2_with fail
        refine HH.out.mono ?_
        rintro e w2 h2
        obtain ⟨v, rfl, t2, rfl, k2⟩ := h2.good_ hq
        have HT2 := hid (HT.out.trans t2 (fun j _ hj => by subst hj; exact hG))
        have HI2 := hid (HINV.out _ _ _ t2 HI.out)
        have HK2 := hid k2
        clear h2 t2 k2 hq
        go_wp2_with fail
        go_end0
        exact AddsP.done HQ2.out.symm HT2.out HI2.out HK2.out
      · have HQ2 : Hid (thenP one (fun a => sepF one f (l ++ [a])) r2 = Q) := hid ((thenP_good hq).symm.trans HS.out)
        have HL2 := hid (hasP_less hq HP.out)
        go_wp2_with fail
        refine HH.out.mono ?_
        rintro e w2 h2
        obtain ⟨v, rfl, t2, rfl, k2⟩ := h2.good_ hq
        have HT2 := hid (HT.out.trans t2 (fun j _ hj => by subst hj; exact hG))
        have HC2 := hid (HCC.out w2 r2 l (by have := HLR.out; have := HL2.out; have := HN.out; omega) (HT2.out.size) (HINV.out _ _ _ t2 HI.out) k2)
        have HWF2 := hid k2.wf
        clear h2 t2 k2 hq
        go_wp2_with fail
        refine HC2.out.mono ?_
        rintro e w3 h3
        rcases hq3 : one r2 with g | ⟨y, r3⟩
        · obtain ⟨rfl, t3, b3⟩ := h3.bad_ (moreP_bad hq3)
          have HT3 := hid (HT2.out.trans t3 (fun _ _ h => h))
          have HB3 := hid b3
          have HQ3 := hid (HQ2.out.symm.trans (thenP_bad hq3))
          clear h3 t3 b3 hq3
          go_wp2_with fail
          exact ⟨rfl, AddsP.fail HQ3.out HT3.out HB3.out⟩
        · obtain ⟨rfl, t3, i3, k3⟩ := h3.good_ (moreP_good hq3)
          have HT3 := hid (HT2.out.trans t3 (fun _ _ h => h))
          have HI3 := hid i3
          have HK3 := hid k3
          have HQ3 : Hid (sepF one f (l ++ [y]) r3 = Q) := hid ((thenP_good hq3).symm.trans HQ2.out)
          have HSUF := hid ((hone.good HWF2.out hq3).2.length_le)
          clear h3 t3 i3 k3 hq3
          go_wp2_with fail
          go_roundw
          case rel => exact ⟨f, _, r3, HQ3.out, by have := HSUF.out; have := HL2.out; have := HF.out; omega, by have := HSUF.out; have := HL2.out; have := HLR.out; simp only [List.length_append, List.length_singleton]; omega, HT3.out, HI3.out, HK3.out⟩
          case measure => rw [HK3.out.left, HLEN.out]; have := HSUF.out; have := HL2.out; omega
end Go.Proofs.YtmbppnbekkbibaaGreatDoor
end
section
/- Worlds with new blocks; a struct's cells; literals of texts. -/
set_option linter.unusedVariables false
namespace Go.Proofs.YtmbppnbekkbibaaGreatDoor
open Go.RowKit

theorem then2_good {α β γ : Type} {p : Ps α} {f : α → Ps β} {g : β → Ps γ} {ts r : List TokD} {a : α} (h : p ts = .good a r) : thenP (thenP p f) g ts = thenP (f a) g r := by
  unfold thenP; rw [h]
theorem then2_bad {α β γ : Type} {p : Ps α} {f : α → Ps β} {g : β → Ps γ} {ts : List TokD} {d : DgD} (h : p ts = .bad d) : thenP (thenP p f) g ts = .bad d := thenP_bad (thenP_bad h)
theorem new1 (w : World) (o1 : Obj) : Below w.heap.size w (w.alloc o1) := (Below.refl _ _).alloc (Nat.le_refl _) _
theorem new2 (w : World) (o1 o2 : Obj) : Below w.heap.size w ((w.alloc o1).alloc o2) := (new1 w o1).alloc (by simp) _
theorem new3 (w : World) (o1 o2 o3 : Obj) : Below w.heap.size w (((w.alloc o1).alloc o2).alloc o3) := (new2 w o1 o2).alloc (by simp; omega) _
theorem at1 (w : World) (o : Obj) : (w.alloc o).heap[w.heap.size]? = some o := heap_alloc_new w o
theorem keep_alloc {w : World} {b : Nat} {o o' : Obj} (h : w.heap[b]? = some o) : (w.alloc o').heap[b]? = some o := block_turn h (Turn.alloc (fun _ => False) _ _) id
section
variable {G : Nat → Prop} {w w2 : World} {o1 o2 o3 o4 : Obj}
theorem after1 (t : Turn G (w.alloc o1) w2) : Turn G w w2 ∧ w.heap.size + 1 ≤ w2.heap.size ∧ (¬ G w.heap.size → w2.heap[w.heap.size]? = some o1) := by
  have hs := t.size
  simp at hs
  exact ⟨(Turn.alloc G _ _).trans t (fun _ _ h => h), hs, fun h => block_turn (at1 w o1) t h⟩
theorem after2 (t : Turn G ((w.alloc o1).alloc o2) w2) : Turn G w w2 ∧ w.heap.size + 2 ≤ w2.heap.size ∧ (¬ G w.heap.size → w2.heap[w.heap.size]? = some o1) ∧ (¬ G (w.heap.size + 1) → w2.heap[w.heap.size + 1]? = some o2) := by
  obtain ⟨t1, h1, h2⟩ := after1 t
  obtain ⟨t0, h3, h4⟩ := after1 t1
  simp at h1 h2
  exact ⟨t0, by omega, h4, h2⟩
theorem after3 (t : Turn G (((w.alloc o1).alloc o2).alloc o3) w2) : Turn G w w2 ∧ w.heap.size + 3 ≤ w2.heap.size ∧ (¬ G w.heap.size → w2.heap[w.heap.size]? = some o1) ∧ (¬ G (w.heap.size + 1) → w2.heap[w.heap.size + 1]? = some o2) ∧ (¬ G (w.heap.size + 1 + 1) → w2.heap[w.heap.size + 1 + 1]? = some o3) := by
  obtain ⟨t1, h1, h2⟩ := after1 t
  obtain ⟨t0, h3, h4, h5⟩ := after2 t1
  simp at h1 h2
  exact ⟨t0, by omega, h4, h5, h2⟩
end
theorem sl_new_turn {G : Nat → Prop} (w : World) {w2 : World} (cs : Array Value) (t : TypeId) (k n : Nat) (hs : cs.size = n * k) (hn : n ≤ maxLen) (t2 : Turn G (w.alloc (.cells cs t)) w2) (hG : ¬ G w.heap.size) :
    Sl w2 (w.heap.size + 1) k (.slice (some ⟨w.heap.size, 0, none⟩) n n) cs.toList := by
  refine ⟨_, n, n, rfl, by simpa using hs, Nat.le_refl _, hn, fun _ => ⟨w.heap.size, 0, rfl, by omega, fun j u hu => ?_⟩⟩
  rw [cell_of_row _ _ _ cs t (0, 0) ((after1 t2).2.2 hG)]
  simpa using hu
theorem slG_new (w : World) (cs : Array Value) (t : TypeId) (k n : Nat) (hs : cs.size = n * k) (hn : n ≤ maxLen) : SlG (w.alloc (.cells cs t)) (fun j => j = w.heap.size) k (.slice (some ⟨w.heap.size, 0, none⟩) n n) cs.toList := by
  refine ⟨_, n, n, rfl, by simpa using hs, Nat.le_refl _, hn, fun _ => ⟨w.heap.size, 0, rfl, rfl, by simp, fun j u hu => ?_⟩⟩
  rw [cell_of_row _ _ _ cs t (0, 0) (heap_alloc_new w _)]
  simpa using hu
theorem ss_lit (w : World) (a : Nat) (ha : a = w.heap.size) (l : List Bt) (cs : Array Value) (t : TypeId) (n : Nat) (hcs : cs.toList = svs l) (hn : n = l.length) (hm : n ≤ 100000) : Ss (w.alloc (.cells cs t)) (w.alloc (.cells cs t)).heap.size (.slice (some ⟨a, 0, none⟩) n n) l := by
  subst ha hn
  have h := sl_new w cs t 1 l.length (by
    have := congrArg List.length hcs
    simp [svs] at this
    omega) (by unfold maxLen; omega)
  rw [hcs] at h
  exact h.more (by simp)
theorem turn_bp {bp : Nat} {a b c : World} (h : Turn (fun k => k = bp) a b) (k : Turn (fun k => k = bp) b c) : Turn (fun k => k = bp) a c := h.trans k fun _ _ h => h
theorem cells4 {w : World} {b : Nat} {a0 a1 a2 a3 : Value} {t : TypeId} (h : w.heap[b]? = some (.cells #[a0, a1, a2, a3] t (0, 0))) : w.cell? ⟨b, 0, none⟩ = some a0 ∧ w.cell? ⟨b, 1, none⟩ = some a1 ∧ w.cell? ⟨b, 2, none⟩ = some a2 ∧ w.cell? ⟨b, 3, none⟩ = some a3 ∧ ∀ i, w.frozen? ⟨b, i, none⟩ = false :=
  ⟨(cell_of_row _ _ _ _ _ _ h).trans rfl, (cell_of_row _ _ _ _ _ _ h).trans rfl, (cell_of_row _ _ _ _ _ _ h).trans rfl, (cell_of_row _ _ _ _ _ _ h).trans rfl, fun i => frozen_of_row _ _ _ _ _ h⟩
theorem cells8 {w : World} {b : Nat} {a0 a1 a2 a3 a4 a5 a6 a7 : Value} {t : TypeId} (h : w.heap[b]? = some (.cells #[a0, a1, a2, a3, a4, a5, a6, a7] t (0, 0))) : w.cell? ⟨b, 0, none⟩ = some a0 ∧ w.cell? ⟨b, 1, none⟩ = some a1 ∧ w.cell? ⟨b, 2, none⟩ = some a2 ∧ w.cell? ⟨b, 3, none⟩ = some a3 ∧
    w.cell? ⟨b, 4, none⟩ = some a4 ∧ w.cell? ⟨b, 5, none⟩ = some a5 ∧ w.cell? ⟨b, 6, none⟩ = some a6 ∧ w.cell? ⟨b, 7, none⟩ = some a7 ∧ ∀ i, w.frozen? ⟨b, i, none⟩ = false :=
  ⟨(cell_of_row _ _ _ _ _ _ h).trans rfl, (cell_of_row _ _ _ _ _ _ h).trans rfl, (cell_of_row _ _ _ _ _ _ h).trans rfl, (cell_of_row _ _ _ _ _ _ h).trans rfl, (cell_of_row _ _ _ _ _ _ h).trans rfl, (cell_of_row _ _ _ _ _ _ h).trans rfl, (cell_of_row _ _ _ _ _ _ h).trans rfl, (cell_of_row _ _ _ _ _ _ h).trans rfl, fun i => frozen_of_row _ _ _ _ _ h⟩
theorem cells1 {w : World} {b : Nat} {a0 : Value} {t : TypeId} (h : w.heap[b]? = some (.cells #[a0] t (0, 0))) : w.cell? ⟨b, 0, none⟩ = some a0 := (cell_of_row _ _ _ _ _ _ h).trans rfl
abbrev put4 (w : World) (b : Nat) (v0 v1 v2 v3 : Value) : World := (((w.setCell ⟨b, 0, none⟩ v0).setCell ⟨b, 1, none⟩ v1).setCell ⟨b, 2, none⟩ v2).setCell ⟨b, 3, none⟩ v3
theorem put4_turn (w : World) (b : Nat) (v0 v1 v2 v3 : Value) : Turn (fun k => k = b) w (put4 w b v0 v1 v2 v3) :=
  (((turn_set w b 0 v0).trans (turn_set _ b 1 v1) (fun _ _ h => h)).trans (turn_set _ b 2 v2) (fun _ _ h => h)).trans (turn_set _ b 3 v3) (fun _ _ h => h)
theorem put4_block {w : World} {b : Nat} {a0 a1 a2 a3 : Value} {t : TypeId} (h : w.heap[b]? = some (.cells #[a0, a1, a2, a3] t (0, 0))) (v0 v1 v2 v3 : Value) : (put4 w b v0 v1 v2 v3).heap[b]? = some (.cells #[v0, v1, v2, v3] t (0, 0)) :=
  heap_setCell_same _ b 3 _ _ v3 (heap_setCell_same _ b 2 _ _ v2 (heap_setCell_same _ b 1 _ _ v1 (heap_setCell_same w b 0 _ _ v0 h)))
abbrev put8 (w : World) (b : Nat) (v0 v1 v2 v3 v4 v5 v6 v7 : Value) : World := (((((((w.setCell ⟨b, 0, none⟩ v0).setCell ⟨b, 1, none⟩ v1).setCell ⟨b, 2, none⟩ v2).setCell ⟨b, 3, none⟩ v3).setCell ⟨b, 4, none⟩ v4).setCell ⟨b, 5, none⟩ v5).setCell ⟨b, 6, none⟩ v6).setCell ⟨b, 7, none⟩ v7
theorem put8_turn (w : World) (b : Nat) (v0 v1 v2 v3 v4 v5 v6 v7 : Value) : Turn (fun k => k = b) w (put8 w b v0 v1 v2 v3 v4 v5 v6 v7) :=
  ((((put4_turn w b v0 v1 v2 v3).trans (turn_set _ b 4 v4) (fun _ _ h => h)).trans (turn_set _ b 5 v5) (fun _ _ h => h)).trans (turn_set _ b 6 v6) (fun _ _ h => h)).trans (turn_set _ b 7 v7) (fun _ _ h => h)
theorem put8_block {w : World} {b : Nat} {a0 a1 a2 a3 a4 a5 a6 a7 : Value} {t : TypeId} (h : w.heap[b]? = some (.cells #[a0, a1, a2, a3, a4, a5, a6, a7] t (0, 0))) (v0 v1 v2 v3 v4 v5 v6 v7 : Value) : (put8 w b v0 v1 v2 v3 v4 v5 v6 v7).heap[b]? = some (.cells #[v0, v1, v2, v3, v4, v5, v6, v7] t (0, 0)) := by
  have h0 : (w.setCell ⟨b, 0, none⟩ v0).heap[b]? = some (.cells #[v0, a1, a2, a3, a4, a5, a6, a7] t (0, 0)) := heap_setCell_same _ b 0 _ _ v0 h
  have h1 : ((w.setCell ⟨b, 0, none⟩ v0).setCell ⟨b, 1, none⟩ v1).heap[b]? = some (.cells #[v0, v1, a2, a3, a4, a5, a6, a7] t (0, 0)) := heap_setCell_same _ b 1 _ _ v1 h0
  have h2 : (((w.setCell ⟨b, 0, none⟩ v0).setCell ⟨b, 1, none⟩ v1).setCell ⟨b, 2, none⟩ v2).heap[b]? = some (.cells #[v0, v1, v2, a3, a4, a5, a6, a7] t (0, 0)) := heap_setCell_same _ b 2 _ _ v2 h1
  have h3 : ((((w.setCell ⟨b, 0, none⟩ v0).setCell ⟨b, 1, none⟩ v1).setCell ⟨b, 2, none⟩ v2).setCell ⟨b, 3, none⟩ v3).heap[b]? = some (.cells #[v0, v1, v2, v3, a4, a5, a6, a7] t (0, 0)) := heap_setCell_same _ b 3 _ _ v3 h2
  have h4 : (((((w.setCell ⟨b, 0, none⟩ v0).setCell ⟨b, 1, none⟩ v1).setCell ⟨b, 2, none⟩ v2).setCell ⟨b, 3, none⟩ v3).setCell ⟨b, 4, none⟩ v4).heap[b]? = some (.cells #[v0, v1, v2, v3, v4, a5, a6, a7] t (0, 0)) := heap_setCell_same _ b 4 _ _ v4 h3
  have h5 : ((((((w.setCell ⟨b, 0, none⟩ v0).setCell ⟨b, 1, none⟩ v1).setCell ⟨b, 2, none⟩ v2).setCell ⟨b, 3, none⟩ v3).setCell ⟨b, 4, none⟩ v4).setCell ⟨b, 5, none⟩ v5).heap[b]? = some (.cells #[v0, v1, v2, v3, v4, v5, a6, a7] t (0, 0)) := heap_setCell_same _ b 5 _ _ v5 h4
  have h6 : (((((((w.setCell ⟨b, 0, none⟩ v0).setCell ⟨b, 1, none⟩ v1).setCell ⟨b, 2, none⟩ v2).setCell ⟨b, 3, none⟩ v3).setCell ⟨b, 4, none⟩ v4).setCell ⟨b, 5, none⟩ v5).setCell ⟨b, 6, none⟩ v6).heap[b]? = some (.cells #[v0, v1, v2, v3, v4, v5, v6, a7] t (0, 0)) := heap_setCell_same _ b 6 _ _ v6 h5
  have h7 : ((((((((w.setCell ⟨b, 0, none⟩ v0).setCell ⟨b, 1, none⟩ v1).setCell ⟨b, 2, none⟩ v2).setCell ⟨b, 3, none⟩ v3).setCell ⟨b, 4, none⟩ v4).setCell ⟨b, 5, none⟩ v5).setCell ⟨b, 6, none⟩ v6).setCell ⟨b, 7, none⟩ v7).heap[b]? = some (.cells #[v0, v1, v2, v3, v4, v5, v6, v7] t (0, 0)) := heap_setCell_same _ b 7 _ _ v7 h6
  exact h7
/-- From a block on, up to another one. -/
abbrev Iv (a b : Nat) : Nat → Prop := fun j => a ≤ j ∧ j < b
theorem TyG.iv {w : World} {a : Nat} {z : List Value} {t : TyD} (h : TyG w (fun j => a ≤ j) z t) : TyG w (Iv a w.heap.size) z t := h.mono fun _ hg h => ⟨h, hg⟩
theorem NoG.iv {w : World} {a : Nat} {z : List Value} {t : NoD} (h : NoG w (fun j => a ≤ j) z t) : NoG w (Iv a w.heap.size) z t := h.mono fun _ hg h => ⟨h, hg⟩
theorem BadP.mk2 {bp : Nat} {a c : World} (t : Turn (fun k => k = bp) a c) (h : BpAt c bp) : BadP bp a c := ⟨t, h⟩
theorem BadP.more {bp : Nat} {a b c : World} {G : Nat → Prop} (t : Turn (fun k => k = bp) a b) (k : Turn G b c) (hG : ∀ i, i < a.heap.size → G i → i = bp) (h : BpAt c bp) : BadP bp a c := ⟨t.trans k hG, h⟩
theorem TyG.shape' {w : World} {F : Nat → Prop} {z : List Value} {t : TyD} (h : TyG w F z t) : ∃ k s A1 n1 c1 A2 n2 c2, z = [.int .i64 k, sv s, .slice A1 n1 c1, .slice A2 n2 c2] := by
  cases h with
  | mk h1 h2 h3 =>
    obtain ⟨A1, n1, c1, rfl, _⟩ := h1
    obtain ⟨A2, n2, c2, rfl, _⟩ := h2
    exact ⟨_, _, _, _, _, _, _, _, rfl⟩
theorem NoG.shape' {w : World} {F : Nat → Prop} {z : List Value} {t : NoD} (h : NoG w F z t) : ∃ k s a b c A1 n1 c1 A2 n2 c2 A3 n3 c3, z = [.int .i64 k, sv s, .int .i64 a, .int .i64 b, .int .i64 c, .slice A1 n1 c1, .slice A2 n2 c2, .slice A3 n3 c3] := by
  cases h with
  | mk h1 h2 h3 h4 h5 =>
    obtain ⟨A1, n1, c1, rfl, _⟩ := h1
    obtain ⟨A2, n2, c2, rfl, _⟩ := h3
    obtain ⟨A3, n3, c3, rfl, _⟩ := h4
    exact ⟨_, _, _, _, _, _, _, _, _, _, _, _, _, _, rfl⟩
theorem ty_plain (w : World) (F : Nat → Prop) (k : Int) (s : Bt) : TyG w F [.int .i64 k, sv s, .slice none 0 0, .slice none 0 0] (.mk k s [] []) := .mk (SlG.nil _ _ _) (SlG.nil _ _ _) .nil
/-- Cells, one behind the other, are set. -/
def putC (w : World) (g o : Nat) : List Value → World
  | [] => w
  | v :: l => putC (w.setCell ⟨g, o, none⟩ v) g (o + 1) l
def setC (xs : List Value) (o : Nat) : List Value → List Value
  | [] => xs
  | v :: l => setC (xs.set o v) (o + 1) l
theorem putC_turn (g : Nat) : ∀ (l : List Value) (w : World) (o : Nat), Turn (fun k => k = g) w (putC w g o l)
  | [], w, _ => Turn.refl _ _
  | v :: l, w, o => (turn_set w g o v).trans (putC_turn g l _ _) (fun _ _ h => h)
theorem putC_own {base g : Nat} {e : TypeId} {k : Nat} {v : Value} {n : Nat} (hg : v.ownBlock = some g) : ∀ (l : List Value) (w : World) (o : Nat) (xs : List Value), w.ownsRow base e k v n xs → (putC w g o l).ownsRow base e k v n (setC xs o l)
  | [], w, _, xs, h => h
  | u :: l, w, o, xs, h => putC_own hg l _ _ _ (own_set h hg)
theorem setC_end : ∀ (l olds ys : List Value) (o : Nat), ys.length = o → olds.length = l.length → setC (ys ++ olds) o l = ys ++ l
  | [], [], ys, _, _, _ => rfl
  | v :: l, a :: olds, ys, o, h, h2 => by
    show setC ((ys ++ a :: olds).set o v) (o + 1) l = _
    have e : (ys ++ a :: olds).set o v = (ys ++ [v]) ++ olds := by
      rw [List.set_append_right _ _ (by omega), h, Nat.sub_self]; simp
    rw [e, setC_end l olds (ys ++ [v]) (o + 1) (by simp [h]) (by simpa using h2)]
    simp
  | [], _ :: _, _, _, _, h2 => by cases h2
  | _ :: _, [], _, _, _, h2 => by cases h2
/-- Zeros that append laid are overwritten. -/
theorem own_end {w : World} {base g : Nat} {e : TypeId} {k : Nat} {v : Value} {n : Nat} {ys olds z : List Value} (h : w.ownsRow base e k v n (ys ++ olds)) (hg : v.ownBlock = some g) (hz : olds.length = z.length) {o : Nat} (ho : ys.length = o) : (putC w g o z).ownsRow base e k v n (ys ++ z) := by
  have := putC_own hg z w o _ h
  rwa [setC_end z olds ys o ho hz] at this
theorem take_lit (w0 : World) (bp B : Nat) (ts : List TokD) (d : Int) (h : TkAt w0 bp B ts d) (l : List Bt) (cs : Array Value) (t : TypeId) (n a : Nat) (hcs : cs.toList = svs l := by rfl) (hn : n = l.length := by rfl) (ha : a = w0.heap.size := by simp) (hm : n ≤ 100000 := by decide) :
    Calls Tryz.prog 90 #[.pointer (some ⟨bp, 0, none⟩), .slice (some ⟨a, 0, none⟩) n n] (w0.alloc (.cells cs t)) (ReadsP PTake bp B d w0 (takeP l ts)) := by
  refine (take_any _ bp B ts d (h.below (new1 _ _)) _ l (ss_lit w0 a ha l cs t n hcs hn hm) (by omega)).mono ?_
  intro e w' h2
  rcases hq : takeP l ts with g | ⟨o, r⟩
  · exact (takeP_good hq).elim
  · rw [hq] at h2
    obtain ⟨v, rfl, t2, hP, hR⟩ := h2.good_ rfl
    exact ReadsP.done rfl (after1 t2).1 hP hR
theorem wants1 (s : Bt) (ts : List TokD) : wantsP [s] ts = wantP s ts := by
  show thenP (wantP s) (fun _ => retP ()) ts = _
  unfold thenP
  cases wantP s ts <;> rfl
theorem want_lit (w0 : World) (bp B : Nat) (ts : List TokD) (d : Int) (h : TkAt w0 bp B ts d) (s : Bt) (t : TypeId) (a : Nat) (ha : a = w0.heap.size := by simp) :
    Calls Tryz.prog 129 #[.pointer (some ⟨bp, 0, none⟩), .slice (some ⟨a, 0, none⟩) 1 1] (w0.alloc (.cells #[sv s] t)) (ReadsP PUnit bp B d w0 (wantP s ts)) := by
  refine (want_any _ bp B ts d (h.below (new1 _ _)) _ [s] (ss_lit w0 a ha [s] #[sv s] t 1 rfl rfl (by decide)) (by simp)).mono ?_
  intro e w' h2
  rw [wants1] at h2
  rcases hq : wantP s ts with g | ⟨o, r⟩
  · rw [hq] at h2
    obtain ⟨rfl, b2, b3⟩ := h2.bad_ rfl
    exact ReadsP.fail rfl ⟨(after1 b2).1, b3⟩
  · rw [hq] at h2
    obtain ⟨v, rfl, t2, hP, hR⟩ := h2.good_ rfl
    exact ReadsP.done rfl (after1 t2).1 hP hR
theorem own_sh {w : World} {base : Nat} {e : TypeId} {k : Nat} {v : Value} {n : Nat} {xs : List Value} (h : w.ownsRow base e k v n xs) : ∃ A c, v = .slice A n c ∧ n ≤ c ∧ c ≤ maxLen := by
  rcases h.2 with ⟨rfl, rfl⟩ | ⟨g, cap, cur, rfl, _, _, h1, h2, _⟩
  · exact ⟨_, _, rfl, Nat.le_refl _, Nat.zero_le _⟩
  · exact ⟨_, _, rfl, h1, h2⟩
theorem ty0_one : ∀ u ∈ [Value.int .i64 0, .string ⟨#[]⟩, .slice none 0 0, .slice none 0 0], u.oneCell' = true := by
  intro u hu
  simp only [List.mem_cons, List.not_mem_nil, or_false] at hu
  rcases hu with rfl | rfl | rfl | rfl <;> rfl
theorem no0_one : ∀ u ∈ [Value.int .i64 0, .string ⟨#[]⟩, .int .i64 0, .int .i64 0, .int .i64 0, .slice none 0 0, .slice none 0 0, .slice none 0 0], u.oneCell' = true := by
  intro u hu
  simp only [List.mem_cons, List.not_mem_nil, or_false] at hu
  rcases hu with rfl | rfl | rfl | rfl | rfl | rfl | rfl | rfl <;> rfl
theorem pty_one (k : Int) (s : Bt) (A1 A2 : Option Addr) (n1 c1 n2 c2 : Nat) : ∀ u ∈ #[Value.int .i64 k, sv s, .slice A1 n1 c1, .slice A2 n2 c2].toList, u.oneCell' = true := by
  intro u hu
  simp only [List.mem_cons, List.not_mem_nil, or_false] at hu
  rcases hu with rfl | rfl | rfl | rfl <;> rfl
/-- The end of a reading that may turn more than the parser's block. -/
def ReadsX {α : Type} (P : World → Value → α → Prop) (G : Nat → Prop) (bp B : Nat) (d : Int) (w : World) (q : Pr α) (e : Ending) (w' : World) : Prop :=
  match q with
    | .good x r => ∃ v, e = .returned v ∧ Turn G w w' ∧ P w' v x ∧ TkAt w' bp B r d
    | .bad g => e = BrkD g ∧ Turn G w w' ∧ BpAt w' bp
section
variable {α : Type} {P : World → Value → α → Prop} {G : Nat → Prop} {bp B : Nat} {d : Int} {w w' : World} {q : Pr α} {e : Ending}
theorem ReadsX.bad_ {g : DgD} (h : ReadsX P G bp B d w q e w') (hq : q = .bad g) : e = BrkD g ∧ Turn G w w' ∧ BpAt w' bp := by
  subst hq; exact h
theorem ReadsX.good_ {x : α} {r : List TokD} (h : ReadsX P G bp B d w q e w') (hq : q = .good x r) : ∃ v, e = .returned v ∧ Turn G w w' ∧ P w' v x ∧ TkAt w' bp B r d := by
  subst hq; exact h
theorem ReadsX.fail {g : DgD} (hq : q = .bad g) (t : Turn G w w') (hb : BpAt w' bp) : ReadsX P G bp B d w q (BrkD g) w' := by
  subst hq; exact ⟨rfl, t, hb⟩
theorem ReadsX.done {x : α} {r : List TokD} {v : Value} (hq : q = .good x r) (t : Turn G w w') (hP : P w' v x) (hR : TkAt w' bp B r d) : ReadsX P G bp B d w q (.returned v) w' := by
  subst hq; exact ⟨v, rfl, t, hP, hR⟩
end
theorem el_ty : ElemIs Tryz.prog 46 63 (.agg #[.int .i64 0, .string ⟨#[]⟩, .slice none 0 0, .slice none 0 0]) 4 72 := ⟨Tryz.underlying46, by kernel_rfl, rfl, by omega⟩
theorem el_no : ElemIs Tryz.prog 47 49 (.agg #[.int .i64 0, .string ⟨#[]⟩, .int .i64 0, .int .i64 0, .int .i64 0, .slice none 0 0, .slice none 0 0, .slice none 0 0]) 8 120 := ⟨Tryz.underlying47, by kernel_rfl, rfl, by omega⟩
end Go.Proofs.YtmbppnbekkbibaaGreatDoor
end
section
/- Regions that draw their order, with a condition on the world that holds until one operation: what waits for it may break the condition. -/
set_option linter.unusedVariables false
namespace Go.Proofs.YtmbppnbekkbibaaGreatDoor
open Go.RowKit

section
variable {P : Program} {ops : Array Oper} {Q : Exit → Act → World → Prop} {md : Region.Mode} {S : World → Prop} {x : Nat}
/-- Whatever order is picked from here on, and S holds behind every operation that is carried out ahead of number x. -/
def AnyX (P : Program) (md : Region.Mode) (ops : Array Oper) (Q : Exit → Act → World → Prop) (S : World → Prop) (x : Nat) : Nat → Array Bool → Act → World → Prop
  | 0, listed, a, w => Region.ready md ops listed = [] ∧ Q .normal a w
  | fuel + 1, listed, a, w =>
    (Region.ready md ops listed = [] → Q .normal a w) ∧
    ∀ i ∈ Region.ready md ops listed, wpOp P ops Q i (fun a' w' => ((listed.setIfInBounds i true).getD x true = false → S w') ∧ AnyX P md ops Q S x fuel (listed.setIfInBounds i true) a' w') a w
theorem any_of_x : ∀ (fuel : Nat) (listed : Array Bool) (a : Act) (w : World), AnyX P md ops Q S x fuel listed a w → wpAny P md ops Q fuel listed a w
  | 0, _, _, _, h => h
  | fuel + 1, _, _, _, h => ⟨h.1, fun i hi => wpOp_mono (fun a' w' h' => any_of_x fuel _ a' w' h'.2) (h.2 i hi)⟩
/-- Number x waits for number i. -/
def waits (md : Region.Mode) (ops : Array Oper) (x i : Nat) : Bool := match ops[x]? with
  | none => false
  | some o => (x != i) && o.after.any fun e => Region.binds md e && e.on == i
theorem waits_spec {i : Nat} (h : waits md ops x i = true) : x ≠ i ∧ ∃ o, ops[x]? = some o ∧ ∃ e ∈ o.after, Region.binds md e = true ∧ e.on = i := by
  unfold waits at h
  split at h
  · cases h
  · rename_i o ho
    simp only [Bool.and_eq_true, bne_iff_ne, Array.any_eq_true', beq_iff_eq] at h
    obtain ⟨h1, e, he, h2, h3⟩ := h
    exact ⟨h1, o, ho, e, he, h2, h3⟩
theorem anyX_first {i : Nat} {oi : Oper} {v : Value} (hi : ops[i]? = some oi) (hsel : ∀ (j : Nat) (o : Oper) cs b, ops[j]? = some o → o.op ≠ .select cs b)
    (hQ : ∀ c a w, Q (.panic c) (a.put oi.dst v) w → Q (.panic c) a w) (hx : waits md ops x i = true) :
    ∀ (fuel : Nat) (listed : Array Bool) (a : Act) (w : World),
      (∀ j oj, ops[j]? = some oj → j ≠ i → listed.getD j true = false → (∀ e ∈ oj.after, Region.binds md e = true → e.on ≠ i) → oi.apart ops oj = true) →
      i ∈ Region.ready md ops listed → YieldsIf P ops S oi v a → S w → listed.getD x true = false →
      AnyX P md ops Q S x fuel (listed.setIfInBounds i true) (a.put oi.dst v) w → AnyX P md ops Q S x (fuel + 1) listed a w := by
  obtain ⟨hxi, ox, hox, ex, hex, hbx, hox2⟩ := waits_spec hx
  intro fuel
  induction fuel with
  | zero =>
    intro listed a w _ hr hy hS hl H
    refine ⟨fun h => (by rw [h] at hr; cases hr), fun j hj => ?_⟩
    by_cases hji : j = i
    · subst hji; exact hy.wpOp hi hS ⟨fun _ => hS, H⟩
    · have := ready_mono hj hji
      rw [H.1] at this
      cases this
  | succ fuel ih =>
    intro listed a w hfree hr hy hS hl H
    refine ⟨fun h => (by rw [h] at hr; cases hr), fun j hj => ?_⟩
    by_cases hji : j = i
    · subst hji; exact hy.wpOp hi hS ⟨fun _ => hS, H⟩
    · have h1 := H.2 j (ready_mono hj hji)
      obtain ⟨hjun, oj, hoj, hall⟩ := mem_ready.1 hj
      have hnot : ∀ e ∈ oj.after, Region.binds md e = true → e.on ≠ i := fun e he hb heq => by
        have h1 := hall e he hb
        have h0 := (mem_ready.1 hr).1
        rw [heq] at h1
        rcases Nat.lt_or_ge i listed.size with h' | h'
        · simp [h'] at h0 h1; rw [h0] at h1; cases h1
        · simp [Array.getElem?_eq_none h'] at h1
      have hjx : j ≠ x := fun e => by
        subst e
        rw [hox] at hoj
        injection hoj with hoj
        subst hoj
        exact hnot ex hex hbx hox2
      have hl2 : (listed.setIfInBounds j true).getD x true = false := by rw [getD_set_ne true hjx]; exact hl
      have hl3 : ((listed.setIfInBounds i true).setIfInBounds j true).getD x true = false := by rw [getD_set_ne true hjx, getD_set_ne true (Ne.symm hxi)]; exact hl
      have h2 := wpOp_putIf hoj (hfree j oj hoj hji hjun hnot) (fun cs b => hsel i oi cs b hi) (fun cs b => hsel j oj cs b hoj) hQ hy h1
      have hfree' : ∀ k ok, ops[k]? = some ok → k ≠ i → (listed.setIfInBounds j true).getD k true = false →
          (∀ e ∈ ok.after, Region.binds md e = true → e.on ≠ i) → oi.apart ops ok = true := fun k ok hk hki hun hno => by
        refine hfree k ok hk hki ?_ hno
        by_cases hjk : j = k
        · subst hjk; exact hjun
        · rw [getD_set_ne true hjk] at hun; exact hun
      refine wpOp_mono (fun a' w' h3 => ⟨fun _ => h3.2.1 hl3, ih (listed.setIfInBounds j true) a' w' hfree' (ready_mono hr (Ne.symm hji)) h3.1 (h3.2.1 hl3) hl2 ?_⟩) h2
      rw [Array.setIfInBounds_comm _ _ hji]
      exact h3.2.2
/-- What yields its value whatever the world is. -/
theorem anyX_pure {i : Nat} {oi : Oper} {v : Value} (hi : ops[i]? = some oi) (hsel : ∀ (j : Nat) (o : Oper) cs b, ops[j]? = some o → o.op ≠ .select cs b)
    (hQ : ∀ c a w, Q (.panic c) (a.put oi.dst v) w → Q (.panic c) a w) (hx : x ≠ i) :
    ∀ (fuel : Nat) (listed : Array Bool) (a : Act) (w : World),
      (∀ j oj, ops[j]? = some oj → j ≠ i → listed.getD j true = false → (∀ e ∈ oj.after, Region.binds md e = true → e.on ≠ i) → oi.apart ops oj = true) →
      i ∈ Region.ready md ops listed → YieldsIf P ops (fun _ => True) oi v a → (listed.getD x true = false → S w) →
      AnyX P md ops Q S x fuel (listed.setIfInBounds i true) (a.put oi.dst v) w → AnyX P md ops Q S x (fuel + 1) listed a w := by
  intro fuel
  induction fuel with
  | zero =>
    intro listed a w _ hr hy hS H
    refine ⟨fun h => (by rw [h] at hr; cases hr), fun j hj => ?_⟩
    by_cases hji : j = i
    · subst hji; exact hy.wpOp hi trivial ⟨fun h => hS (by rw [getD_set_ne true (Ne.symm hx)] at h; exact h), H⟩
    · have := ready_mono hj hji
      rw [H.1] at this
      cases this
  | succ fuel ih =>
    intro listed a w hfree hr hy hS H
    refine ⟨fun h => (by rw [h] at hr; cases hr), fun j hj => ?_⟩
    by_cases hji : j = i
    · subst hji; exact hy.wpOp hi trivial ⟨fun h => hS (by rw [getD_set_ne true (Ne.symm hx)] at h; exact h), H⟩
    · have h1 := H.2 j (ready_mono hj hji)
      obtain ⟨hjun, oj, hoj, hall⟩ := mem_ready.1 hj
      have hnot : ∀ e ∈ oj.after, Region.binds md e = true → e.on ≠ i := fun e he hb heq => by
        have h1 := hall e he hb
        have h0 := (mem_ready.1 hr).1
        rw [heq] at h1
        rcases Nat.lt_or_ge i listed.size with h' | h'
        · simp [h'] at h0 h1; rw [h0] at h1; cases h1
        · simp [Array.getElem?_eq_none h'] at h1
      have h2 := wpOp_putIf hoj (hfree j oj hoj hji hjun hnot) (fun cs b => hsel i oi cs b hi) (fun cs b => hsel j oj cs b hoj) hQ hy h1
      have hfree' : ∀ k ok, ops[k]? = some ok → k ≠ i → (listed.setIfInBounds j true).getD k true = false →
          (∀ e ∈ ok.after, Region.binds md e = true → e.on ≠ i) → oi.apart ops ok = true := fun k ok hk hki hun hno => by
        refine hfree k ok hk hki ?_ hno
        by_cases hjk : j = k
        · subst hjk; exact hjun
        · rw [getD_set_ne true hjk] at hun; exact hun
      have hsw : ∀ (w' : World), (((listed.setIfInBounds i true).setIfInBounds j true).getD x true = false → S w') → (listed.setIfInBounds j true).getD x true = false → S w' := fun w' h h0 => h (by
        rw [Array.setIfInBounds_comm _ _ (Ne.symm hji), getD_set_ne true (Ne.symm hx)]; exact h0)
      refine wpOp_mono (fun a' w' h3 => ⟨hsw w' h3.2.1, ih (listed.setIfInBounds j true) a' w' hfree' (ready_mono hr (Ne.symm hji)) h3.1 (hsw w' h3.2.1) ?_⟩) h2
      rw [Array.setIfInBounds_comm _ _ hji]
      exact h3.2.2
/-- Each of the operations rs comes up next. -/
def ReadyX (P : Program) (md : Region.Mode) (ops : Array Oper) (Q : Exit → Act → World → Prop) (S : World → Prop) (x : Nat) (fuel : Nat) (listed : Array Bool) (a : Act) (w : World) (rs : List Nat) : Prop :=
  ∀ i ∈ rs, wpOp P ops Q i (fun a' w' => ((listed.setIfInBounds i true).getD x true = false → S w') ∧ AnyX P md ops Q S x fuel (listed.setIfInBounds i true) a' w') a w
theorem ReadyX.nil {fuel : Nat} {listed : Array Bool} {a : Act} {w : World} : ReadyX P md ops Q S x fuel listed a w [] := fun _ h => by cases h
/-- Ahead of number x: S is shown behind it. -/
theorem ReadyX.cons {fuel : Nat} {listed : Array Bool} {a : Act} {w : World} {i : Nat} {o : Oper} {rs : List Nat} (ho : ops[i]? = some o)
    (h : ∀ K' : Act → World → Prop, Shut (∀ a w, S w → AnyX P md ops Q S x fuel (listed.setIfInBounds i true) a w → K' a w) → if Region.wanted o (yielded ops a.tmps) = true then Oper.wp P o a w K' Q else K' (a.put o.dst undef) w)
    (hs : ReadyX P md ops Q S x fuel listed a w rs) : ReadyX P md ops Q S x fuel listed a w (i :: rs) := fun j hj => by
  rcases List.mem_cons.1 hj with rfl | hj
  · exact wpOp_step ho (fun K' hK => h K' (fun a w hS hW => hK a w ⟨fun _ => hS, hW⟩))
  · exact hs j hj
/-- Number x, or what comes behind it. -/
theorem ReadyX.past {fuel : Nat} {listed : Array Bool} {a : Act} {w : World} {i : Nat} {o : Oper} {rs : List Nat} (ho : ops[i]? = some o) (hl : (listed.setIfInBounds i true).getD x true = true)
    (h : ∀ K' : Act → World → Prop, Shut (∀ a w, AnyX P md ops Q S x fuel (listed.setIfInBounds i true) a w → K' a w) → if Region.wanted o (yielded ops a.tmps) = true then Oper.wp P o a w K' Q else K' (a.put o.dst undef) w)
    (hs : ReadyX P md ops Q S x fuel listed a w rs) : ReadyX P md ops Q S x fuel listed a w (i :: rs) := fun j hj => by
  rcases List.mem_cons.1 hj with rfl | hj
  · exact wpOp_step ho (fun K' hK => h K' (fun a w hW => hK a w ⟨fun h0 => (by rw [hl] at h0; cases h0), hW⟩))
  · exact hs j hj
theorem anyX_ready {rs : List Nat} {fuel : Nat} {listed : Array Bool} {a : Act} {w : World} (hr : Region.ready md ops listed = rs) (hne : rs ≠ [])
    (h : ReadyX P md ops Q S x fuel listed a w rs) : AnyX P md ops Q S x (fuel + 1) listed a w := ⟨fun h0 => absurd (hr ▸ h0) hne, hr ▸ h⟩
theorem anyX_done {listed : Array Bool} {a : Act} {w : World} (hr : Region.ready md ops listed = []) (h : Q .normal a w) : ∀ fuel, AnyX P md ops Q S x fuel listed a w
  | 0 => ⟨hr, h⟩
  | _ + 1 => ⟨fun _ => h, by rw [hr]; simp⟩
/-- The beginning. -/
theorem region_x (S : World → Prop) (x : Nat) {id : Nat} {a : Act} {w : World} (hm : P.follows .mixedOrders = true)
    (h : AnyX P .any ops Q S x ops.size (Array.replicate ops.size false) a w.drew) : (Code.region id ops true).wp P Q a w :=
  wp_region_any hm (any_of_x _ _ _ _ h)
/-- Number i is taken first: it yields v. -/
theorem tx (i : Nat) (v : Value) {oi : Oper} {fuel : Nat} {listed listed' : Array Bool} {a a' : Act} {w : World} (hS : S w) (h : AnyX P md ops Q S x fuel listed' a' w)
    (hi : ops[i]? = some oi := by rfl) (hs : Region.noSelect ops = true := by kernel_rfl) (hf : Region.free md ops listed i = true := by kernel_rfl) (hr : (Region.ready md ops listed).contains i = true := by kernel_rfl)
    (hx : waits md ops x i = true := by kernel_rfl) (hlx : listed.getD x true = false := by kernel_rfl)
    (hQ : ∀ c a w, Q (.panic c) (a.put oi.dst v) w → Q (.panic c) a w := by exact fun _ _ _ h => h) (hw : Region.wanted oi (yielded ops a.tmps) = true := by kernel_rfl)
    (hy : ∀ w, S w → (execOp a.eval oi).run P w = .ok (.value v) w := by intro w' hSw; go_simp)
    (hl : listed.setIfInBounds i true = listed' := by (try simp only [List.setIfInBounds_toArray, List.set_cons_zero, List.set_cons_succ]); rfl)
    (ha : a.put oi.dst v = a' := by (try simp only [Act.put, List.getElem_toArray, List.getElem_cons_zero, List.getElem_cons_succ, List.setIfInBounds_toArray, List.set_cons_zero, List.set_cons_succ]); rfl) : AnyX P md ops Q S x (fuel + 1) listed a w := by
  subst hl ha
  exact anyX_first hi (Region.noSelect_spec hs) hQ hx fuel listed a w (Region.free_spec hi hf) (by simpa using hr) (.inl ⟨hw, hy⟩) hS hlx h
/-- Number i is taken first: it yields v whatever the world is. -/
theorem tt (i : Nat) (v : Value) {oi : Oper} {fuel : Nat} {listed listed' : Array Bool} {a a' : Act} {w : World} (hS : listed.getD x true = false → S w) (h : AnyX P md ops Q S x fuel listed' a' w)
    (hi : ops[i]? = some oi := by rfl) (hs : Region.noSelect ops = true := by kernel_rfl) (hf : Region.free md ops listed i = true := by kernel_rfl) (hr : (Region.ready md ops listed).contains i = true := by kernel_rfl)
    (hx : x ≠ i := by decide)
    (hQ : ∀ c a w, Q (.panic c) (a.put oi.dst v) w → Q (.panic c) a w := by exact fun _ _ _ h => h) (hw : Region.wanted oi (yielded ops a.tmps) = true := by kernel_rfl)
    (hy : ∀ w, True → (execOp a.eval oi).run P w = .ok (.value v) w := by intro w' hSw; go_simp)
    (hl : listed.setIfInBounds i true = listed' := by (try simp only [List.setIfInBounds_toArray, List.set_cons_zero, List.set_cons_succ]); rfl)
    (ha : a.put oi.dst v = a' := by (try simp only [Act.put, List.getElem_toArray, List.getElem_cons_zero, List.getElem_cons_succ, List.setIfInBounds_toArray, List.set_cons_zero, List.set_cons_succ]); rfl) : AnyX P md ops Q S x (fuel + 1) listed a w := by
  subst hl ha
  exact anyX_pure hi (Region.noSelect_spec hs) hQ hx fuel listed a w (Region.free_spec hi hf) (by simpa using hr) (.inl ⟨hw, hy⟩) hS h
/-- The same, of what cells hold. -/
theorem txf (i : Nat) (v : Value) {F : World → Prop} (f : ∀ w', S w' → F w') {oi : Oper} {fuel : Nat} {listed listed' : Array Bool} {a a' : Act} {w : World} (hS : S w) (h : AnyX P md ops Q S x fuel listed' a' w)
    (hi : ops[i]? = some oi := by rfl) (hs : Region.noSelect ops = true := by kernel_rfl) (hf : Region.free md ops listed i = true := by kernel_rfl) (hr : (Region.ready md ops listed).contains i = true := by kernel_rfl)
    (hx : waits md ops x i = true := by kernel_rfl) (hlx : listed.getD x true = false := by kernel_rfl)
    (hQ : ∀ c a w, Q (.panic c) (a.put oi.dst v) w → Q (.panic c) a w := by exact fun _ _ _ h => h) (hw : Region.wanted oi (yielded ops a.tmps) = true := by kernel_rfl)
    (hy : ∀ w, F w → (execOp a.eval oi).run P w = .ok (.value v) w := by intro w' hSw; go_simp)
    (hl : listed.setIfInBounds i true = listed' := by (try simp only [List.setIfInBounds_toArray, List.set_cons_zero, List.set_cons_succ]); rfl)
    (ha : a.put oi.dst v = a' := by (try simp only [Act.put, List.getElem_toArray, List.getElem_cons_zero, List.getElem_cons_succ, List.setIfInBounds_toArray, List.set_cons_zero, List.set_cons_succ]); rfl) : AnyX P md ops Q S x (fuel + 1) listed a w := by
  subst hl ha
  exact anyX_first hi (Region.noSelect_spec hs) hQ hx fuel listed a w (Region.free_spec hi hf) (by simpa using hr) (.inl ⟨hw, fun w h => hy w (f w h)⟩) hS hlx h
end
section
variable {P : Program} {fn : Func} {R : Ending → World → Prop}
theorem leaves_tmps {tmps tmps' : Array Value} (h : results fn tmps = results fn tmps') : ∀ (ds : List Deferred) (u : FrameMode) (w : World), Leaves P fn tmps R ds u w → Leaves P fn tmps' R ds u w
  | [], .returning, w, ⟨v, h1, h2⟩ => ⟨v, by rw [← h]; exact h1, h2⟩
  | [], .panicking _, w, h1 => h1
  | [], .run, _, h1 => h1
  | d :: ds, u, w, ⟨h1, fv, cap, f, args, h2, h3, h4⟩ => ⟨h1, fv, cap, f, args, h2, h3, h4.mono fun e u' w' h5 => by
      cases e with
      | returned v => exact leaves_tmps h ds _ _ h5
      | panicked c => exact leaves_tmps h ds _ _ h5
      | outgrown => exact h5⟩
/-- A panic in a frame with deferred calls: what a slot holds that is no result does not matter. -/
theorem hq_cell {t0 : Tmp} {T : TypeId} {dst : Option Tmp} {v : Value} (hr : fn.results = #[.cell t0 T]) (hd : dst ≠ some t0) (c : List PanicEntry) (a : Act) (w : World) (h : bodyPostD P fn R (.panic c) (a.put dst v) w) : bodyPostD P fn R (.panic c) a w := by
  cases dst with
  | none => exact h
  | some d =>
    have hne : d ≠ t0 := fun e => hd (by rw [e])
    have e : results fn (a.tmps.setIfInBounds d v) = results fn a.tmps := by
      simp [results, hr, Array.getElem?_setIfInBounds_ne hne]
    exact leaves_tmps e a.defers _ _ h
end
end Go.Proofs.YtmbppnbekkbibaaGreatDoor
end
