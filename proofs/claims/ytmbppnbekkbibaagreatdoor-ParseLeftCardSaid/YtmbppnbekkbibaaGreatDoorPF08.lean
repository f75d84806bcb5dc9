/- FR, FS, FT -/
import Derived.Test.YtmbppnbekkbibaaGreatDoorPF07
set_option linter.unusedSimpArgs false
set_option linter.unusedVariables false
section
/- The contract of rank. -/
set_option linter.unusedVariables false
namespace Go.Proofs.YtmbppnbekkbibaaGreatDoor
open Go.RowKit

/-- The contracts of unary, compare, rank. -/
def UnaryC (d : Int) (unary : Ps NoD) : Prop := ∀ (w : World) (bp B : Nat) (ts : List TokD), TkAt w bp B ts d →
  Calls Tryz.prog 142 #[.pointer (some ⟨bp, 0, none⟩)] w (ReadsP (PNo w.heap.size) bp B d w (unary ts))
def CmpC (d : Int) (p : Ps NoD) : Prop := ∀ (w : World) (bp B : Nat) (ts : List TokD), TkAt w bp B ts d →
  Calls Tryz.prog 143 #[.pointer (some ⟨bp, 0, none⟩)] w (ReadsP (PNo w.heap.size) bp B d w (p ts))
def RankC (d : Int) (k : Nat) (p : Ps NoD) : Prop := ∀ (w : World) (bp B : Nat) (ts : List TokD), TkAt w bp B ts d →
  Calls Tryz.prog 91 #[.pointer (some ⟨bp, 0, none⟩), .int .i64 (k : Int)] w (ReadsP (PNo w.heap.size) bp B d w (p ts))
theorem new_turn8 {bp a : Nat} {w w1 : World} {v0 v1 v2 v3 v4 v5 v6 v7 : Value} (h : Turn (fun k => k = bp) w w1) (ha : w.heap.size ≤ a) : Turn (fun k => k = bp) w (put8 w1 a v0 v1 v2 v3 v4 v5 v6 v7) := h.trans (put8_turn w1 a v0 v1 v2 v3 v4 v5 v6 v7) (fun i hi e => by omega)
theorem TkAt.put8_ {bp B a : Nat} {w1 : World} {ts : List TokD} {d : Int} {v0 v1 v2 v3 v4 v5 v6 v7 : Value} (h : TkAt w1 bp B ts d) (ha : bp < a) : TkAt (put8 w1 a v0 v1 v2 v3 v4 v5 v6 v7) bp B ts d := h.turn (put8_turn _ _ _ _ _ _ _ _ _ _) (by omega) (fun k hk e => by have := h.1; omega)

set_option maxRecDepth 100000 in
set_option maxHeartbeats 4000000 in
theorem rank_six (d : Int) (p : Ps NoD) (HU : UnaryC d p) : RankC d 6 p := by
  intro w bp B ts h
  have hlt := h.lt
  have hB := h.1
  obtain ⟨Q, hQ⟩ : ∃ Q, p ts = Q := ⟨_, rfl⟩
  rw [hQ]
  have HQ := hid hQ
  have HR := hid (ranks_any (w.alloc (.cells #[.int .i64 0, .string ⟨#[]⟩, .int .i64 0, .int .i64 0, .int .i64 0, .slice none 0 0, .slice none 0 0, .slice none 0 0] 49)))
  have HK0 := hid (h.below (new1 w (.cells #[.int .i64 0, .string ⟨#[]⟩, .int .i64 0, .int .i64 0, .int .i64 0, .slice none 0 0, .slice none 0 0, .slice none 0 0] 49)))
  have hw1 := at1 w (.cells #[.int .i64 0, .string ⟨#[]⟩, .int .i64 0, .int .i64 0, .int .i64 0, .slice none 0 0, .slice none 0 0, .slice none 0 0] 49)
  clear h hQ
  go_enter Tryz.func91, Tryz.ntmps91
  go_wp2_with fail
  refine (HR.out).mono ?_
  rintro e w1 ⟨hb, v, rfl, hv⟩
  obtain ⟨b, rfl, hbF, hbs, hcell⟩ := hv
  have HK1 := hid (HK0.out.below hb)
  obtain ⟨tm, hs1, hrs⟩ := after1 (Turn.of_below (F := fun k => k = bp) hb)
  have HT1 := hid tm
  have HRS1 := hid (hrs (by omega))
  have HC := hid (HU w1 bp B ts HK1.out)
  clear hb hbF hbs hcell tm hrs hw1
  go_wp2_with fail
  refine (HC.out).mono ?_
  rintro e w2 h2
  rcases hq : p ts with g | ⟨x, r2⟩
  · obtain ⟨rfl, tn, bn⟩ := h2.bad_ hq
    have HB := hid (BadP.mk2 (turn_bp HT1.out tn) bn)
    have HQB := hid (HQ.out.symm.trans hq)
    clear h2 tn bn hq
    go_wp2_with fail
    exact ⟨rfl, ReadsP.fail HQB.out HB.out⟩
  · obtain ⟨v2, rfl, tn, ⟨z, rfl, hz⟩, kn⟩ := h2.good_ hq
    obtain ⟨kz, sz, nz, lz, oz, Az1, nz1, cz1, Az2, nz2, cz2, Az3, nz3, cz3, rfl⟩ := hz.shape'
    have HZ := hid hz
    have HQ2 := hid (HQ.out.symm.trans hq)
    clear hz
    have hs2 := tn.size
    have HT2 := hid (turn_bp HT1.out tn)
    have HK2 := hid kn
    have HRS_2 := hid (block_turn HRS1.out tn (by omega))
    clear h2 tn kn hq
    obtain ⟨c0, c1, c2, c3, c4, c5, c6, c7, cz⟩ := cells8 HRS_2.out
    go_wp2_with fail
    refine bodyPost_ret (res_cell rfl rfl (put8_block HRS_2.out _ _ _ _ _ _ _ _) Tryz.underlying49 rfl (by kernel_rfl)) rfl ?_
    exact ReadsP.done HQ2.out (new_turn8 HT2.out (by omega)) ⟨_, rfl, (HZ.out.turn (put8_turn _ _ _ _ _ _ _ _ _ _) (fun g _ h e => by omega)).mono (fun g _ h => by omega)⟩ (HK2.out.put8_ (by omega))
set_option maxRecDepth 100000 in
set_option maxHeartbeats 4000000 in
theorem rank_two (d : Int) (p : Ps NoD) (HU : CmpC d p) : RankC d 2 p := by
  intro w bp B ts h
  have hlt := h.lt
  have hB := h.1
  obtain ⟨Q, hQ⟩ : ∃ Q, p ts = Q := ⟨_, rfl⟩
  rw [hQ]
  have HQ := hid hQ
  have HR := hid (ranks_any (w.alloc (.cells #[.int .i64 0, .string ⟨#[]⟩, .int .i64 0, .int .i64 0, .int .i64 0, .slice none 0 0, .slice none 0 0, .slice none 0 0] 49)))
  have HK0 := hid (h.below (new1 w (.cells #[.int .i64 0, .string ⟨#[]⟩, .int .i64 0, .int .i64 0, .int .i64 0, .slice none 0 0, .slice none 0 0, .slice none 0 0] 49)))
  have hw1 := at1 w (.cells #[.int .i64 0, .string ⟨#[]⟩, .int .i64 0, .int .i64 0, .int .i64 0, .slice none 0 0, .slice none 0 0, .slice none 0 0] 49)
  clear h hQ
  go_enter Tryz.func91, Tryz.ntmps91
  go_wp2_with fail
  refine (HR.out).mono ?_
  rintro e w1 ⟨hb, v, rfl, hv⟩
  obtain ⟨b, rfl, hbF, hbs, hcell⟩ := hv
  have HK1 := hid (HK0.out.below hb)
  obtain ⟨tm, hs1, hrs⟩ := after1 (Turn.of_below (F := fun k => k = bp) hb)
  have HT1 := hid tm
  have HRS1 := hid (hrs (by omega))
  have HC := hid (HU w1 bp B ts HK1.out)
  clear hb hbF hbs hcell tm hrs hw1
  go_wp2_with fail
  refine (HC.out).mono ?_
  rintro e w2 h2
  rcases hq : p ts with g | ⟨x, r2⟩
  · obtain ⟨rfl, tn, bn⟩ := h2.bad_ hq
    have HB := hid (BadP.mk2 (turn_bp HT1.out tn) bn)
    have HQB := hid (HQ.out.symm.trans hq)
    clear h2 tn bn hq
    go_wp2_with fail
    exact ⟨rfl, ReadsP.fail HQB.out HB.out⟩
  · obtain ⟨v2, rfl, tn, ⟨z, rfl, hz⟩, kn⟩ := h2.good_ hq
    obtain ⟨kz, sz, nz, lz, oz, Az1, nz1, cz1, Az2, nz2, cz2, Az3, nz3, cz3, rfl⟩ := hz.shape'
    have HZ := hid hz
    have HQ2 := hid (HQ.out.symm.trans hq)
    clear hz
    have hs2 := tn.size
    have HT2 := hid (turn_bp HT1.out tn)
    have HK2 := hid kn
    have HRS_2 := hid (block_turn HRS1.out tn (by omega))
    clear h2 tn kn hq
    obtain ⟨c0, c1, c2, c3, c4, c5, c6, c7, cz⟩ := cells8 HRS_2.out
    go_wp2_with fail
    refine bodyPost_ret (res_cell rfl rfl (put8_block HRS_2.out _ _ _ _ _ _ _ _) Tryz.underlying49 rfl (by kernel_rfl)) rfl ?_
    exact ReadsP.done HQ2.out (new_turn8 HT2.out (by omega)) ⟨_, rfl, (HZ.out.turn (put8_turn _ _ _ _ _ _ _ _ _ _) (fun g _ h e => by omega)).mono (fun g _ h => by omega)⟩ (HK2.out.put8_ (by omega))
theorem takeP_less {l : List Bt} {ts r : List TokD} {i : Nat} (h : takeP l ts = .good (some i) r) (hw : 1 ≤ ts.length) : r.length < ts.length := by
  unfold takeP at h
  split at h
  · cases h
  · injection h with _ h
    subst h
    rw [List.length_drop]; omega
/-- What rank keeps in its loop. -/
structure RankI (w : World) (bp B ab : Nat) (d : Int) (vr : Value) (wr : World) (a : NoD) (r : List TokD) : Prop where
  turn : Turn (fun k => k = bp) w wr
  tk : TkAt wr bp B r d
  res : wr.heap[w.heap.size]? = some (.cells #[.int .i64 0, .string ⟨#[]⟩, .int .i64 0, .int .i64 0, .int .i64 0, .slice none 0 0, .slice none 0 0, .slice none 0 0] 49 (0, 0))
  rk : RkAt wr (fun j => w.heap.size + 1 ≤ j ∧ j < ab) vr
  no : ∃ z : List Value, wr.heap[ab]? = some (.cells z.toArray 49 (0, 0)) ∧ NoG wr (fun j => w.heap.size ≤ j ∧ j ≠ w.heap.size ∧ j ≠ ab) z a
theorem RankI.go {w : World} {bp B ab : Nat} {d : Int} {vr : Value} {wr w' : World} {a : NoD} {r r' : List TokD} {G : Nat → Prop} (h : RankI w bp B ab d vr wr a r) (hlt : bp < w.heap.size) (hab : w.heap.size < ab) (t : Turn G wr w') (hG : ∀ j, G j → j = bp ∨ wr.heap.size ≤ j) (hk : TkAt w' bp B r' d) : RankI w bp B ab d vr w' a r' := by
  obtain ⟨ht, _, hr, hv, z, hz, hn⟩ := h
  have hs := ht.size
  have hrl := block_lt hr
  have hzl := block_lt hz
  exact ⟨ht.trans t (fun i hi e => by rcases hG i e with e | e; exact e; omega), hk, block_turn hr t (fun e => by rcases hG _ e with e | e <;> omega), hv.turn t (fun g hg h e => by have := h.1; rcases hG _ e with e | e <;> omega), z, block_turn hz t (fun e => by rcases hG _ e with e | e <;> omega), hn.turn t (fun g hg h e => by rcases hG _ e with e | e <;> omega)⟩
set_option maxRecDepth 100000 in
set_option maxHeartbeats 8000000 in
theorem rank_left (d : Int) (k : Nat) (hk : k = 0 ∨ k = 1 ∨ k = 3 ∨ k = 4 ∨ k = 5) (sub : Ps NoD) (hsf : Sf sub) (HS : RankC d (k + 1) sub) : RankC d k (leftP (ranksL.getD k []) sub) := by
  intro w bp B ts h
  have hlt := h.lt
  have hB := h.1
  have hk5 : k ≤ 5 := by omega
  have hk6 : ((k : Int) == 6) = false := by simp; omega
  have hk2 : ((k : Int) == 2) = false := by simp; omega
  obtain ⟨ops, hops⟩ : ∃ ops, ranksL.getD k [] = ops := ⟨_, rfl⟩
  have hol : ops.length ≤ 6 := by
    rcases hk with rfl | rfl | rfl | rfl | rfl <;> rw [← hops] <;> decide
  have HOPS := hid hops
  rw [hops]
  obtain ⟨Q, hQ⟩ : ∃ Q, leftP ops sub ts = Q := ⟨_, rfl⟩
  rw [hQ]
  have HQ : Hid (thenP sub (fun a ts => leftF ops sub ts.length a ts) ts = Q) := hid hQ
  have HR := hid (ranks_any (w.alloc (.cells #[.int .i64 0, .string ⟨#[]⟩, .int .i64 0, .int .i64 0, .int .i64 0, .slice none 0 0, .slice none 0 0, .slice none 0 0] 49)))
  have HK0 := hid (h.below (new1 w (.cells #[.int .i64 0, .string ⟨#[]⟩, .int .i64 0, .int .i64 0, .int .i64 0, .slice none 0 0, .slice none 0 0, .slice none 0 0] 49)))
  have HKK := hid hk
  clear h hQ hops hk
  go_enter Tryz.func91, Tryz.ntmps91
  go_wp2_with fail
  refine (HR.out).mono ?_
  rintro e w1 ⟨hb, vr, rfl, hv⟩
  have hv0 := hv
  obtain ⟨b, hvr, hbF, hbs, hcell⟩ := hv0
  have HRK1 := hid (hv.mono (G := fun j => w.heap.size + 1 ≤ j ∧ j < w1.heap.size) (fun g hg h => ⟨by simp at h; exact h, hg⟩))
  have HK1 := hid (HK0.out.below hb)
  obtain ⟨tm, hs1, hrs⟩ := after1 (Turn.of_below (F := fun k => k = bp) hb)
  have HT1 := hid tm
  have HRS1 := hid (hrs (by omega))
  have HSK : Hid (∀ (w : World) (ts : List TokD), TkAt w bp B ts d → Calls Tryz.prog 91 #[.pointer (some ⟨bp, 0, none⟩), .int .i64 ((k : Int) + 1)] w (ReadsP (PNo w.heap.size) bp B d w (sub ts))) := hid (fun w ts h => HS w bp B ts h)
  have HC := hid (HSK.out w1 ts HK1.out)
  have hvr2 := hvr
  subst hvr
  clear hb hbF hbs hcell tm hrs hv
  go_wp2_with fail
  refine (HC.out).mono ?_
  rintro e w2 h2
  rcases hq : sub ts with g | ⟨a, r2⟩
  · obtain ⟨rfl, tn, bn⟩ := h2.bad_ hq
    have HB := hid (BadP.mk2 (turn_bp HT1.out tn) bn)
    have HQB := hid (HQ.out.symm.trans (thenP_bad hq))
    clear h2 tn bn hq
    go_wp2_with fail
    exact ⟨rfl, ReadsP.fail HQB.out HB.out⟩
  · obtain ⟨v2, rfl, tn, ⟨z, rfl, hz⟩, kn⟩ := h2.good_ hq
    have HQ2 : Hid (leftF ops sub r2.length a r2 = Q) := hid ((thenP_good (f := fun a ts => leftF ops sub ts.length a ts) hq).symm.trans HQ.out)
    obtain ⟨k2, s2, n2, l2, o2, A12, n12, c12, A22, n22, c22, A32, n32, c32, rfl⟩ := hz.shape'
    have HRK2 := hid (HRK1.out.turn tn (fun g _ h e => by have := h.1; omega))
    have HZ := hid hz
    clear hz
    have hs2 := tn.size
    have HT2 := hid (turn_bp HT1.out tn)
    have HK2 := hid kn
    have HRS_2 := hid (block_turn HRS1.out tn (by omega))
    clear h2 tn kn hq
    have ta := Turn.alloc (fun k => k = bp) w2 (.cells #[.int .i64 k2, sv s2, .int .i64 n2, .int .i64 l2, .int .i64 o2, .slice A12 n12 c12, .slice A22 n22 c22, .slice A32 n32 c32] 49)
    have hab : w.heap.size < w2.heap.size := by omega
    have HRI : Hid (RankI w bp B w2.heap.size d (.slice (some ⟨b, 0, none⟩) 6 6) (w2.alloc (.cells #[.int .i64 k2, sv s2, .int .i64 n2, .int .i64 l2, .int .i64 o2, .slice A12 n12 c12, .slice A22 n22 c22, .slice A32 n32 c32] 49)) a r2) := hid ⟨turn_bp HT2.out ta, HK2.out.below (new1 _ _), keep_alloc HRS_2.out, (HRK2.out.turn ta (fun g _ h e => by have := h.1; omega)).mono (fun g _ h => ⟨h.1, by have := h.2; omega⟩), [.int .i64 k2, sv s2, .int .i64 n2, .int .i64 l2, .int .i64 o2, .slice A12 n12 c12, .slice A22 n22 c22, .slice A32 n32 c32], at1 _ _, (HZ.out.iv.turn (Turn.alloc (fun _ => False) w2 (.cells #[.int .i64 k2, sv s2, .int .i64 n2, .int .i64 l2, .int .i64 o2, .slice A12 n12 c12, .slice A22 n22 c22, .slice A32 n32 c32] 49)) (fun _ _ _ => id)).mono (fun g hg h => ⟨by have := h.1; omega, by have := h.1; omega, by have := h.2; omega⟩)⟩
    go_wp2_with fail
    go_loopw [8] (fun _ wr => ∃ (f : Nat) (a : NoD) (r : List TokD), leftF ops sub f a r = Q ∧ r.length ≤ f ∧ RankI w bp B w2.heap.size d (.slice (some ⟨b, 0, none⟩) 6 6) wr a r) (fun _ wr => leftOf wr bp)
    case atStart => exact ⟨_, a, r2, HQ2.out, Nat.le_refl _, HRI.out⟩
    case round =>
      obtain ⟨f, a, r, hinv, hf, hri⟩ := hrel
      have hwf := hri.tk.wf
      have hpos := hwf.pos
      obtain ⟨f, rfl⟩ : ∃ f', f = f' + 1 := ⟨f - 1, by omega⟩
      obtain ⟨t, ht⟩ : ∃ t, nextP r = t := ⟨_, rfl⟩
      have HL : Hid (thenP (takeP ops) (fun i => match i with | none => retP a | some i => thenP sub fun b => leftF ops sub f (nodeD 14 (ops.getD i []) 0 t [] [] [a, b])) r = Q) := hid (by subst ht; exact hinv)
      have HLEN := hid hri.tk.left
      have HF := hid hf
      have HRI0 := hid hri
      have HWF := hid hwf
      have hsr := hri.turn.size
      obtain ⟨z4, hz0, hn0⟩ := hri.no
      obtain ⟨k4, s4, n4, l4, o4, A14, n14, c14, A24, n24, c24, A34, n34, c34, rfl⟩ := hn0.shape'
      have HZB0 := hid hz0
      have HN0 := hid (hn0.mono (G := fun j => (w.heap.size ≤ j ∧ j ≠ w.heap.size ∧ j ≠ w2.heap.size) ∧ j < wr.heap.size) (fun g hg h => ⟨h, hg⟩))
      have hsr2 := block_lt hz0
      have HH := hid (here_any d wr bp B r hri.tk 14)
      rw [ht] at HH
      clear hinv hf hri hwf ht hz0 hn0
      go_wp2_with fail
      refine (HH.out).mono ?_
      rintro e w3 ⟨rfl, hb3⟩
      have hs3 := hb3.size
      have t3 := (Turn.of_below (F := fun k => k = bp) hb3).trans (Turn.alloc (fun k => k = bp) w3 (.cells (nodeC 14 t) 49)) (fun _ _ h => h)
      have hk3 := (HRI0.out.tk.below hb3).below (new1 w3 (.cells (nodeC 14 t) 49))
      have HRI3 := hid (HRI0.out.go hlt hab t3 (fun j h => .inl h) hk3)
      have HNB3 := hid (at1 w3 (.cells (nodeC 14 t) 49))
      have HZB3 := hid (block_turn HZB0.out t3 (by omega))
      have HN3 := hid (HN0.out.turn t3 (fun g _ h e => by have := h.1.1; omega))
      obtain ⟨W3, hW3⟩ : ∃ W3, w3.alloc (.cells (nodeC 14 t) 49) = W3 := ⟨_, rfl⟩
      rw [hW3] at HRI3 HNB3 HZB3 HN3
      have hsW : W3.heap.size = w3.heap.size + 1 := by rw [← hW3]; simp
      have HW3 := hid hW3
      obtain ⟨bb, hbb, hbF, hbs, hcell⟩ := HRI3.out.rk
      have hbe : bb = b := by injection hbb with h1; injection h1 with h1; injection h1 with h1; exact h1.symm
      subst hbe
      obtain ⟨Ao, no, co, hoc, hos⟩ := hcell k (by omega)
      rw [HOPS.out] at hos
      have PO := hid (fun (w' : World) (h : Turn (fun j => j = bp) W3 w') => tcell hoc h (by omega))
      have HSS : Hid (Ss W3.drew W3.drew.heap.size (.slice Ao no co) ops) := hid hos.all
      have HTK := hid (take_any W3.drew bp B r d HRI3.out.tk (.slice Ao no co) ops HSS.out (by omega))
      have HOS := hid hos
      have HD0 : Hid (Turn (fun j => j = bp) W3 W3.drew) := hid ⟨rfl, rfl, rfl, Nat.le_refl _, fun _ _ _ => rfl⟩
      have hkI : (k : Int) < 6 := by omega
      have hkw : IntKind.i64.wrap ((k : Int) + 1) = (k : Int) + 1 := by rw [IntKind.wrap_i64]; omega
      clear hb3 t3 hk3 hW3 hbb hbF hbs hcell hoc hos
      go_wp2_with fail
      rw [HW3.out]
      refine region_x (S := fun w' => Turn (fun j => j = bp) W3 w') (x := 12) (by kernel_rfl) ?_
      try simp only [Act.put, List.getElem_toArray, List.getElem_cons_zero, List.getElem_cons_succ, List.setIfInBounds_toArray, List.set_cons_zero, List.set_cons_succ]
      refine tx 0 (.pointer (some ⟨bp, 0, none⟩)) HD0.out ?_
      refine tx 1 (.pointer (some ⟨bp, 0, none⟩)) HD0.out ?_
      refine tx 2 (.pointer (some ⟨bp, 0, none⟩)) HD0.out ?_
      refine tx 3 (.slice (some ⟨bb, 0, none⟩) 6 6) HD0.out ?_
      refine tx 4 (.int .i64 (k : Int)) HD0.out ?_
      refine tx 5 (.pointer (some ⟨bb, k, none⟩)) HD0.out ?_
      refine txf 6 (.slice Ao no co) PO.out HD0.out ?_
      refine anyX_ready (rs := [7]) (by kernel_rfl) (by simp) ?_
      refine ReadyX.cons rfl (fun K hK => ?_) (ReadyX.nil)
      go_simp
      refine (HTK.out).mono ?_
      rintro e w4 h4
      rcases hq : takeP ops r with g | ⟨o, r4⟩
      · exact (takeP_good hq).elim
      · obtain ⟨v4, rfl, tn, rfl, kn⟩ := h4.good_ hq
        have HT4 := hid (turn_bp HD0.out tn)
        have hs4 := HT4.out.size
        have HRI4 := hid (HRI3.out.go hlt hab HT4.out (fun j h => .inl h) kn)
        have HNB4 := hid (block_turn HNB3.out HT4.out (by omega))
        have HZB4 := hid (block_turn HZB3.out HT4.out (by omega))
        have HN4 := hid (HN3.out.turn HT4.out (fun g _ h e => by have := h.1.1; omega))
        have HQ4 := hid hq
        clear h4 tn kn hq
        refine hK.out _ _ HT4.out ?_
        clear hK K
        try simp only [Act.put, List.getElem_toArray, List.getElem_cons_zero, List.getElem_cons_succ, List.setIfInBounds_toArray, List.set_cons_zero, List.set_cons_succ]
        refine tx 8 (.tuple #[.int .i64 ((o.getD 0 : Nat) : Int), .bool o.isSome]) HT4.out ?_
        refine tx 9 (.int .i64 ((o.getD 0 : Nat) : Int)) HT4.out ?_
        refine tx 10 (.bool o.isSome) HT4.out ?_
        refine tx 11 (.int .i64 ((o.getD 0 : Nat) : Int)) HT4.out ?_
        refine anyX_ready (rs := [12]) (by kernel_rfl) (by simp) ?_
        refine ReadyX.past rfl (by kernel_rfl) (fun K hK => ?_) (ReadyX.nil)
        go_simp
        refine hK.out _ _ ?_
        clear hK K
        try simp only [Act.put, List.getElem_toArray, List.getElem_cons_zero, List.getElem_cons_succ, List.setIfInBounds_toArray, List.set_cons_zero, List.set_cons_succ]
        refine anyX_done (by kernel_rfl) ?_ _
        rcases o with _ | i
        · have HQ5 : Hid (Pr.good a r4 = Q) := hid ((thenP_good HQ4.out).symm.trans HL.out)
          obtain ⟨e0, e1, e2, e3, e4, e5, e6, e7, ez⟩ := cells8 HZB4.out
          obtain ⟨c0, c1, c2, c3, c4, c5, c6, c7, cz⟩ := cells8 HRI4.out.res
          go_wp2_with fail
          refine bodyPost_ret (res_cell rfl rfl (put8_block HRI4.out.res _ _ _ _ _ _ _ _) Tryz.underlying49 rfl (by kernel_rfl)) rfl ?_
          exact ReadsP.done HQ5.out.symm (new_turn8 HRI4.out.turn (by omega)) ⟨_, rfl, (HN4.out.turn (put8_turn _ _ _ _ _ _ _ _ _ _) (fun g _ h e => by have := h.1.2.1; omega)).mono (fun g _ h => h.1.1)⟩ (HRI4.out.tk.put8_ (by omega))
        · have hio := takeP_lt HQ4.out
          have HQ5 : Hid (thenP sub (fun b => leftF ops sub f (nodeD 14 (ops.getD i []) 0 t [] [] [a, b])) r4 = Q) := hid ((thenP_good HQ4.out).symm.trans HL.out)
          have hwr4 := HRI4.out.turn.size
          obtain ⟨bb2, hbb, hbF, hbs, hcell⟩ := HRI4.out.rk
          have hbe : bb2 = bb := by injection hbb with h1; injection h1 with h1; injection h1 with h1; exact h1.symm
          subst hbe
          obtain ⟨Ap, np, cp, hoc, hos⟩ := hcell k (by omega)
          rw [HOPS.out] at hos
          obtain ⟨A9, n9, c9, hv9, hl9, hn9, hc9, hx9⟩ := hos
          injection hv9 with hv9 hv10 hv11
          subst hv9 hv10 hv11
          rw [svs_length, Nat.mul_one] at hl9
          subst hl9
          obtain ⟨bo, oo, rfl, hboF, hbos, hcel⟩ := hx9 (by omega)
          have hstr := hcel i (sv (ops.getD i [])) (by rw [svs_get _ _ hio]; simp [List.getD, hio])
          obtain ⟨e0, e1, e2, e3, e4, e5, e6, e7, ez⟩ := cells8 HZB4.out
          obtain ⟨m0, m1, m2, m3, m4, m5, m6, m7, mz⟩ := cells8 HNB4.out
          obtain ⟨sx, hsx⟩ : ∃ sx, ops.getD i [] = sx := ⟨_, rfl⟩
          rw [hsx] at hstr
          have HSX := hid hsx
          have PR := hid (fun (w' : World) (h : Turn (fun j => j = bp ∨ j = w3.heap.size) w4 w') => tcell hoc h (by omega))
          have PS := hid (fun (w' : World) (h : Turn (fun j => j = bp ∨ j = w3.heap.size) w4 w') => tcell hstr h (by omega))
          have PA := hid (fun (w' : World) (h : Turn (fun j => j = bp ∨ j = w3.heap.size) w4 w') => (⟨tcell e0 h (by omega), tcell e1 h (by omega), tcell e2 h (by omega), tcell e3 h (by omega), tcell e4 h (by omega), tcell e5 h (by omega), tcell e6 h (by omega), tcell e7 h (by omega)⟩ : w'.cell? ⟨w2.heap.size, 0, none⟩ = some (.int .i64 k4) ∧ w'.cell? ⟨w2.heap.size, 1, none⟩ = some (sv s4) ∧ w'.cell? ⟨w2.heap.size, 2, none⟩ = some (.int .i64 n4) ∧ w'.cell? ⟨w2.heap.size, 3, none⟩ = some (.int .i64 l4) ∧ w'.cell? ⟨w2.heap.size, 4, none⟩ = some (.int .i64 o4) ∧ w'.cell? ⟨w2.heap.size, 5, none⟩ = some (.slice A14 n14 c14) ∧ w'.cell? ⟨w2.heap.size, 6, none⟩ = some (.slice A24 n24 c24) ∧ w'.cell? ⟨w2.heap.size, 7, none⟩ = some (.slice A34 n34 c34)))
          have HE0 : Hid (Turn (fun j => j = bp ∨ j = w3.heap.size) w4 w4.drew) := hid ⟨rfl, rfl, rfl, Nat.le_refl _, fun _ _ _ => rfl⟩
          have HEB : Hid (Turn (fun j => j = bp) w4 w4.drew) := hid ⟨rfl, rfl, rfl, Nat.le_refl _, fun _ _ _ => rfl⟩
          have HSC := hid (HSK.out w4.drew r4 HRI4.out.tk)
          have hioI : (i : Int) < (ops.length : Int) := by omega
          clear hbb hbF hbs hcell hoc hx9 hstr hcel e0 e1 e2 e3 e4 e5 e6 e7 ez m0 m1 m2 m3 m4 m5 m6 m7 mz hsx
          go_wp2_with fail
          refine region_x (S := fun w' => Turn (fun j => j = bp ∨ j = w3.heap.size) w4 w') (x := 16) (by kernel_rfl) ?_
          try simp only [Act.put, List.getElem_toArray, List.getElem_cons_zero, List.getElem_cons_succ, List.setIfInBounds_toArray, List.set_cons_zero, List.set_cons_succ]
          refine tx 0 (.slice (some ⟨bb2, 0, none⟩) 6 6) HE0.out ?_
          refine tx 1 (.int .i64 (k : Int)) HE0.out ?_
          refine tx 2 (.pointer (some ⟨bb2, k, none⟩)) HE0.out ?_
          refine txf 3 (.slice (some ⟨bo, oo, none⟩) ops.length cp) PR.out HE0.out ?_
          refine tx 4 (.int .i64 (i : Int)) HE0.out ?_
          refine tx 5 (.pointer (some ⟨bo, oo + i, none⟩)) HE0.out ?_
          refine txf 6 (sv sx) PS.out HE0.out ?_
          refine txf 7 (.agg #[.int .i64 k4, sv s4, .int .i64 n4, .int .i64 l4, .int .i64 o4, .slice A14 n14 c14, .slice A24 n24 c24, .slice A34 n34 c34]) PA.out HE0.out ?_
          refine tx 8 (.pointer (some ⟨bp, 0, none⟩)) HE0.out ?_
          refine tx 9 (.int .i64 (k : Int)) HE0.out ?_
          refine tx 10 (.int .i64 ((k : Int) + 1)) HE0.out ?_
          refine tx 13 (.pointer (some ⟨w3.heap.size, 1, none⟩)) HE0.out ?_
          refine anyX_ready (rs := [11]) (by kernel_rfl) (by simp) ?_
          refine ReadyX.cons rfl (fun K hK => ?_) (ReadyX.nil)
          go_simp
          refine (HSC.out).mono ?_
          rintro e w5 h5
          rcases hq : sub r4 with g | ⟨x5, r5⟩
          · obtain ⟨rfl, tn, bn⟩ := h5.bad_ hq
            have HB := hid (BadP.mk2 (turn_bp HRI4.out.turn (turn_bp HEB.out tn)) bn)
            have HQB := hid (HQ5.out.symm.trans (thenP_bad hq))
            exact ⟨rfl, ReadsP.fail HQB.out HB.out⟩
          · obtain ⟨v5, rfl, tn, ⟨z5, rfl, hz5⟩, kn⟩ := h5.good_ hq
            obtain ⟨k5, s5, n5, l5, o5, A15, n15, c15, A25, n25, c25, A35, n35, c35, rfl⟩ := hz5.shape'
            have HT5 := hid (turn_bp HEB.out tn)
            have HS5 := hid (HT5.out.mono (G := fun j => j = bp ∨ j = w3.heap.size) (fun _ _ h => .inl h))
            have hs5 := HT5.out.size
            have HRI5 := hid (HRI4.out.go hlt hab HT5.out (fun j h => .inl h) kn)
            have HN5 := hid (HN4.out.turn HT5.out (fun g _ h e => by have := h.1.1; omega))
            have hz5b := block_turn HZB4.out HT5.out (by omega)
            have HZB5 := hid hz5b
            have hnb5 := block_turn HNB4.out HT5.out (by omega)
            have HNB5 := hid hnb5
            have HZ5 := hid (hz5.iv.mono (G := Iv w4.heap.size w5.heap.size) (fun g _ h => h))
            have HQ6 : Hid (leftF ops sub f (nodeD 14 sx 0 t [] [] [a, x5]) r5 = Q) := hid (by
              have := (thenP_good hq).symm.trans HQ5.out
              rw [HSX.out] at this
              exact this)
            have HLE := hid (hsf.good HRI4.out.tk.wf hq).2.length_le
            have HLE4 := hid ((Sf.take_ ops).good HRI0.out.tk.wf HQ4.out).2.length_le
            have HLESS := hid (takeP_less HQ4.out HRI0.out.tk.wf.pos)
            have hnl5 := block_lt hnb5
            obtain ⟨m0, m1, m2, m3, m4, m5, m6, m7, mz⟩ := cells8 hnb5
            clear h5 tn hz5 kn hq hnb5 hz5b
            refine hK.out _ _ HS5.out ?_
            clear hK K
            try simp only [Act.put, List.getElem_toArray, List.getElem_cons_zero, List.getElem_cons_succ, List.setIfInBounds_toArray, List.set_cons_zero, List.set_cons_succ]
            refine anyX_ready (rs := [12, 14]) (by kernel_rfl) (by simp) ?_
            refine ReadyX.cons rfl (fun K hK => ?_) (ReadyX.cons rfl (fun K hK => ?_) ReadyX.nil)
            · go_simp
              have HS6 := hid (HS5.out.trans (Turn.alloc (fun j => j = bp ∨ j = w3.heap.size) w5 (.cells #[.int .i64 k4, sv s4, .int .i64 n4, .int .i64 l4, .int .i64 o4, .slice A14 n14 c14, .slice A24 n24 c24, .slice A34 n34 c34, .int .i64 k5, sv s5, .int .i64 n5, .int .i64 l5, .int .i64 o5, .slice A15 n15 c15, .slice A25 n25 c25, .slice A35 n35 c35] 49)) (fun _ _ h => h))
              refine hK.out _ _ HS6.out ?_
              clear hK K
              try simp only [Act.put, List.getElem_toArray, List.getElem_cons_zero, List.getElem_cons_succ, List.setIfInBounds_toArray, List.set_cons_zero, List.set_cons_succ]
              refine anyX_ready (rs := [14]) (by kernel_rfl) (by simp) ?_
              refine ReadyX.cons rfl (fun K hK => ?_) (ReadyX.nil)
              go_simp
              have HS7 := hid ((HS5.out.trans (turn_set w5 w3.heap.size 1 (sv sx)) (fun _ _ h => .inr h)).trans (Turn.alloc (fun j => j = bp ∨ j = w3.heap.size) _ (.cells #[.int .i64 k4, sv s4, .int .i64 n4, .int .i64 l4, .int .i64 o4, .slice A14 n14 c14, .slice A24 n24 c24, .slice A34 n34 c34, .int .i64 k5, sv s5, .int .i64 n5, .int .i64 l5, .int .i64 o5, .slice A15 n15 c15, .slice A25 n25 c25, .slice A35 n35 c35] 49)) (fun _ _ h => h))
              refine hK.out _ _ HS7.out ?_
              clear hK K
              try simp only [Act.put, List.getElem_toArray, List.getElem_cons_zero, List.getElem_cons_succ, List.setIfInBounds_toArray, List.set_cons_zero, List.set_cons_succ]
              refine tx 15 (.pointer (some ⟨w3.heap.size, 7, none⟩)) HS7.out ?_
              refine anyX_ready (rs := [16]) (by kernel_rfl) (by simp) ?_
              refine ReadyX.past rfl (by kernel_rfl) (fun K hK => ?_) (ReadyX.nil)
              go_simp
              refine hK.out _ _ ?_
              clear hK K
              try simp only [Act.put, List.getElem_toArray, List.getElem_cons_zero, List.getElem_cons_succ, List.setIfInBounds_toArray, List.set_cons_zero, List.set_cons_succ]
              refine anyX_done (by kernel_rfl) ?_ _
              obtain ⟨t8, hp8, hn8⟩ := pair_set (nb := w3.heap.size) (c1 := 1) (c2 := 7) (v1 := sv sx) (v2 := (.slice (some ⟨w5.heap.size, 0, none⟩) 2 2)) (P := #[.int .i64 k4, sv s4, .int .i64 n4, .int .i64 l4, .int .i64 o4, .slice A14 n14 c14, .slice A24 n24 c24, .slice A34 n34 c34, .int .i64 k5, sv s5, .int .i64 n5, .int .i64 l5, .int .i64 o5, .slice A15 n15 c15, .slice A25 n25 c25, .slice A35 n35 c35]) (T := 49) HNB5.out (((w5.setCell ⟨w3.heap.size, 1, none⟩ (sv sx)).setCell ⟨w3.heap.size, 7, none⟩ (.slice (some ⟨w5.heap.size, 0, none⟩) 2 2)).alloc (.cells #[.int .i64 k4, sv s4, .int .i64 n4, .int .i64 l4, .int .i64 o4, .slice A14 n14 c14, .slice A24 n24 c24, .slice A34 n34 c34, .int .i64 k5, sv s5, .int .i64 n5, .int .i64 l5, .int .i64 o5, .slice A15 n15 c15, .slice A25 n25 c25, .slice A35 n35 c35] 49)) rfl
              have hk8 := HRI5.out.tk.turn t8 (by omega) (fun k hk e => by have := HRI5.out.tk.1; omega)
              have HP8 := hid (slG_blk hp8 8 2 rfl (by omega))
              have HA8 := hid (HN5.out.turn t8 (fun g hg h e => by have := h.2; omega))
              have hz8 := block_turn HZB5.out t8 (by omega)
              have HRI8 : Hid (RankI w bp B w2.heap.size d (.slice (some ⟨bb2, 0, none⟩) 6 6) _ a r5) := hid ⟨HRI5.out.turn.trans t8 (fun i hi e => by omega), hk8, block_turn HRI5.out.res t8 (by omega), HRI5.out.rk.turn t8 (fun g hg h e => by have := h.2; omega), _, hz8, HA8.out.mono (fun g _ h => h.1)⟩
              have HX8 := hid (HZ5.out.turn t8 (fun g _ h e => by have := h.1; omega))
              have HNB8 := hid hn8
              have hs8 := t8.size
              obtain ⟨W8, hW8⟩ : ∃ W8, (((w5.setCell ⟨w3.heap.size, 1, none⟩ (sv sx)).setCell ⟨w3.heap.size, 7, none⟩ (.slice (some ⟨w5.heap.size, 0, none⟩) 2 2)).alloc (.cells #[.int .i64 k4, sv s4, .int .i64 n4, .int .i64 l4, .int .i64 o4, .slice A14 n14 c14, .slice A24 n24 c24, .slice A34 n34 c34, .int .i64 k5, sv s5, .int .i64 n5, .int .i64 l5, .int .i64 o5, .slice A15 n15 c15, .slice A25 n25 c25, .slice A35 n35 c35] 49)) = W8 := ⟨_, rfl⟩
              rw [hW8] at HRI8 HP8 HA8 HX8 HNB8 hs8 hz8
              have HW8 := hid hW8
              have q8 := cells8 (show W8.heap[w3.heap.size]? = some (.cells #[.int .i64 14, sv sx, .int .i64 0, .int .i64 (t.line : Nat), .int .i64 (t.col : Nat), .slice none 0 0, .slice none 0 0, (.slice (some ⟨w5.heap.size, 0, none⟩) 2 2)] 49 (0, 0)) from HNB8.out)
              obtain ⟨f0, f1, f2, f3, f4, f5, f6, f7, fz⟩ := q8
              obtain ⟨e0, e1, e2, e3, e4, e5, e6, e7, ez⟩ := cells8 hz8
              have HZ8 := hid hz8
              clear t8 hp8 hn8 hk8 hW8 hz8 m0 m1 m2 m3 m4 m5 m6 m7 mz
              rw [HW8.out]
              go_wp2_with fail
              have tF := put8_turn W8 w2.heap.size (.int .i64 14) (sv sx) (.int .i64 0) (.int .i64 (t.line : Nat)) (.int .i64 (t.col : Nat)) (.slice none 0 0) (.slice none 0 0) (.slice (some ⟨w5.heap.size, 0, none⟩) 2 2)
              have hrF : RankI w bp B w2.heap.size d (.slice (some ⟨bb2, 0, none⟩) 6 6) (put8 W8 w2.heap.size (.int .i64 14) (sv sx) (.int .i64 0) (.int .i64 (t.line : Nat)) (.int .i64 (t.col : Nat)) (.slice none 0 0) (.slice none 0 0) (.slice (some ⟨w5.heap.size, 0, none⟩) 2 2)) (nodeD 14 sx 0 t [] [] [a, x5]) r5 := by
                have hwx := HRI8.out.turn.size
                refine ⟨new_turn8 HRI8.out.turn (by omega), HRI8.out.tk.put8_ (by omega), block_turn HRI8.out.res tF (by omega), HRI8.out.rk.turn tF (fun g _ h e => by have := h.2; omega), _, put8_block HZ8.out _ _ _ _ _ _ _ _, ?_⟩
                exact .mk (SlG.nil _ _ _) .nil (SlG.nil _ _ _) ((HP8.out.turn tF (fun g _ h e => by omega)).mono (fun g _ h => by omega)) (.cons ((HA8.out.turn tF (fun g _ h e => by have := h.1.2.2; omega)).mono (fun g _ h => h.1)) (.cons ((HX8.out.turn tF (fun g _ h e => by have := h.1; omega)).mono (fun g _ h => by have := h.1; omega)) .nil))
              go_roundw
              case rel => exact ⟨f, _, r5, HQ6.out, by have := HLE.out; have := HLESS.out; have := HF.out; omega, hrF⟩
              case measure => rw [hrF.tk.left, HLEN.out]; have := HLE.out; have := HLESS.out; omega
            · go_simp
              have HS6 := hid (HS5.out.trans (turn_set w5 w3.heap.size 1 (sv sx)) (fun _ _ h => .inr h))
              refine hK.out _ _ HS6.out ?_
              clear hK K
              try simp only [Act.put, List.getElem_toArray, List.getElem_cons_zero, List.getElem_cons_succ, List.setIfInBounds_toArray, List.set_cons_zero, List.set_cons_succ]
              refine anyX_ready (rs := [12]) (by kernel_rfl) (by simp) ?_
              refine ReadyX.cons rfl (fun K hK => ?_) (ReadyX.nil)
              go_simp
              have HS7 := hid (HS6.out.trans (Turn.alloc (fun j => j = bp ∨ j = w3.heap.size) (w5.setCell ⟨w3.heap.size, 1, none⟩ (sv sx)) (.cells #[.int .i64 k4, sv s4, .int .i64 n4, .int .i64 l4, .int .i64 o4, .slice A14 n14 c14, .slice A24 n24 c24, .slice A34 n34 c34, .int .i64 k5, sv s5, .int .i64 n5, .int .i64 l5, .int .i64 o5, .slice A15 n15 c15, .slice A25 n25 c25, .slice A35 n35 c35] 49)) (fun _ _ h => h))
              refine hK.out _ _ HS7.out ?_
              clear hK K
              try simp only [Act.put, List.getElem_toArray, List.getElem_cons_zero, List.getElem_cons_succ, List.setIfInBounds_toArray, List.set_cons_zero, List.set_cons_succ]
              refine tx 15 (.pointer (some ⟨w3.heap.size, 7, none⟩)) HS7.out ?_
              refine anyX_ready (rs := [16]) (by kernel_rfl) (by simp) ?_
              refine ReadyX.past rfl (by kernel_rfl) (fun K hK => ?_) (ReadyX.nil)
              go_simp
              refine hK.out _ _ ?_
              clear hK K
              try simp only [Act.put, List.getElem_toArray, List.getElem_cons_zero, List.getElem_cons_succ, List.setIfInBounds_toArray, List.set_cons_zero, List.set_cons_succ]
              refine anyX_done (by kernel_rfl) ?_ _
              obtain ⟨t8, hp8, hn8⟩ := pair_set (nb := w3.heap.size) (c1 := 1) (c2 := 7) (v1 := sv sx) (v2 := (.slice (some ⟨w5.heap.size, 0, none⟩) 2 2)) (P := #[.int .i64 k4, sv s4, .int .i64 n4, .int .i64 l4, .int .i64 o4, .slice A14 n14 c14, .slice A24 n24 c24, .slice A34 n34 c34, .int .i64 k5, sv s5, .int .i64 n5, .int .i64 l5, .int .i64 o5, .slice A15 n15 c15, .slice A25 n25 c25, .slice A35 n35 c35]) (T := 49) HNB5.out (((w5.setCell ⟨w3.heap.size, 1, none⟩ (sv sx)).setCell ⟨w3.heap.size, 7, none⟩ (.slice (some ⟨w5.heap.size, 0, none⟩) 2 2)).alloc (.cells #[.int .i64 k4, sv s4, .int .i64 n4, .int .i64 l4, .int .i64 o4, .slice A14 n14 c14, .slice A24 n24 c24, .slice A34 n34 c34, .int .i64 k5, sv s5, .int .i64 n5, .int .i64 l5, .int .i64 o5, .slice A15 n15 c15, .slice A25 n25 c25, .slice A35 n35 c35] 49)) rfl
              have hk8 := HRI5.out.tk.turn t8 (by omega) (fun k hk e => by have := HRI5.out.tk.1; omega)
              have HP8 := hid (slG_blk hp8 8 2 rfl (by omega))
              have HA8 := hid (HN5.out.turn t8 (fun g hg h e => by have := h.2; omega))
              have hz8 := block_turn HZB5.out t8 (by omega)
              have HRI8 : Hid (RankI w bp B w2.heap.size d (.slice (some ⟨bb2, 0, none⟩) 6 6) _ a r5) := hid ⟨HRI5.out.turn.trans t8 (fun i hi e => by omega), hk8, block_turn HRI5.out.res t8 (by omega), HRI5.out.rk.turn t8 (fun g hg h e => by have := h.2; omega), _, hz8, HA8.out.mono (fun g _ h => h.1)⟩
              have HX8 := hid (HZ5.out.turn t8 (fun g _ h e => by have := h.1; omega))
              have HNB8 := hid hn8
              have hs8 := t8.size
              obtain ⟨W8, hW8⟩ : ∃ W8, (((w5.setCell ⟨w3.heap.size, 1, none⟩ (sv sx)).setCell ⟨w3.heap.size, 7, none⟩ (.slice (some ⟨w5.heap.size, 0, none⟩) 2 2)).alloc (.cells #[.int .i64 k4, sv s4, .int .i64 n4, .int .i64 l4, .int .i64 o4, .slice A14 n14 c14, .slice A24 n24 c24, .slice A34 n34 c34, .int .i64 k5, sv s5, .int .i64 n5, .int .i64 l5, .int .i64 o5, .slice A15 n15 c15, .slice A25 n25 c25, .slice A35 n35 c35] 49)) = W8 := ⟨_, rfl⟩
              rw [hW8] at HRI8 HP8 HA8 HX8 HNB8 hs8 hz8
              have HW8 := hid hW8
              have q8 := cells8 (show W8.heap[w3.heap.size]? = some (.cells #[.int .i64 14, sv sx, .int .i64 0, .int .i64 (t.line : Nat), .int .i64 (t.col : Nat), .slice none 0 0, .slice none 0 0, (.slice (some ⟨w5.heap.size, 0, none⟩) 2 2)] 49 (0, 0)) from HNB8.out)
              obtain ⟨f0, f1, f2, f3, f4, f5, f6, f7, fz⟩ := q8
              obtain ⟨e0, e1, e2, e3, e4, e5, e6, e7, ez⟩ := cells8 hz8
              have HZ8 := hid hz8
              clear t8 hp8 hn8 hk8 hW8 hz8 m0 m1 m2 m3 m4 m5 m6 m7 mz
              rw [HW8.out]
              go_wp2_with fail
              have tF := put8_turn W8 w2.heap.size (.int .i64 14) (sv sx) (.int .i64 0) (.int .i64 (t.line : Nat)) (.int .i64 (t.col : Nat)) (.slice none 0 0) (.slice none 0 0) (.slice (some ⟨w5.heap.size, 0, none⟩) 2 2)
              have hrF : RankI w bp B w2.heap.size d (.slice (some ⟨bb2, 0, none⟩) 6 6) (put8 W8 w2.heap.size (.int .i64 14) (sv sx) (.int .i64 0) (.int .i64 (t.line : Nat)) (.int .i64 (t.col : Nat)) (.slice none 0 0) (.slice none 0 0) (.slice (some ⟨w5.heap.size, 0, none⟩) 2 2)) (nodeD 14 sx 0 t [] [] [a, x5]) r5 := by
                have hwx := HRI8.out.turn.size
                refine ⟨new_turn8 HRI8.out.turn (by omega), HRI8.out.tk.put8_ (by omega), block_turn HRI8.out.res tF (by omega), HRI8.out.rk.turn tF (fun g _ h e => by have := h.2; omega), _, put8_block HZ8.out _ _ _ _ _ _ _ _, ?_⟩
                exact .mk (SlG.nil _ _ _) .nil (SlG.nil _ _ _) ((HP8.out.turn tF (fun g _ h e => by omega)).mono (fun g _ h => by omega)) (.cons ((HA8.out.turn tF (fun g _ h e => by have := h.1.2.2; omega)).mono (fun g _ h => h.1)) (.cons ((HX8.out.turn tF (fun g _ h e => by have := h.1; omega)).mono (fun g _ h => by have := h.1; omega)) .nil))
              go_roundw
              case rel => exact ⟨f, _, r5, HQ6.out, by have := HLE.out; have := HLESS.out; have := HF.out; omega, hrF⟩
              case measure => rw [hrF.tk.left, HLEN.out]; have := HLE.out; have := HLESS.out; omega
end Go.Proofs.YtmbppnbekkbibaaGreatDoor
end
section
/- The contract of compare. -/
set_option linter.unusedVariables false
namespace Go.Proofs.YtmbppnbekkbibaaGreatDoor
open Go.RowKit

theorem pno_one (k : Int) (s : Bt) (a b c : Int) (A1 A2 A3 : Option Addr) (n1 c1 n2 c2 n3 c3 : Nat) : ∀ u ∈ #[Value.int .i64 k, sv s, .int .i64 a, .int .i64 b, .int .i64 c, .slice A1 n1 c1, .slice A2 n2 c2, .slice A3 n3 c3].toList, u.oneCell' = true := by
  intro u hu
  simp only [List.mem_cons, List.not_mem_nil, or_false] at hu
  rcases hu with rfl | rfl | rfl | rfl | rfl | rfl | rfl | rfl <;> rfl
theorem own_blk {w : World} {b k : Nat} {e : TypeId} {cs : Array Value} (h : w.heap[b]? = some (.cells cs e (0, 0))) (hs : cs.size = k) : w.ownsRow b e k (.slice (some ⟨b, 0, none⟩) 1 1) 1 cs.toList :=
  ⟨by simp; omega, .inr ⟨b, 1, cs, rfl, Nat.le_refl _, h, Nat.le_refl _, by decide, by omega, by rw [Nat.one_mul, ← hs]; exact List.take_of_length_le (by simp)⟩⟩
set_option maxRecDepth 100000 in
set_option maxHeartbeats 8000000 in
theorem cmp_any (d : Int) (typ : Ps TyD) (HTY : TypC d typ) (sub : Ps NoD) (hsf : Sf sub) (HS : RankC d 3 sub) : CmpC d (cmpP typ sub) := by
  intro w bp B ts h
  have hlt := h.lt
  have hB := h.1
  obtain ⟨Q, hQ⟩ : ∃ Q, cmpP typ sub ts = Q := ⟨_, rfl⟩
  rw [hQ]
  have HQ : Hid (thenP sub (fun a => thenP hereP fun t0 => thenP (takeP cmpsL) (fun i => match i with | none => retP a | some i => if i = 3 then thenP (takeP tagsL) fun t => match t with | some t => retP (nodeD 12 [] t t0 [] [] [a]) | none => failP 7 else if i = 4 then thenP typ fun t => retP (nodeD 13 [] 0 t0 [t] [] [a]) else thenP sub fun b => retP (nodeD 14 (cmpsL.getD i []) 0 t0 [] [] [a, b]))) ts = Q) := hid hQ
  have HC := hid (HS (w.alloc (.cells #[.int .i64 0, .string ⟨#[]⟩, .int .i64 0, .int .i64 0, .int .i64 0, .slice none 0 0, .slice none 0 0, .slice none 0 0] 49)) bp B ts (h.below (new1 _ _)))
  clear h hQ
  go_enter Tryz.func143, Tryz.ntmps143
  go_wp2_with fail
  refine (HC.out).mono ?_
  rintro e w1 h1
  rcases hq : sub ts with g | ⟨a, r1⟩
  · obtain ⟨rfl, tn, bn⟩ := h1.bad_ hq
    have tn := (after1 tn).1
    have HB := hid (BadP.mk2 tn bn)
    have HQB := hid (HQ.out.symm.trans (thenP_bad hq))
    clear h1 tn bn hq
    go_wp2_with fail
    exact ⟨rfl, ReadsP.fail HQB.out HB.out⟩
  · obtain ⟨v1, rfl, tn, ⟨z1, rfl, hz⟩, kn⟩ := h1.good_ hq
    obtain ⟨k1, s1, n1, l1, o1, A11, n11, c11, A21, n21, c21, A31, n31, c31, rfl⟩ := hz.shape'
    obtain ⟨tm, hs1, hrs⟩ := after1 tn
    have HT1 := hid tm
    have HK1 := hid kn
    have HZ1 := hid (hz.iv.mono (G := Iv (w.heap.size + 1) w1.heap.size) (fun g _ h => ⟨by have h := h.1; simp at h; exact h, h.2⟩))
    have HRS1 := hid (hrs (by omega))
    obtain ⟨t0, ht0⟩ : ∃ t0, nextP r1 = t0 := ⟨_, rfl⟩
    have HQ1 : Hid (thenP (takeP cmpsL) (fun i => match i with | none => retP a | some i => if i = 3 then thenP (takeP tagsL) fun t => match t with | some t => retP (nodeD 12 [] t t0 [] [] [a]) | none => failP 7 else if i = 4 then thenP typ fun t => retP (nodeD 13 [] 0 t0 [t] [] [a]) else thenP sub fun b => retP (nodeD 14 (cmpsL.getD i []) 0 t0 [] [] [a, b])) r1 = Q) := hid (by subst ht0; exact (thenP_good hq).symm.trans HQ.out)
    have HH := hid (here_any d (w1.alloc (.cells #[.int .i64 k1, sv s1, .int .i64 n1, .int .i64 l1, .int .i64 o1, .slice A11 n11 c11, .slice A21 n21 c21, .slice A31 n31 c31] 49)) bp B r1 (kn.below (new1 _ _)) 14)
    rw [ht0] at HH
    have hab1 := at1 w1 (.cells #[.int .i64 k1, sv s1, .int .i64 n1, .int .i64 l1, .int .i64 o1, .slice A11 n11 c11, .slice A21 n21 c21, .slice A31 n31 c31] 49)
    obtain ⟨a0, a1, a2, a3, a4, a5, a6, a7, az⟩ := cells8 hab1
    clear h1 tn tm hz kn hrs hq ht0
    go_wp2_with fail
    refine (HH.out).mono ?_
    rintro e w2 ⟨rfl, hb2⟩
    obtain ⟨tm, hs2, hab2⟩ := after1 (Turn.of_below (F := fun k => k = bp) hb2)
    have HT2 := hid (turn_bp HT1.out tm)
    have HK2 := hid ((HK1.out.below (new1 _ _)).below hb2)
    have HAB2 := hid (hab2 (by omega))
    have HRS2 := hid (block_turn HRS1.out tm (by omega))
    have HZ2 := hid (HZ1.out.turn tm (fun g _ h e => by have := h.1; omega))
    have e2 := hab2 (by omega)
    have hl12 := block_lt e2
    have hnr1 : ¬ w2.heap.size = w.heap.size := by omega
    have hnr2 : ¬ w.heap.size = w2.heap.size := by omega
    obtain ⟨b0, b1, b2, b3, b4, b5, b6, b7, bz⟩ := cells8 e2
    clear hb2 tm hab2 e2 hab1 a0 a1 a2 a3 a4 a5 a6 a7 az
    have HTK := hid (take_any (((w2.alloc (.cells #[.int .i64 14, .string ⟨#[]⟩, .int .i64 0, .int .i64 (t0.line : Nat), .int .i64 (t0.col : Nat), .slice none 0 0, .slice none 0 0, (.slice (some ⟨w2.heap.size + 1, 0, none⟩) 1 1)] 49)).alloc (.cells #[.int .i64 k1, sv s1, .int .i64 n1, .int .i64 l1, .int .i64 o1, .slice A11 n11 c11, .slice A21 n21 c21, .slice A31 n31 c31] 49)).alloc (.cells #[.string ⟨#[60]⟩, .string ⟨#[60, 61]⟩, .string ⟨#[61, 61]⟩, .string ⟨#[105, 115]⟩, .string ⟨#[97, 115]⟩] 9)) bp B r1 d (HK2.out.below (new3 _ _ _ _)) (.slice (some ⟨w2.heap.size + 1 + 1, 0, none⟩) 5 5) cmpsL (ss_lit _ (w2.heap.size + 1 + 1) (by simp) cmpsL #[.string ⟨#[60]⟩, .string ⟨#[60, 61]⟩, .string ⟨#[61, 61]⟩, .string ⟨#[105, 115]⟩, .string ⟨#[97, 115]⟩] 9 5 rfl rfl (by decide)) (by decide))
    go_wp2_with fail
    refine (HTK.out).mono ?_
    rintro e w3 h3
    rcases hq : takeP cmpsL r1 with g | ⟨o, r3⟩
    · exact (takeP_good hq).elim
    · obtain ⟨v3, rfl, tn, rfl, kn⟩ := h3.good_ hq
      obtain ⟨tm, hs3, hnb3, hpb3, hsb3⟩ := after3 tn
      have HT3 := hid (turn_bp HT2.out tm)
      have HK3 := hid kn
      have HNB3 := hid (hnb3 (by omega))
      have HPB3 := hid (hpb3 (by omega))
      have HSB3 := hid (hsb3 (by omega))
      have HAB3 := hid (block_turn HAB2.out tm (by omega))
      have HRS3 := hid (block_turn HRS2.out tm (by omega))
      have HZ3 := hid (HZ2.out.turn tm (fun g _ h e => by have := h.1; omega))
      have HQ3 := hid hq
      clear h3 tn tm kn hnb3 hpb3 hsb3 hq b0 b1 b2 b3 b4 b5 b6 b7 bz
      rcases o with _ | i
      · have HQ4 : Hid (Pr.good a r3 = Q) := hid ((thenP_good HQ3.out).symm.trans HQ1.out)
        obtain ⟨e0, e1, e2, e3, e4, e5, e6, e7, ez⟩ := cells8 HAB3.out
        obtain ⟨c0, c1, c2, c3, c4, c5, c6, c7, cz⟩ := cells8 HRS3.out
        go_wp2_with fail
        refine bodyPost_ret (res_cell rfl rfl (put8_block HRS3.out _ _ _ _ _ _ _ _) Tryz.underlying49 rfl (by kernel_rfl)) rfl ?_
        exact ReadsP.done HQ4.out.symm (new_turn8 HT3.out (by omega)) ⟨_, rfl, (HZ3.out.turn (put8_turn _ _ _ _ _ _ _ _ _ _) (fun g _ h e => by have := h.1; omega)).mono (fun g _ h => by have := h.1; omega)⟩ (HK3.out.put8_ (by omega))
      · have hi := takeP_lt HQ3.out
        simp only [cmpsL, List.length_cons, List.length_nil] at hi
        have hsc := fun j => cell_of_row w3 _ j _ _ _ HSB3.out
        by_cases h3 : i = 3
        · subst h3
          have s3 := (hsc 3).trans rfl
          have HQ4 : Hid (thenP (takeP tagsL) (fun t => match t with | some t => retP (nodeD 12 [] t t0 [] [] [a]) | none => failP 7) r3 = Q) := hid ((thenP_good HQ3.out).symm.trans HQ1.out)
          have t4 := turn_set w3 w2.heap.size 0 (.int .i64 12)
          have hk4 := HK3.out.turn t4 (by omega) (fun k hk e => by have := HK3.out.1; omega)
          have HC4 := hid (take_lit (w3.setCell ⟨w2.heap.size, 0, none⟩ (.int .i64 12)) bp B r3 d hk4 tagsL #[.string ⟨#[110, 117, 108, 108]⟩, .string ⟨#[98, 111, 111, 108]⟩, .string ⟨#[105, 110, 116]⟩, .string ⟨#[115, 116, 114]⟩, .string ⟨#[114, 101, 99, 111, 114, 100]⟩, .string ⟨#[102, 117, 110, 99, 116, 105, 111, 110]⟩] 9 6 w3.heap.size)
          have HF := hid (fun (w1 : World) (ts1 : List TokD) (h1 : TkAt w1 bp B ts1 d) => fails_any w1 bp B ts1 d 7 h1)
          obtain ⟨n0, n1', n2, n3, n4, n5, n6, n7, nz⟩ := cells8 HNB3.out
          have HNB4 := hid (heap_setCell_same _ _ 0 _ _ (.int .i64 12) HNB3.out)
          have HPB4 := hid (block_turn HPB3.out t4 (by omega))
          have HRS4 := hid (block_turn HRS3.out t4 (by omega))
          have HZ4 := hid (HZ3.out.turn t4 (fun g _ h e => by have := h.2; omega))
          have HT4 := hid (HT3.out.trans t4 (fun i hi e => by omega))
          clear hsc t4 hk4
          go_wp2_with fail
          refine (HC4.out).mono ?_
          rintro e w5 h5
          rcases hq : takeP tagsL r3 with g | ⟨o, r5⟩
          · exact (takeP_good hq).elim
          · obtain ⟨v5, rfl, tn, rfl, kn⟩ := h5.good_ hq
            have hs5 := tn.size
            simp at hs5
            have HT5 := hid (turn_bp HT4.out tn)
            have HK5 := hid kn
            have hnb5 := block_turn HNB4.out tn (by omega)
            have HNB5 := hid hnb5
            have HPB5 := hid (block_turn HPB4.out tn (by omega))
            have HRS5 := hid (block_turn HRS4.out tn (by omega))
            have HZ5 := hid (HZ4.out.turn tn (fun g _ h e => by have := h.1; omega))
            have HQ5 := hid hq
            obtain ⟨m0, m1, m2, m3, m4, m5, m6, m7, mz⟩ := cells8 (show w5.heap[w2.heap.size]? = some (.cells #[.int .i64 12, .string ⟨#[]⟩, .int .i64 0, .int .i64 (t0.line : Nat), .int .i64 (t0.col : Nat), .slice none 0 0, .slice none 0 0, (.slice (some ⟨w2.heap.size + 1, 0, none⟩) 1 1)] 49 (0, 0)) from hnb5)
            clear h5 tn kn hq hnb5 n0 n1' n2 n3 n4 n5 n6 n7 nz s3
            rcases o with _ | j
            · have HQ6 : Hid (failP 7 r5 = Q) := hid ((thenP_good HQ5.out).symm.trans HQ4.out)
              have t6 := turn_set w5 w2.heap.size 2 (.int .i64 0)
              have hk6 := HK5.out.turn t6 (by omega) (fun k hk e => by have := HK5.out.1; omega)
              have HF6 := hid (HF.out _ _ hk6)
              have HT6 := hid (HT5.out.trans t6 (fun i hi e => by omega))
              have HBP6 := hid hk6.bp
              clear t6 hk6
              go_wp2_with fail
              refine (HF6.out).mono ?_
              rintro e w7 ⟨rfl, hb7⟩
              have HB := hid (BadP.below HT6.out HBP6.out hb7)
              clear hb7
              go_wp2_with fail
              exact ⟨rfl, ReadsP.fail (HQ6.out.symm.trans rfl) HB.out⟩
            · have HQ6 : Hid (Pr.good (nodeD 12 [] (j : Int) t0 [] [] [a]) r5 = Q) := hid ((thenP_good HQ5.out).symm.trans HQ4.out)
              have t6 := turn_set w5 w2.heap.size 2 (.int .i64 (j : Int))
              have HNB6 := hid (show (w5.setCell ⟨w2.heap.size, 2, none⟩ (.int .i64 (j : Int))).heap[w2.heap.size]? = some (.cells #[.int .i64 12, .string ⟨#[]⟩, .int .i64 (j : Int), .int .i64 (t0.line : Nat), .int .i64 (t0.col : Nat), .slice none 0 0, .slice none 0 0, (.slice (some ⟨w2.heap.size + 1, 0, none⟩) 1 1)] 49 (0, 0)) from heap_setCell_same _ _ 2 _ _ (.int .i64 (j : Int)) HNB5.out)
              have HK6 := hid (HK5.out.turn t6 (by omega) (fun k hk e => by have := HK5.out.1; omega))
              have HPB6 := hid (slG_blk (block_turn HPB5.out t6 (by omega)) 8 1 rfl (by omega))
              have HRS6 := hid (block_turn HRS5.out t6 (by omega))
              have HZ6 := hid (HZ5.out.turn t6 (fun g _ h e => by have := h.2; omega))
              have HT6 := hid (HT5.out.trans t6 (fun i hi e => by omega))
              obtain ⟨c0, c1, c2, c3, c4, c5, c6, c7, cz⟩ := cells8 HRS5.out
              clear t6
              go_wp2_with fail
              have tF := put8_turn (w5.setCell ⟨w2.heap.size, 2, none⟩ (.int .i64 (j : Int))) w.heap.size (.int .i64 12) (.string ⟨#[]⟩) (.int .i64 (j : Int)) (.int .i64 (t0.line : Nat)) (.int .i64 (t0.col : Nat)) (.slice none 0 0) (.slice none 0 0) (.slice (some ⟨w2.heap.size + 1, 0, none⟩) 1 1)
              refine bodyPost_ret (res_cell rfl rfl (put8_block HRS6.out _ _ _ _ _ _ _ _) Tryz.underlying49 rfl (by kernel_rfl)) rfl ?_
              exact ReadsP.done HQ6.out.symm (new_turn8 HT6.out (by omega)) ⟨_, rfl, .mk (SlG.nil _ _ _) .nil (SlG.nil _ _ _) ((HPB6.out.turn tF (fun g _ h e => by omega)).mono (fun g _ h => by omega)) (.cons ((HZ6.out.turn tF (fun g _ h e => by have := h.1; omega)).mono (fun g _ h => by have := h.1; omega)) .nil)⟩ (HK6.out.put8_ (by omega))
        · have hb3 : ((i : Int) == 3) = false := by simp; omega
          by_cases h4 : i = 4
          · subst h4
            have s3 := (hsc 4).trans rfl
            have HQ4 : Hid (thenP typ (fun t => retP (nodeD 13 [] 0 t0 [t] [] [a])) r3 = Q) := hid ((thenP_good HQ3.out).symm.trans HQ1.out)
            have HC4 := hid (HTY w3 bp B r3 HK3.out)
            clear hsc
            go_wp2_with fail
            refine (HC4.out).mono ?_
            rintro e w5 h5
            rcases hq : typ r3 with g | ⟨t, r5⟩
            · obtain ⟨rfl, tn, bn⟩ := h5.bad_ hq
              have HB := hid (BadP.mk2 (turn_bp HT3.out tn) bn)
              have HQB := hid (HQ4.out.symm.trans (thenP_bad hq))
              clear h5 tn bn hq
              go_wp2_with fail
              exact ⟨rfl, ReadsP.fail HQB.out HB.out⟩
            · obtain ⟨v5, rfl, tn, ⟨z5, rfl, hz5⟩, kn⟩ := h5.good_ hq
              obtain ⟨k5, s5, A15, n15, c15, A25, n25, c25, rfl⟩ := hz5.shape'
              have hs5 := tn.size
              have HT5 := hid (turn_bp HT3.out tn)
              have HK5 := hid kn
              have hnb5 := block_turn HNB3.out tn (by omega)
              have HNB5 := hid hnb5
              have HPB5 := hid (block_turn HPB3.out tn (by omega))
              have HRS5 := hid (block_turn HRS3.out tn (by omega))
              have HZ5 := hid (HZ3.out.turn tn (fun g _ h e => by have := h.1; omega))
              have HY5 := hid (hz5.iv)
              have HQ5 : Hid (Pr.good (nodeD 13 [] 0 t0 [t] [] [a]) r5 = Q) := hid ((thenP_good hq).symm.trans HQ4.out)
              obtain ⟨m0, m1, m2, m3, m4, m5, m6, m7, mz⟩ := cells8 hnb5
              have hnl5 := block_lt hnb5
              have hrl5 := block_lt HRS5.out
              clear h5 tn hz5 kn hq hnb5 s3
              obtain ⟨c0, c1, c2, c3, c4, c5, c6, c7, cz⟩ := cells8 HRS5.out
              go_wp2_with fail
              have tV := (turn_set w5 w2.heap.size 0 (.int .i64 13)).trans (turn_set _ w2.heap.size 5 (.slice (some ⟨w5.heap.size, 0, none⟩) 1 1)) (fun _ _ h => h)
              have hrV := block_turn HRS5.out tV (by omega)
              have tP := put8_turn ((w5.setCell ⟨w2.heap.size, 0, none⟩ (.int .i64 13)).setCell ⟨w2.heap.size, 5, none⟩ (.slice (some ⟨w5.heap.size, 0, none⟩) 1 1)) w.heap.size (.int .i64 13) (.string ⟨#[]⟩) (.int .i64 0) (.int .i64 (t0.line : Nat)) (.int .i64 (t0.col : Nat)) (.slice (some ⟨w5.heap.size, 0, none⟩) 1 1) (.slice none 0 0) (.slice (some ⟨w2.heap.size + 1, 0, none⟩) 1 1)
              have hrP := put8_block hrV (.int .i64 13) (.string ⟨#[]⟩) (.int .i64 0) (.int .i64 (t0.line : Nat)) (.int .i64 (t0.col : Nat)) (.slice (some ⟨w5.heap.size, 0, none⟩) 1 1) (.slice none 0 0) (.slice (some ⟨w2.heap.size + 1, 0, none⟩) 1 1)
              have hsz : (put8 ((w5.setCell ⟨w2.heap.size, 0, none⟩ (.int .i64 13)).setCell ⟨w2.heap.size, 5, none⟩ (.slice (some ⟨w5.heap.size, 0, none⟩) 1 1)) w.heap.size (.int .i64 13) (.string ⟨#[]⟩) (.int .i64 0) (.int .i64 (t0.line : Nat)) (.int .i64 (t0.col : Nat)) (.slice (some ⟨w5.heap.size, 0, none⟩) 1 1) (.slice none 0 0) (.slice (some ⟨w2.heap.size + 1, 0, none⟩) 1 1)).heap.size = w5.heap.size := by simp
              have t7 : Turn (fun k => k = w2.heap.size ∨ k = w.heap.size) w5 _ := (tV.mono (G := fun k => k = w2.heap.size ∨ k = w.heap.size) fun _ _ h => .inl h).trans tP (fun _ _ h => .inr h)
              have hA := at1 (put8 ((w5.setCell ⟨w2.heap.size, 0, none⟩ (.int .i64 13)).setCell ⟨w2.heap.size, 5, none⟩ (.slice (some ⟨w5.heap.size, 0, none⟩) 1 1)) w.heap.size (.int .i64 13) (.string ⟨#[]⟩) (.int .i64 0) (.int .i64 (t0.line : Nat)) (.int .i64 (t0.col : Nat)) (.slice (some ⟨w5.heap.size, 0, none⟩) 1 1) (.slice none 0 0) (.slice (some ⟨w2.heap.size + 1, 0, none⟩) 1 1)) (.cells #[.int .i64 k5, sv s5, .slice A15 n15 c15, .slice A25 n25 c25] 63)
              rw [hsz] at hA
              have tA := Turn.alloc (fun k => k = w2.heap.size ∨ k = w.heap.size) (put8 ((w5.setCell ⟨w2.heap.size, 0, none⟩ (.int .i64 13)).setCell ⟨w2.heap.size, 5, none⟩ (.slice (some ⟨w5.heap.size, 0, none⟩) 1 1)) w.heap.size (.int .i64 13) (.string ⟨#[]⟩) (.int .i64 0) (.int .i64 (t0.line : Nat)) (.int .i64 (t0.col : Nat)) (.slice (some ⟨w5.heap.size, 0, none⟩) 1 1) (.slice none 0 0) (.slice (some ⟨w2.heap.size + 1, 0, none⟩) 1 1)) (.cells #[.int .i64 k5, sv s5, .slice A15 n15 c15, .slice A25 n25 c25] 63)
              have t8 := t7.trans tA (fun _ _ h => h)
              have hTA := slG_blk hA 4 1 rfl (by omega)
              have hPA := slG_blk (block_turn HPB5.out t8 (by omega)) 8 1 rfl (by omega)
              refine bodyPost_ret (res_cell rfl rfl (keep_alloc hrP) Tryz.underlying49 rfl (by kernel_rfl)) rfl ?_
              exact ReadsP.done HQ5.out.symm (HT5.out.trans t8 (fun i hi e => by omega)) ⟨_, rfl, .mk (hTA.mono (fun g _ h => by omega)) (.cons ((HY5.out.turn t8 (fun g _ h e => by have := h.1; omega)).mono (fun g _ h => by have := h.1; omega)) .nil) (SlG.nil _ _ _) (hPA.mono (fun g _ h => by omega)) (.cons ((HZ5.out.turn t8 (fun g _ h e => by have := h.1; have := h.2; omega)).mono (fun g _ h => by have := h.1; omega)) .nil)⟩ (HK5.out.turn t8 (by omega) (fun k hk e => by have := HK5.out.1; omega))
          · have hi3 : i < 3 := by omega
            obtain ⟨sx, hsx, hs0, hne3, hne4⟩ : ∃ sx, cmpsL.getD i [] = sx ∧ w3.cell? ⟨w2.heap.size + 1 + 1, i, none⟩ = some (sv sx) ∧ (sx == [105, 115]) = false ∧ (sx == [97, 115]) = false := by
              obtain rfl | rfl | rfl : i = 0 ∨ i = 1 ∨ i = 2 := by omega
              · exact ⟨_, rfl, (hsc 0).trans rfl, rfl, rfl⟩
              · exact ⟨_, rfl, (hsc 1).trans rfl, rfl, rfl⟩
              · exact ⟨_, rfl, (hsc 2).trans rfl, rfl, rfl⟩
            have HQ4 : Hid (thenP sub (fun b => retP (nodeD 14 sx 0 t0 [] [] [a, b])) r3 = Q) := hid (by
              have := (thenP_good HQ3.out).symm.trans HQ1.out
              simp only [h3, h4, if_false, hsx] at this
              exact this)
            have hiI : (i : Int) < 5 := by omega
            have HW := hid hs0
            have k7 := (cell_of_row w3 _ 7 _ _ _ HNB3.out).trans rfl
            have PS := hid (fun (w' : World) (h : Turn (fun j => j = bp ∨ w2.heap.size + 1 + 1 < j ∨ j = w2.heap.size + 1) w3 w') => tcell hs0 h (by omega))
            have PK := hid (fun (w' : World) (h : Turn (fun j => j = bp ∨ w2.heap.size + 1 + 1 < j ∨ j = w2.heap.size + 1) w3 w') => tcell k7 h (by omega))
            have HE0 : Hid (Turn (fun j => j = bp ∨ w2.heap.size + 1 + 1 < j ∨ j = w2.heap.size + 1) w3 w3.drew) := hid ⟨rfl, rfl, rfl, Nat.le_refl _, fun _ _ _ => rfl⟩
            have HEB : Hid (Turn (fun j => j = bp) w3 w3.drew) := hid ⟨rfl, rfl, rfl, Nat.le_refl _, fun _ _ _ => rfl⟩
            have HSC := hid (HS w3.drew bp B r3 HK3.out)
            clear hsc hsx k7 h3 h4
            go_wp2_with fail
            refine region_x (S := fun w' => Turn (fun j => j = bp ∨ w2.heap.size + 1 + 1 < j ∨ j = w2.heap.size + 1) w3 w') (x := 11) (by kernel_rfl) ?_
            try simp only [Act.put, List.getElem_toArray, List.getElem_cons_zero, List.getElem_cons_succ, List.setIfInBounds_toArray, List.set_cons_zero, List.set_cons_succ]
            refine tx 0 (.slice (some ⟨w2.heap.size + 1 + 1, 0, none⟩) 5 5) HE0.out ?_
            refine tx 1 (.int .i64 (i : Int)) HE0.out ?_
            refine tx 2 (.pointer (some ⟨w2.heap.size + 1 + 1, i, none⟩)) HE0.out ?_
            refine txf 3 (sv sx) PS.out HE0.out ?_
            refine tx 4 (.pointer (some ⟨w2.heap.size, 7, none⟩)) HE0.out ?_
            refine txf 5 (.slice (some ⟨w2.heap.size + 1, 0, none⟩) 1 1) PK.out HE0.out ?_
            refine tt 6 (.pointer (some ⟨bp, 0, none⟩)) (fun _ => HE0.out) ?_
            refine tx 10 (.pointer (some ⟨w2.heap.size, 1, none⟩)) HE0.out ?_
            refine anyX_ready (rs := [7]) (by kernel_rfl) (by simp) ?_
            refine ReadyX.cons rfl (fun K hK => ?_) (ReadyX.nil)
            go_simp
            refine (HSC.out).mono ?_
            rintro e w5 h5
            rcases hq : sub r3 with g | ⟨x5, r5⟩
            · obtain ⟨rfl, tn, bn⟩ := h5.bad_ hq
              have HB := hid (BadP.mk2 (turn_bp HT3.out (turn_bp HEB.out tn)) bn)
              have HQB := hid (HQ4.out.symm.trans (thenP_bad hq))
              exact ⟨rfl, ReadsP.fail HQB.out HB.out⟩
            · obtain ⟨v5, rfl, tn, ⟨z5, rfl, hz5⟩, kn⟩ := h5.good_ hq
              obtain ⟨k5, s5, n5, l5, o5, A15, n15, c15, A25, n25, c25, A35, n35, c35, rfl⟩ := hz5.shape'
              have HT35 := hid (turn_bp HEB.out tn)
              have hs5 := HT35.out.size
              have HS5 := hid (HT35.out.mono (G := fun j => j = bp ∨ w2.heap.size + 1 + 1 < j ∨ j = w2.heap.size + 1) (fun _ _ h => .inl h))
              have HT5 := hid (turn_bp HT3.out HT35.out)
              have HK5 := hid kn
              have HZ5 := hid (hz5.mono (G := fun j => w3.heap.size ≤ j) (fun g _ h => h))
              have HRS5 := hid (block_turn HRS3.out HT35.out (by omega))
              have HNB5 := hid (block_turn HNB3.out HT35.out (by omega))
              have HQ5 : Hid (Pr.good (nodeD 14 sx 0 t0 [] [] [a, x5]) r5 = Q) := hid ((thenP_good hq).symm.trans HQ4.out)
              have HY := hid (own_blk HPB3.out (k := 8) rfl)
              have HR := hid (trow1 (R := NoG w3 (NewB (fun j => w.heap.size < j ∧ j ≠ w2.heap.size) (.slice (some ⟨w2.heap.size + 1, 0, none⟩) 1 1))) (k := 8) rfl (HZ3.out.mono (fun g _ h => ⟨fun e => by injection e with e; have := h.2; simp at e; omega, by have := h.1; omega, by have := h.2; omega⟩)))
              have HY5 := hid (own_turn HY.out HT35.out (fun g hg e => by injection hg with hg; simp at hg; omega))
              clear h5 tn hz5 kn hq
              refine hK.out _ _ HS5.out ?_
              clear hK K
              try simp only [Act.put, List.getElem_toArray, List.getElem_cons_zero, List.getElem_cons_succ, List.setIfInBounds_toArray, List.set_cons_zero, List.set_cons_succ]
              refine anyX_ready (rs := [8]) (by kernel_rfl) (by simp) ?_
              refine ReadyX.cons rfl (fun K hK => ?_) (ReadyX.nil)
              go_simp
              have HS6 := hid (HS5.out.trans (Turn.alloc (fun j => j = bp ∨ w2.heap.size + 1 + 1 < j ∨ j = w2.heap.size + 1) w5 (.cells #[.int .i64 k5, sv s5, .int .i64 n5, .int .i64 l5, .int .i64 o5, .slice A15 n15 c15, .slice A25 n25 c25, .slice A35 n35 c35] 49)) (fun _ _ h => h))
              refine hK.out _ _ HS6.out ?_
              clear hK K
              try simp only [Act.put, List.getElem_toArray, List.getElem_cons_zero, List.getElem_cons_succ, List.setIfInBounds_toArray, List.set_cons_zero, List.set_cons_succ]
              refine anyX_ready (rs := [9]) (by kernel_rfl) (by simp) ?_
              refine ReadyX.cons rfl (fun K hK => ?_) (ReadyX.nil)
              refine step_app rfl (.tmp 36) (.tmp 39) _ rfl (w2.heap.size + 1) el_no (.slice (some ⟨w2.heap.size + 1, 0, none⟩) 1 1) _ rfl rfl (HY5.out.alloc (.cells #[.int .i64 k5, sv s5, .int .i64 n5, .int .i64 l5, .int .i64 o5, .slice A15 n15 c15, .slice A25 n25 c25, .slice A35 n35 c35] 49)) (sl_new w5 #[.int .i64 k5, sv s5, .int .i64 n5, .int .i64 l5, .int .i64 o5, .slice A15 n15 c15, .slice A25 n25 c25, .slice A35 n35 c35] 49 8 1 rfl (by decide)) (pno_one k5 s5 n5 l5 o5 _ _ _ _ _ _ _ _ _) (by simp [maxLen]) (by simp) (by simp; omega) (fun v7 w7 n7 hown7 hg7 hbk7 => ?_)
              obtain ⟨A7, c7, rfl, hn7, hm7⟩ := own_sh hown7
              have ta := Turn.alloc (fun j => Value.ownBlock (.slice (some ⟨w2.heap.size + 1, 0, none⟩) 1 1) = some j) w5 (.cells #[.int .i64 k5, sv s5, .int .i64 n5, .int .i64 l5, .int .i64 o5, .slice A15 n15 c15, .slice A25 n25 c25, .slice A35 n35 c35] 49)
              have t7 := ta.trans (Turn.of_grown hg7 (F := fun j => Value.ownBlock (.slice (some ⟨w2.heap.size + 1, 0, none⟩) 1 1) = some j) (fun _ h => h)) (fun _ _ h => h)
              have hrow7 := RowG.push foot_no (F := fun j => w.heap.size < j ∧ j ≠ w2.heap.size) (l := [a]) HY.out HR.out HT35.out HZ5.out t7 (fun j _ h => .inl h) (hbk7.imp id fun e => ⟨_, by simp, e⟩) hown7 (by omega) (fun h => by have := h.1; omega) (fun j hj => ⟨by omega, by omega⟩)
              have hpo : ∀ j, Value.ownBlock (.slice (some ⟨w2.heap.size + 1, 0, none⟩) 1 1) = some j → j = w2.heap.size + 1 := fun j e => by injection e with e; exact e.symm
              have HROW7 := hid hrow7
              have HS7 := hid (HS5.out.trans t7 (fun _ _ h => .inr (.inr (hpo _ h))))
              have HT7 := hid (HT5.out.trans t7 (fun i hi h => by have := hpo _ h; omega))
              have HK7 := hid (HK5.out.turn t7 (fun h => by have := hpo _ h; omega) (fun k hk h => by have := hpo _ h; have := HK5.out.1; omega))
              have HRS7 := hid (block_turn HRS5.out t7 (fun h => by have := hpo _ h; omega))
              have hnb7 := block_turn HNB5.out t7 (fun h => by have := hpo _ h; omega)
              have HNB7 := hid hnb7
              obtain ⟨m0, m1, m2, m3, m4, m5, m6, m7, mz⟩ := cells8 hnb7
              clear hown7 hg7 hbk7 ta t7 hrow7 hnb7
              refine hK.out _ _ HS7.out ?_
              clear hK K
              try simp only [Act.put, List.getElem_toArray, List.getElem_cons_zero, List.getElem_cons_succ, List.setIfInBounds_toArray, List.set_cons_zero, List.set_cons_succ]
              refine anyX_ready (rs := [11]) (by kernel_rfl) (by simp) ?_
              refine ReadyX.past rfl (by kernel_rfl) (fun K hK => ?_) (ReadyX.nil)
              go_simp
              refine hK.out _ _ ?_
              clear hK K
              try simp only [Act.put, List.getElem_toArray, List.getElem_cons_zero, List.getElem_cons_succ, List.setIfInBounds_toArray, List.set_cons_zero, List.set_cons_succ]
              refine anyX_ready (rs := [12]) (by kernel_rfl) (by simp) ?_
              refine ReadyX.past rfl (by kernel_rfl) (fun K hK => ?_) (ReadyX.nil)
              go_simp
              refine hK.out _ _ ?_
              clear hK K
              try simp only [Act.put, List.getElem_toArray, List.getElem_cons_zero, List.getElem_cons_succ, List.setIfInBounds_toArray, List.set_cons_zero, List.set_cons_succ]
              refine anyX_ready (rs := [13]) (by kernel_rfl) (by simp) ?_
              refine ReadyX.past rfl (by kernel_rfl) (fun K hK => ?_) (ReadyX.nil)
              go_simp
              refine hK.out _ _ ?_
              clear hK K
              try simp only [Act.put, List.getElem_toArray, List.getElem_cons_zero, List.getElem_cons_succ, List.setIfInBounds_toArray, List.set_cons_zero, List.set_cons_succ]
              refine anyX_done (by kernel_rfl) ?_ _
              have t8 := (turn_set w7 w2.heap.size 1 (sv sx)).trans (turn_set _ w2.heap.size 7 (.slice A7 n7 c7)) (fun _ _ h => h)
              have hnb8 := heap_setCell_same _ _ 7 _ _ (.slice A7 n7 c7) (heap_setCell_same _ _ 1 _ _ (sv sx) HNB7.out)
              have HK8 := hid (HK7.out.turn t8 (by omega) (fun k hk e => by have := HK7.out.1; omega))
              have HT8 := hid (HT7.out.trans t8 (fun i hi e => by omega))
              have HRS8 := hid (block_turn HRS7.out t8 (by omega))
              have HROW8 := hid (HROW7.out.turn foot_no t8 (fun g hg e => by have := (HROW7.out.lt g hg).1; omega) (fun g _ hg e => hg.2 e))
              have HNB8 := hid hnb8
              obtain ⟨W8, hW8⟩ : ∃ W8, (w7.setCell ⟨w2.heap.size, 1, none⟩ (sv sx)).setCell ⟨w2.heap.size, 7, none⟩ (.slice A7 n7 c7) = W8 := ⟨_, rfl⟩
              rw [hW8] at HK8 HT8 HRS8 HROW8 HNB8
              have HW8 := hid hW8
              obtain ⟨f0, f1, f2, f3, f4, f5, f6, f7, fz⟩ := cells8 (show W8.heap[w2.heap.size]? = some (.cells #[.int .i64 14, sv sx, .int .i64 0, .int .i64 (t0.line : Nat), .int .i64 (t0.col : Nat), .slice none 0 0, .slice none 0 0, (.slice A7 n7 c7)] 49 (0, 0)) from HNB8.out)
              obtain ⟨c0, c1, c2, c3, c4, c5, c6, c7', cz⟩ := cells8 HRS8.out
              clear t8 hnb8 hW8 m0 m1 m2 m3 m4 m5 m6 m7 mz
              rw [HW8.out]
              go_wp2_with fail
              have tF := put8_turn W8 w.heap.size (.int .i64 14) (sv sx) (.int .i64 0) (.int .i64 (t0.line : Nat)) (.int .i64 (t0.col : Nat)) (.slice none 0 0) (.slice none 0 0) (.slice A7 n7 c7)
              obtain ⟨xs, q1, q2⟩ := HROW8.out.sl foot_no
              refine bodyPost_ret (res_cell rfl rfl (put8_block HRS8.out _ _ _ _ _ _ _ _) Tryz.underlying49 rfl (by kernel_rfl)) rfl ?_
              exact ReadsP.done HQ5.out.symm (new_turn8 HT8.out (by omega)) ⟨_, rfl, .mk (SlG.nil _ _ _) .nil (SlG.nil _ _ _) ((q1.turn tF (fun g _ h e => by rcases h with h | h; omega; (have := h.1; omega))).mono (fun g _ h => by rcases h with h | h; omega; (have := h.1; omega))) (nos_row (row_mono foot_no (fun g _ h => by rcases h with h | h; omega; (have := h.1; omega)) (row_turn foot_no tF (fun g _ h e => by rcases h with h | h; omega; (have := h.1; omega)) q2)))⟩ (HK8.out.put8_ (by omega))
end Go.Proofs.YtmbppnbekkbibaaGreatDoor
end
section
/- The contract of unary. -/
set_option linter.unusedVariables false
namespace Go.Proofs.YtmbppnbekkbibaaGreatDoor
open Go.RowKit

def PostC (d : Int) (p : Ps NoD) : Prop := ∀ (w : World) (bp B : Nat) (ts : List TokD), TkAt w bp B ts d →
  Calls Tryz.prog 170 #[.pointer (some ⟨bp, 0, none⟩)] w (ReadsP (PNo w.heap.size) bp B d w (p ts))
set_option maxRecDepth 100000 in
set_option maxHeartbeats 8000000 in
theorem unary_step (d : Int) (h0 : 0 ≤ d) (h1 : d < 100) (typ : Ps TyD) (expr unary : Ps NoD) (HU : UnaryC (d + 1) unary) (HPO : PostC (d + 1) (postP typ expr)) : UnaryC d (unaryP typ expr unary) := by
  intro w bp B ts h
  have hlt := h.lt
  have hB := h.1
  obtain ⟨Q, hQ⟩ : ∃ Q, unaryP typ expr unary ts = Q := ⟨_, rfl⟩
  rw [hQ]
  obtain ⟨t0, ht0⟩ : ∃ t0, nextP ts = t0 := ⟨_, rfl⟩
  have HQ : Hid (thenP (takeP [[45], [110, 111, 116]]) (fun i => match i with | none => postP typ expr | some 0 => thenP unary fun x => retP (nodeD 16 [] 0 t0 [] [] [x]) | some _ => thenP unary fun x => retP (nodeD 15 [] 0 t0 [] [] [x])) ts = Q) := hid (by subst ht0; exact hQ)
  have HE := hid (enter_any (w.alloc (.cells #[.int .i64 0, .string ⟨#[]⟩, .int .i64 0, .int .i64 0, .int .i64 0, .slice none 0 0, .slice none 0 0, .slice none 0 0] 49)) bp B ts d (h.below (new1 _ _)) h0 h1)
  clear h hQ
  go_enter_defers Tryz.func142, Tryz.ntmps142
  go_wp2_with fail
  refine (HE.out).mono ?_
  rintro e w1 ⟨rfl, tn, hbx, hk⟩
  obtain ⟨tm, hsz, hrs⟩ := after1 tn
  simp at hbx
  have hxb := World.block_lt_of_cell? _ _ hbx
  simp at hxb
  have HRS1 := hid (hrs (by omega))
  have HT1 := hid tm
  have HK1 := hid hk
  have HBX1 := hid hbx
  have HH := hid (here_any (d + 1) w1 bp B ts hk 0)
  rw [ht0] at HH
  clear tn tm hrs hk hbx ht0
  go_wp2_with fail
  refine (HH.out).mono ?_
  rintro e w2 ⟨rfl, hb2⟩
  have hs2 := hb2.size
  have t2 := Turn.of_below (F := fun k => k = bp) hb2
  have HT2 := hid (turn_bp HT1.out t2)
  have HK2 := hid (HK1.out.below hb2)
  have HBX2 := hid (tcell HBX1.out t2 (by omega))
  have HRS2 := hid (block_turn HRS1.out t2 (by omega))
  have HC := hid (take_lit (w2.alloc (.cells (nodeC 0 t0) 49)) bp B ts (d + 1) (HK2.out.below (new1 _ _)) [[45], [110, 111, 116]] #[.string ⟨#[45]⟩, .string ⟨#[110, 111, 116]⟩] 9 2 (w2.heap.size + 1))
  clear hb2 t2
  go_wp2_with fail
  refine (HC.out).mono ?_
  rintro e w3 h3
  rcases hq : takeP [[45], [110, 111, 116]] ts with g | ⟨o, r3⟩
  · exact (takeP_good hq).elim
  · obtain ⟨v3, rfl, tn, rfl, kn⟩ := h3.good_ hq
    obtain ⟨tm, hs3, hnb⟩ := after1 tn
    have HT3 := hid (turn_bp HT2.out tm)
    have HK3 := hid kn
    have HBX3 := hid (tcell HBX2.out tm (by omega))
    have HRS3 := hid (block_turn HRS2.out tm (by omega))
    have HNB3 := hid (hnb (by omega))
    have HQ3 := hid hq
    have hnr1 : ¬ w2.heap.size = w.heap.size := by omega
    have hnr2 : ¬ w.heap.size = w2.heap.size := by omega
    clear h3 tn tm kn hnb hq
    rcases o with _ | i
    · have HQ4 : Hid (postP typ expr r3 = Q) := hid ((thenP_good HQ3.out).symm.trans HQ.out)
      have HP := hid (HPO w3 bp B r3 HK3.out)
      go_wp2_with fail
      refine (HP.out).mono ?_
      rintro e w4 h4
      rcases hq : postP typ expr r3 with g | ⟨x, r4⟩
      · obtain ⟨rfl, tn, bn⟩ := h4.bad_ hq
        have HOB := hid (turn_bp HT3.out tn)
        have HQB := hid (HQ4.out.symm.trans hq)
        have hxo := tcell HBX3.out tn (by omega)
        have HBN := hid bn
        clear h4 tn bn hq
        go_wp2_with fail
        exact out_bad HBN.out hxo HOB.out HQB.out
      · obtain ⟨v4, rfl, tn, ⟨z4, rfl, hz⟩, kn⟩ := h4.good_ hq
        obtain ⟨k4, s4, n4, l4, o4, A14, n14, c14, A24, n24, c24, A34, n34, c34, rfl⟩ := hz.shape'
        have hs4 := tn.size
        have HT4 := hid (turn_bp HT3.out tn)
        have HK4 := hid kn
        have HBX4 := hid (tcell HBX3.out tn (by omega))
        have HRS4 := hid (block_turn HRS3.out tn (by omega))
        have HZ4 := hid hz.iv
        have HQ5 := hid (HQ4.out.symm.trans hq)
        obtain ⟨c0, c1, c2, c3, c4, c5, c6, c7, cz⟩ := cells8 HRS4.out
        clear h4 tn hz kn hq
        go_wp2_with fail
        have tF := put8_turn w4 w.heap.size (.int .i64 k4) (sv s4) (.int .i64 n4) (.int .i64 l4) (.int .i64 o4) (.slice A14 n14 c14) (.slice A24 n24 c24) (.slice A34 n34 c34)
        exact out_good (fun w9 t9 => res_cell rfl rfl (block_turn (put8_block HRS4.out _ _ _ _ _ _ _ _) t9 (by omega)) Tryz.underlying49 rfl (by kernel_rfl)) (HK4.out.put8_ (by omega)) h0 h1 (tcell HBX4.out tF (by omega)) (new_turn8 HT4.out (by omega)) HQ5.out
          (fun w9 t9 => ⟨[.int .i64 k4, sv s4, .int .i64 n4, .int .i64 l4, .int .i64 o4, .slice A14 n14 c14, .slice A24 n24 c24, .slice A34 n34 c34], rfl, ((HZ4.out.turn tF (fun g _ h e => by have := h.1; omega)).turn t9 (fun g _ h e => by have := h.1; omega)).mono (fun g _ h => by have := h.1; omega)⟩)
    · have hi := takeP_lt HQ3.out
      simp only [List.length_cons, List.length_nil] at hi
      obtain rfl | rfl : i = 0 ∨ i = 1 := by omega
      · skip
        have HQ4 : Hid (thenP unary (fun x => retP (nodeD 16 [] 0 t0 [] [] [x])) r3 = Q) := hid ((thenP_good HQ3.out).symm.trans HQ.out)
        have HUC := hid (HU w3.drew bp B r3 HK3.out)
        have hix : ∀ w : World, (Instr.index 203 (.agg #[.int .i64 16, .int .i64 15]) (.int .i64 0)).run Tryz.prog w = .ok (.int .i64 16) w := fun _ => by kernel_rfl
        have HEB : Hid (Turn (fun j => j = bp) w3 w3.drew) := hid ⟨rfl, rfl, rfl, Nat.le_refl _, fun _ _ _ => rfl⟩
        go_wp2_with fail
        refine region_x (S := fun _ => True) (x := 9) (by kernel_rfl) ?_
        try simp only [Act.put, List.getElem_toArray, List.getElem_cons_zero, List.getElem_cons_succ, List.setIfInBounds_toArray, List.set_cons_zero, List.set_cons_succ]
        refine tx 0 (.agg #[.int .i64 16, .int .i64 15]) trivial (hQ := hq_cell rfl (by decide)) ?_
        refine tx 1 (.int .i64 0) trivial (hQ := hq_cell rfl (by decide)) ?_
        refine tx 2 (.int .i64 16) trivial (hQ := hq_cell rfl (by decide)) ?_
        refine tx 3 (.pointer (some ⟨bp, 0, none⟩)) trivial (hQ := hq_cell rfl (by decide)) ?_
        refine tx 6 (.pointer (some ⟨w2.heap.size, 0, none⟩)) trivial (hQ := hq_cell rfl (by decide)) ?_
        refine anyX_ready (rs := [4]) (by kernel_rfl) (by simp) ?_
        refine ReadyX.cons rfl (fun K hK => ?_) (ReadyX.nil)
        go_simp
        refine (HUC.out).mono ?_
        rintro e w4 h4
        rcases hq : unary r3 with g | ⟨x, r4⟩
        · obtain ⟨rfl, tn, bn⟩ := h4.bad_ hq
          have tn := turn_bp HEB.out tn
          exact out_bad bn (tcell HBX3.out tn (by omega)) (turn_bp HT3.out tn) (HQ4.out.symm.trans (thenP_bad hq))
        · obtain ⟨v4, rfl, tn, ⟨z4, rfl, hz⟩, kn⟩ := h4.good_ hq
          obtain ⟨k4, s4, n4, l4, o4, A14, n14, c14, A24, n24, c24, A34, n34, c34, rfl⟩ := hz.shape'
          have HTN := hid (turn_bp HEB.out tn)
          have hs4 := HTN.out.size
          have HT4 := hid (turn_bp HT3.out HTN.out)
          have HK4 := hid kn
          have HBX4 := hid (tcell HBX3.out HTN.out (by omega))
          have HRS4 := hid (block_turn HRS3.out HTN.out (by omega))
          have hnb4 := block_turn HNB3.out HTN.out (by omega)
          have HNB4 := hid hnb4
          have HZ4 := hid (hz.iv.mono (G := Iv w3.heap.size w4.heap.size) (fun g _ h => h))
          have HQ5 : Hid (Pr.good (nodeD 16 [] 0 t0 [] [] [x]) r4 = Q) := hid ((thenP_good hq).symm.trans HQ4.out)
          have hnl4 := block_lt hnb4
          obtain ⟨m0, m1, m2, m3, m4, m5, m6, m7, mz⟩ := cells8 hnb4
          clear h4 tn hz kn hq hnb4
          refine hK.out _ _ trivial ?_
          clear hK K
          try simp only [Act.put, List.getElem_toArray, List.getElem_cons_zero, List.getElem_cons_succ, List.setIfInBounds_toArray, List.set_cons_zero, List.set_cons_succ]
          refine anyX_ready (rs := [5, 7]) (by kernel_rfl) (by simp) ?_
          refine ReadyX.cons rfl (fun K hK => ?_) (ReadyX.cons rfl (fun K hK => ?_) ReadyX.nil)
          · go_simp
            refine hK.out _ _ trivial ?_
            clear hK K
            try simp only [Act.put, List.getElem_toArray, List.getElem_cons_zero, List.getElem_cons_succ, List.setIfInBounds_toArray, List.set_cons_zero, List.set_cons_succ]
            refine anyX_ready (rs := [7]) (by kernel_rfl) (by simp) ?_
            refine ReadyX.cons rfl (fun K hK => ?_) (ReadyX.nil)
            go_simp
            refine hK.out _ _ trivial ?_
            clear hK K
            try simp only [Act.put, List.getElem_toArray, List.getElem_cons_zero, List.getElem_cons_succ, List.setIfInBounds_toArray, List.set_cons_zero, List.set_cons_succ]
            refine tx 8 (.pointer (some ⟨w2.heap.size, 7, none⟩)) trivial (hQ := hq_cell rfl (by decide)) ?_
            refine anyX_ready (rs := [9]) (by kernel_rfl) (by simp) ?_
            refine ReadyX.past rfl (by kernel_rfl) (fun K hK => ?_) (ReadyX.nil)
            go_simp
            refine hK.out _ _ ?_
            clear hK K
            try simp only [Act.put, List.getElem_toArray, List.getElem_cons_zero, List.getElem_cons_succ, List.setIfInBounds_toArray, List.set_cons_zero, List.set_cons_succ]
            refine anyX_done (by kernel_rfl) ?_ _
            obtain ⟨t8, hp8, hn8⟩ := pair_set (nb := w2.heap.size) (c1 := 0) (c2 := 7) (v1 := .int .i64 16) (v2 := (.slice (some ⟨w4.heap.size, 0, none⟩) 1 1)) (P := #[.int .i64 k4, sv s4, .int .i64 n4, .int .i64 l4, .int .i64 o4, .slice A14 n14 c14, .slice A24 n24 c24, .slice A34 n34 c34]) (T := 49) HNB4.out _ rfl
            have HK8 := hid (HK4.out.turn t8 (by omega) (fun k hk e => by have := HK4.out.1; omega))
            have HT8 := hid (HT4.out.trans t8 (fun i hi e => by omega))
            have HP8 := hid (slG_blk hp8 8 1 rfl (by omega))
            have HX8 := hid (HZ4.out.turn t8 (fun g _ h e => by have := h.1; omega))
            have HBX8 := hid (tcell HBX4.out t8 (by omega))
            have HRS8 := hid (block_turn HRS4.out t8 (by omega))
            have HNB8 := hid hn8
            have hs8 := t8.size
            obtain ⟨W8, hW8⟩ : ∃ W8, (((w4.setCell ⟨w2.heap.size, 0, none⟩ (.int .i64 16)).setCell ⟨w2.heap.size, 7, none⟩ (.slice (some ⟨w4.heap.size, 0, none⟩) 1 1)).alloc (.cells #[.int .i64 k4, sv s4, .int .i64 n4, .int .i64 l4, .int .i64 o4, .slice A14 n14 c14, .slice A24 n24 c24, .slice A34 n34 c34] 49)) = W8 := ⟨_, rfl⟩
            rw [hW8] at HK8 HT8 HP8 HX8 HBX8 HRS8 HNB8 hs8
            have HW8 := hid hW8
            obtain ⟨f0, f1, f2, f3, f4, f5, f6, f7, fz⟩ := cells8 (show W8.heap[w2.heap.size]? = some (.cells #[.int .i64 16, .string ⟨#[]⟩, .int .i64 0, .int .i64 (t0.line : Nat), .int .i64 (t0.col : Nat), .slice none 0 0, .slice none 0 0, (.slice (some ⟨w4.heap.size, 0, none⟩) 1 1)] 49 (0, 0)) from HNB8.out)
            obtain ⟨c0, c1, c2, c3, c4, c5, c6, c7, cz⟩ := cells8 HRS8.out
            clear t8 hp8 hn8 hW8 m0 m1 m2 m3 m4 m5 m6 m7 mz
            rw [HW8.out]
            go_wp2_with fail
            have tF := put8_turn W8 w.heap.size (.int .i64 16) (.string ⟨#[]⟩) (.int .i64 0) (.int .i64 (t0.line : Nat)) (.int .i64 (t0.col : Nat)) (.slice none 0 0) (.slice none 0 0) (.slice (some ⟨w4.heap.size, 0, none⟩) 1 1)
            exact out_good (fun w9 t9 => res_cell rfl rfl (block_turn (put8_block HRS8.out _ _ _ _ _ _ _ _) t9 (by omega)) Tryz.underlying49 rfl (by kernel_rfl)) (HK8.out.put8_ (by omega)) h0 h1 (tcell HBX8.out tF (by omega)) (new_turn8 HT8.out (by omega)) HQ5.out.symm
              (fun w9 t9 => ⟨_, rfl, .mk (SlG.nil _ _ _) .nil (SlG.nil _ _ _) (((HP8.out.turn tF (fun g _ h e => by omega)).turn t9 (fun g _ h e => by omega)).mono (fun g _ h => by omega)) (.cons (((HX8.out.turn tF (fun g _ h e => by have := h.1; omega)).turn t9 (fun g _ h e => by have := h.1; omega)).mono (fun g _ h => by have := h.1; omega)) .nil)⟩)
          · go_simp
            refine hK.out _ _ trivial ?_
            clear hK K
            try simp only [Act.put, List.getElem_toArray, List.getElem_cons_zero, List.getElem_cons_succ, List.setIfInBounds_toArray, List.set_cons_zero, List.set_cons_succ]
            refine anyX_ready (rs := [5]) (by kernel_rfl) (by simp) ?_
            refine ReadyX.cons rfl (fun K hK => ?_) (ReadyX.nil)
            go_simp
            refine hK.out _ _ trivial ?_
            clear hK K
            try simp only [Act.put, List.getElem_toArray, List.getElem_cons_zero, List.getElem_cons_succ, List.setIfInBounds_toArray, List.set_cons_zero, List.set_cons_succ]
            refine tx 8 (.pointer (some ⟨w2.heap.size, 7, none⟩)) trivial (hQ := hq_cell rfl (by decide)) ?_
            refine anyX_ready (rs := [9]) (by kernel_rfl) (by simp) ?_
            refine ReadyX.past rfl (by kernel_rfl) (fun K hK => ?_) (ReadyX.nil)
            go_simp
            refine hK.out _ _ ?_
            clear hK K
            try simp only [Act.put, List.getElem_toArray, List.getElem_cons_zero, List.getElem_cons_succ, List.setIfInBounds_toArray, List.set_cons_zero, List.set_cons_succ]
            refine anyX_done (by kernel_rfl) ?_ _
            obtain ⟨t8, hp8, hn8⟩ := pair_set (nb := w2.heap.size) (c1 := 0) (c2 := 7) (v1 := .int .i64 16) (v2 := (.slice (some ⟨w4.heap.size, 0, none⟩) 1 1)) (P := #[.int .i64 k4, sv s4, .int .i64 n4, .int .i64 l4, .int .i64 o4, .slice A14 n14 c14, .slice A24 n24 c24, .slice A34 n34 c34]) (T := 49) HNB4.out _ rfl
            have HK8 := hid (HK4.out.turn t8 (by omega) (fun k hk e => by have := HK4.out.1; omega))
            have HT8 := hid (HT4.out.trans t8 (fun i hi e => by omega))
            have HP8 := hid (slG_blk hp8 8 1 rfl (by omega))
            have HX8 := hid (HZ4.out.turn t8 (fun g _ h e => by have := h.1; omega))
            have HBX8 := hid (tcell HBX4.out t8 (by omega))
            have HRS8 := hid (block_turn HRS4.out t8 (by omega))
            have HNB8 := hid hn8
            have hs8 := t8.size
            obtain ⟨W8, hW8⟩ : ∃ W8, (((w4.setCell ⟨w2.heap.size, 0, none⟩ (.int .i64 16)).setCell ⟨w2.heap.size, 7, none⟩ (.slice (some ⟨w4.heap.size, 0, none⟩) 1 1)).alloc (.cells #[.int .i64 k4, sv s4, .int .i64 n4, .int .i64 l4, .int .i64 o4, .slice A14 n14 c14, .slice A24 n24 c24, .slice A34 n34 c34] 49)) = W8 := ⟨_, rfl⟩
            rw [hW8] at HK8 HT8 HP8 HX8 HBX8 HRS8 HNB8 hs8
            have HW8 := hid hW8
            obtain ⟨f0, f1, f2, f3, f4, f5, f6, f7, fz⟩ := cells8 (show W8.heap[w2.heap.size]? = some (.cells #[.int .i64 16, .string ⟨#[]⟩, .int .i64 0, .int .i64 (t0.line : Nat), .int .i64 (t0.col : Nat), .slice none 0 0, .slice none 0 0, (.slice (some ⟨w4.heap.size, 0, none⟩) 1 1)] 49 (0, 0)) from HNB8.out)
            obtain ⟨c0, c1, c2, c3, c4, c5, c6, c7, cz⟩ := cells8 HRS8.out
            clear t8 hp8 hn8 hW8 m0 m1 m2 m3 m4 m5 m6 m7 mz
            rw [HW8.out]
            go_wp2_with fail
            have tF := put8_turn W8 w.heap.size (.int .i64 16) (.string ⟨#[]⟩) (.int .i64 0) (.int .i64 (t0.line : Nat)) (.int .i64 (t0.col : Nat)) (.slice none 0 0) (.slice none 0 0) (.slice (some ⟨w4.heap.size, 0, none⟩) 1 1)
            exact out_good (fun w9 t9 => res_cell rfl rfl (block_turn (put8_block HRS8.out _ _ _ _ _ _ _ _) t9 (by omega)) Tryz.underlying49 rfl (by kernel_rfl)) (HK8.out.put8_ (by omega)) h0 h1 (tcell HBX8.out tF (by omega)) (new_turn8 HT8.out (by omega)) HQ5.out.symm
              (fun w9 t9 => ⟨_, rfl, .mk (SlG.nil _ _ _) .nil (SlG.nil _ _ _) (((HP8.out.turn tF (fun g _ h e => by omega)).turn t9 (fun g _ h e => by omega)).mono (fun g _ h => by omega)) (.cons (((HX8.out.turn tF (fun g _ h e => by have := h.1; omega)).turn t9 (fun g _ h e => by have := h.1; omega)).mono (fun g _ h => by have := h.1; omega)) .nil)⟩)
      · skip
        have HQ4 : Hid (thenP unary (fun x => retP (nodeD 15 [] 0 t0 [] [] [x])) r3 = Q) := hid ((thenP_good HQ3.out).symm.trans HQ.out)
        have HUC := hid (HU w3.drew bp B r3 HK3.out)
        have hix : ∀ w : World, (Instr.index 203 (.agg #[.int .i64 16, .int .i64 15]) (.int .i64 1)).run Tryz.prog w = .ok (.int .i64 15) w := fun _ => by kernel_rfl
        have HEB : Hid (Turn (fun j => j = bp) w3 w3.drew) := hid ⟨rfl, rfl, rfl, Nat.le_refl _, fun _ _ _ => rfl⟩
        go_wp2_with fail
        refine region_x (S := fun _ => True) (x := 9) (by kernel_rfl) ?_
        try simp only [Act.put, List.getElem_toArray, List.getElem_cons_zero, List.getElem_cons_succ, List.setIfInBounds_toArray, List.set_cons_zero, List.set_cons_succ]
        refine tx 0 (.agg #[.int .i64 16, .int .i64 15]) trivial (hQ := hq_cell rfl (by decide)) ?_
        refine tx 1 (.int .i64 1) trivial (hQ := hq_cell rfl (by decide)) ?_
        refine tx 2 (.int .i64 15) trivial (hQ := hq_cell rfl (by decide)) ?_
        refine tx 3 (.pointer (some ⟨bp, 0, none⟩)) trivial (hQ := hq_cell rfl (by decide)) ?_
        refine tx 6 (.pointer (some ⟨w2.heap.size, 0, none⟩)) trivial (hQ := hq_cell rfl (by decide)) ?_
        refine anyX_ready (rs := [4]) (by kernel_rfl) (by simp) ?_
        refine ReadyX.cons rfl (fun K hK => ?_) (ReadyX.nil)
        go_simp
        refine (HUC.out).mono ?_
        rintro e w4 h4
        rcases hq : unary r3 with g | ⟨x, r4⟩
        · obtain ⟨rfl, tn, bn⟩ := h4.bad_ hq
          have tn := turn_bp HEB.out tn
          exact out_bad bn (tcell HBX3.out tn (by omega)) (turn_bp HT3.out tn) (HQ4.out.symm.trans (thenP_bad hq))
        · obtain ⟨v4, rfl, tn, ⟨z4, rfl, hz⟩, kn⟩ := h4.good_ hq
          obtain ⟨k4, s4, n4, l4, o4, A14, n14, c14, A24, n24, c24, A34, n34, c34, rfl⟩ := hz.shape'
          have HTN := hid (turn_bp HEB.out tn)
          have hs4 := HTN.out.size
          have HT4 := hid (turn_bp HT3.out HTN.out)
          have HK4 := hid kn
          have HBX4 := hid (tcell HBX3.out HTN.out (by omega))
          have HRS4 := hid (block_turn HRS3.out HTN.out (by omega))
          have hnb4 := block_turn HNB3.out HTN.out (by omega)
          have HNB4 := hid hnb4
          have HZ4 := hid (hz.iv.mono (G := Iv w3.heap.size w4.heap.size) (fun g _ h => h))
          have HQ5 : Hid (Pr.good (nodeD 15 [] 0 t0 [] [] [x]) r4 = Q) := hid ((thenP_good hq).symm.trans HQ4.out)
          have hnl4 := block_lt hnb4
          obtain ⟨m0, m1, m2, m3, m4, m5, m6, m7, mz⟩ := cells8 hnb4
          clear h4 tn hz kn hq hnb4
          refine hK.out _ _ trivial ?_
          clear hK K
          try simp only [Act.put, List.getElem_toArray, List.getElem_cons_zero, List.getElem_cons_succ, List.setIfInBounds_toArray, List.set_cons_zero, List.set_cons_succ]
          refine anyX_ready (rs := [5, 7]) (by kernel_rfl) (by simp) ?_
          refine ReadyX.cons rfl (fun K hK => ?_) (ReadyX.cons rfl (fun K hK => ?_) ReadyX.nil)
          · go_simp
            refine hK.out _ _ trivial ?_
            clear hK K
            try simp only [Act.put, List.getElem_toArray, List.getElem_cons_zero, List.getElem_cons_succ, List.setIfInBounds_toArray, List.set_cons_zero, List.set_cons_succ]
            refine anyX_ready (rs := [7]) (by kernel_rfl) (by simp) ?_
            refine ReadyX.cons rfl (fun K hK => ?_) (ReadyX.nil)
            go_simp
            refine hK.out _ _ trivial ?_
            clear hK K
            try simp only [Act.put, List.getElem_toArray, List.getElem_cons_zero, List.getElem_cons_succ, List.setIfInBounds_toArray, List.set_cons_zero, List.set_cons_succ]
            refine tx 8 (.pointer (some ⟨w2.heap.size, 7, none⟩)) trivial (hQ := hq_cell rfl (by decide)) ?_
            refine anyX_ready (rs := [9]) (by kernel_rfl) (by simp) ?_
            refine ReadyX.past rfl (by kernel_rfl) (fun K hK => ?_) (ReadyX.nil)
            go_simp
            refine hK.out _ _ ?_
            clear hK K
            try simp only [Act.put, List.getElem_toArray, List.getElem_cons_zero, List.getElem_cons_succ, List.setIfInBounds_toArray, List.set_cons_zero, List.set_cons_succ]
            refine anyX_done (by kernel_rfl) ?_ _
            obtain ⟨t8, hp8, hn8⟩ := pair_set (nb := w2.heap.size) (c1 := 0) (c2 := 7) (v1 := .int .i64 15) (v2 := (.slice (some ⟨w4.heap.size, 0, none⟩) 1 1)) (P := #[.int .i64 k4, sv s4, .int .i64 n4, .int .i64 l4, .int .i64 o4, .slice A14 n14 c14, .slice A24 n24 c24, .slice A34 n34 c34]) (T := 49) HNB4.out _ rfl
            have HK8 := hid (HK4.out.turn t8 (by omega) (fun k hk e => by have := HK4.out.1; omega))
            have HT8 := hid (HT4.out.trans t8 (fun i hi e => by omega))
            have HP8 := hid (slG_blk hp8 8 1 rfl (by omega))
            have HX8 := hid (HZ4.out.turn t8 (fun g _ h e => by have := h.1; omega))
            have HBX8 := hid (tcell HBX4.out t8 (by omega))
            have HRS8 := hid (block_turn HRS4.out t8 (by omega))
            have HNB8 := hid hn8
            have hs8 := t8.size
            obtain ⟨W8, hW8⟩ : ∃ W8, (((w4.setCell ⟨w2.heap.size, 0, none⟩ (.int .i64 15)).setCell ⟨w2.heap.size, 7, none⟩ (.slice (some ⟨w4.heap.size, 0, none⟩) 1 1)).alloc (.cells #[.int .i64 k4, sv s4, .int .i64 n4, .int .i64 l4, .int .i64 o4, .slice A14 n14 c14, .slice A24 n24 c24, .slice A34 n34 c34] 49)) = W8 := ⟨_, rfl⟩
            rw [hW8] at HK8 HT8 HP8 HX8 HBX8 HRS8 HNB8 hs8
            have HW8 := hid hW8
            obtain ⟨f0, f1, f2, f3, f4, f5, f6, f7, fz⟩ := cells8 (show W8.heap[w2.heap.size]? = some (.cells #[.int .i64 15, .string ⟨#[]⟩, .int .i64 0, .int .i64 (t0.line : Nat), .int .i64 (t0.col : Nat), .slice none 0 0, .slice none 0 0, (.slice (some ⟨w4.heap.size, 0, none⟩) 1 1)] 49 (0, 0)) from HNB8.out)
            obtain ⟨c0, c1, c2, c3, c4, c5, c6, c7, cz⟩ := cells8 HRS8.out
            clear t8 hp8 hn8 hW8 m0 m1 m2 m3 m4 m5 m6 m7 mz
            rw [HW8.out]
            go_wp2_with fail
            have tF := put8_turn W8 w.heap.size (.int .i64 15) (.string ⟨#[]⟩) (.int .i64 0) (.int .i64 (t0.line : Nat)) (.int .i64 (t0.col : Nat)) (.slice none 0 0) (.slice none 0 0) (.slice (some ⟨w4.heap.size, 0, none⟩) 1 1)
            exact out_good (fun w9 t9 => res_cell rfl rfl (block_turn (put8_block HRS8.out _ _ _ _ _ _ _ _) t9 (by omega)) Tryz.underlying49 rfl (by kernel_rfl)) (HK8.out.put8_ (by omega)) h0 h1 (tcell HBX8.out tF (by omega)) (new_turn8 HT8.out (by omega)) HQ5.out.symm
              (fun w9 t9 => ⟨_, rfl, .mk (SlG.nil _ _ _) .nil (SlG.nil _ _ _) (((HP8.out.turn tF (fun g _ h e => by omega)).turn t9 (fun g _ h e => by omega)).mono (fun g _ h => by omega)) (.cons (((HX8.out.turn tF (fun g _ h e => by have := h.1; omega)).turn t9 (fun g _ h e => by have := h.1; omega)).mono (fun g _ h => by have := h.1; omega)) .nil)⟩)
          · go_simp
            refine hK.out _ _ trivial ?_
            clear hK K
            try simp only [Act.put, List.getElem_toArray, List.getElem_cons_zero, List.getElem_cons_succ, List.setIfInBounds_toArray, List.set_cons_zero, List.set_cons_succ]
            refine anyX_ready (rs := [5]) (by kernel_rfl) (by simp) ?_
            refine ReadyX.cons rfl (fun K hK => ?_) (ReadyX.nil)
            go_simp
            refine hK.out _ _ trivial ?_
            clear hK K
            try simp only [Act.put, List.getElem_toArray, List.getElem_cons_zero, List.getElem_cons_succ, List.setIfInBounds_toArray, List.set_cons_zero, List.set_cons_succ]
            refine tx 8 (.pointer (some ⟨w2.heap.size, 7, none⟩)) trivial (hQ := hq_cell rfl (by decide)) ?_
            refine anyX_ready (rs := [9]) (by kernel_rfl) (by simp) ?_
            refine ReadyX.past rfl (by kernel_rfl) (fun K hK => ?_) (ReadyX.nil)
            go_simp
            refine hK.out _ _ ?_
            clear hK K
            try simp only [Act.put, List.getElem_toArray, List.getElem_cons_zero, List.getElem_cons_succ, List.setIfInBounds_toArray, List.set_cons_zero, List.set_cons_succ]
            refine anyX_done (by kernel_rfl) ?_ _
            obtain ⟨t8, hp8, hn8⟩ := pair_set (nb := w2.heap.size) (c1 := 0) (c2 := 7) (v1 := .int .i64 15) (v2 := (.slice (some ⟨w4.heap.size, 0, none⟩) 1 1)) (P := #[.int .i64 k4, sv s4, .int .i64 n4, .int .i64 l4, .int .i64 o4, .slice A14 n14 c14, .slice A24 n24 c24, .slice A34 n34 c34]) (T := 49) HNB4.out _ rfl
            have HK8 := hid (HK4.out.turn t8 (by omega) (fun k hk e => by have := HK4.out.1; omega))
            have HT8 := hid (HT4.out.trans t8 (fun i hi e => by omega))
            have HP8 := hid (slG_blk hp8 8 1 rfl (by omega))
            have HX8 := hid (HZ4.out.turn t8 (fun g _ h e => by have := h.1; omega))
            have HBX8 := hid (tcell HBX4.out t8 (by omega))
            have HRS8 := hid (block_turn HRS4.out t8 (by omega))
            have HNB8 := hid hn8
            have hs8 := t8.size
            obtain ⟨W8, hW8⟩ : ∃ W8, (((w4.setCell ⟨w2.heap.size, 0, none⟩ (.int .i64 15)).setCell ⟨w2.heap.size, 7, none⟩ (.slice (some ⟨w4.heap.size, 0, none⟩) 1 1)).alloc (.cells #[.int .i64 k4, sv s4, .int .i64 n4, .int .i64 l4, .int .i64 o4, .slice A14 n14 c14, .slice A24 n24 c24, .slice A34 n34 c34] 49)) = W8 := ⟨_, rfl⟩
            rw [hW8] at HK8 HT8 HP8 HX8 HBX8 HRS8 HNB8 hs8
            have HW8 := hid hW8
            obtain ⟨f0, f1, f2, f3, f4, f5, f6, f7, fz⟩ := cells8 (show W8.heap[w2.heap.size]? = some (.cells #[.int .i64 15, .string ⟨#[]⟩, .int .i64 0, .int .i64 (t0.line : Nat), .int .i64 (t0.col : Nat), .slice none 0 0, .slice none 0 0, (.slice (some ⟨w4.heap.size, 0, none⟩) 1 1)] 49 (0, 0)) from HNB8.out)
            obtain ⟨c0, c1, c2, c3, c4, c5, c6, c7, cz⟩ := cells8 HRS8.out
            clear t8 hp8 hn8 hW8 m0 m1 m2 m3 m4 m5 m6 m7 mz
            rw [HW8.out]
            go_wp2_with fail
            have tF := put8_turn W8 w.heap.size (.int .i64 15) (.string ⟨#[]⟩) (.int .i64 0) (.int .i64 (t0.line : Nat)) (.int .i64 (t0.col : Nat)) (.slice none 0 0) (.slice none 0 0) (.slice (some ⟨w4.heap.size, 0, none⟩) 1 1)
            exact out_good (fun w9 t9 => res_cell rfl rfl (block_turn (put8_block HRS8.out _ _ _ _ _ _ _ _) t9 (by omega)) Tryz.underlying49 rfl (by kernel_rfl)) (HK8.out.put8_ (by omega)) h0 h1 (tcell HBX8.out tF (by omega)) (new_turn8 HT8.out (by omega)) HQ5.out.symm
              (fun w9 t9 => ⟨_, rfl, .mk (SlG.nil _ _ _) .nil (SlG.nil _ _ _) (((HP8.out.turn tF (fun g _ h e => by omega)).turn t9 (fun g _ h e => by omega)).mono (fun g _ h => by omega)) (.cons (((HX8.out.turn tF (fun g _ h e => by have := h.1; omega)).turn t9 (fun g _ h e => by have := h.1; omega)).mono (fun g _ h => by have := h.1; omega)) .nil)⟩)
theorem unary_deep : UnaryC 100 (failP 6) := by
  intro w bp B ts h
  have HE := hid (enter_deep (w.alloc (.cells #[.int .i64 0, .string ⟨#[]⟩, .int .i64 0, .int .i64 0, .int .i64 0, .slice none 0 0, .slice none 0 0, .slice none 0 0] 49)) bp B ts (h.below (new1 _ _)))
  clear h
  go_enter_defers Tryz.func142, Tryz.ntmps142
  go_wp2_with fail
  refine (HE.out).mono ?_
  rintro e w1 ⟨rfl, hb⟩
  go_wp2_with fail
  exact ReadsP.fail (P := PNo w.heap.size) (B := B) (d := 100) (q := failP 6 ts) rfl ⟨(after1 hb.1).1, hb.2⟩
end Go.Proofs.YtmbppnbekkbibaaGreatDoor
end
