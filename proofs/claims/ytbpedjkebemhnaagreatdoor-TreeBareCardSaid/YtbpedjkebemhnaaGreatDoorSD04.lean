/- GJ -/
import Derived.Test.YtbpedjkebemhnaaGreatDoorSD02
import Derived.Test.YtbpedjkebemhnaaGreatDoorSD03
import Derived.IntWalk
set_option linter.unusedSimpArgs false
set_option linter.unusedVariables false
/- Texts that belong together: TD, TE, TF. -/
/- Names at any length; are all of them names? -/
set_option linter.unusedVariables false
namespace Go.Proofs.YtbpedjkebemhnaaGreatDoor
open Go.RowKit

theorem nameL_long {s : Bt} (h : 32 < s.length) : nameL s = false := by
  cases s with
  | nil => simp at h
  | cons c r =>
    show (decide ((c :: r).length ≤ 32) && _ && _ && _) = false
    rw [decide_eq_false (by omega)]
    rfl
theorem name_all (w : World) (s : Bt) (hX : LaidT w) (hs : s.length ≤ maxLen) : Calls Tryz.prog 41 #[sv s] w fun e w' => e = .returned (.bool (nameL s)) ∧ Below w.heap.size w w' := by
  by_cases hl : s.length ≤ 281474976710656
  · exact name_any w s hX hl
  have hf := nameL_long (s := s) (by omega)
  have hsz := sv_size s
  have hn : (s == []) = false := by cases s with | nil => simp at hl | cons c r => rfl
  have hne : ¬ s = [] := by intro h; rw [h] at hl; simp at hl
  have hg : decide ((s.length : Int) ≤ 32) = false := by rw [decide_eq_false_iff_not]; omega
  rw [hf]
  unfold maxLen at hs
  clear hf hl
  go_enter Tryz.func41, Tryz.ntmps41
  go_wp2_with fail
  go_ret
  exact ⟨rfl, Below.refl _ _⟩
theorem name_not (w : World) (s : Bt) (hX : LaidT w) (hs : s.length ≤ maxLen) : Calls Tryz.prog 93 #[sv s] w fun e w' => e = .returned (.bool (!nameL s)) ∧ Below w.heap.size w w' := by
  have HN := hid (name_all w s hX hs)
  generalize nameL s = b at *
  go_enter Tryz.func93, Tryz.ntmps93
  go_wp2_with fail
  refine HN.out.mono ?_
  rintro e w2 ⟨rfl, hb⟩
  go_wp2_with fail
  go_ret
  exact ⟨rfl, hb⟩
theorem t_take {α : Type} {l : List α} {k : Nat} (h : k < l.length) : l.take (k + 1) = l.take k ++ [l[k]] := List.take_succ_eq_append_getElem h
/-- Where the first that is no name stands, or -1. -/
def AtNo (l : List Bt) (w : World) (e : Ending) (w' : World) : Prop := (∃ k : Int, e = .returned (.int .i64 k) ∧ (if l.all nameL then k = -1 else 0 ≤ k)) ∧ Below w.heap.size w w'
set_option maxRecDepth 100000 in
set_option maxHeartbeats 2000000 in
theorem index_names (v : Value) (l : List Bt) (w : World) (hv : Ss w w.heap.size v l) (hl : ∀ y ∈ l, y.length ≤ maxLen) (hX : LaidT w) :
    Calls Tryz.prog 130 #[v, .func (.func 93) #[] #[]] w (AtNo l w) := by
  have HV := hid hv
  obtain ⟨A, c, rfl⟩ := t_sl_exact hv (by omega) (m := l.length) (by rw [svs_length]; omega)
  obtain ⟨_, hn, hc⟩ := t_sl_len hv
  have HL := hid hl
  have HX := hid hX
  clear hv hl hX
  go_enter Tryz.func130, Tryz.ntmps130
  go_wp2_with fail
  go_loopw [8] (fun v8 wr => ∃ k : Nat, v8 = .int .i64 k ∧ k ≤ l.length ∧ (l.take k).all nameL = true ∧ Below w.heap.size w wr) (fun v8 _ => l.length - (intOf v8).toNat)
  case atStart => exact ⟨0, rfl, by omega, rfl, Below.refl _ _⟩
  case round =>
    obtain ⟨k, rfl, hk, hinv, hbr⟩ := hrel
    have HI := hid hinv
    clear hinv
    by_cases hlt : k < l.length
    · have hlt0 := hlt
      obtain ⟨b1, o1, rfl, hb1, hc1⟩ := t_sl_in HV.out hlt (by omega)
      have d1 : wr.cell? ⟨b1, o1 + k, none⟩ = some (sv l[k]) := t_keep hbr (by have := hc1 0 (sv l[k]) (by simp [svs, hlt]); simpa using this) hb1
      have HN := hid (name_not wr l[k] (HX.out.below hbr) (HL.out _ (List.getElem_mem hlt)))
      have hst := t_take hlt
      have HB := hid hbr
      clear hc1 hb1 hbr
      cases hq : nameL l[k] with
      | false =>
        have hall : l.all nameL = false := by
          cases h : l.all nameL with
          | false => rfl
          | true => rw [List.all_eq_true] at h; rw [h _ (List.getElem_mem hlt)] at hq; cases hq
        rw [hq] at HN
        have HALL := hid hall
        clear hq hst hall
        generalize l[k] = X at *
        go_wp2_with fail
        refine HN.out.mono ?_
        rintro e w2 ⟨rfl, hb⟩
        have HB2 := hid (HB.out.trans (hb.mono HB.out.size))
        clear hb d1
        go_wp2_with fail
        go_ret
        exact ⟨⟨k, rfl, by rw [HALL.out]; simp⟩, HB2.out⟩
      | true =>
        rw [hq] at HN
        have HST : Hid ((l.take (k + 1)).all nameL = true) := hid (by rw [hst, List.all_append, HI.out]; simp [hq])
        clear hq hst
        generalize l[k] = X at *
        go_wp2_with fail
        refine HN.out.mono ?_
        rintro e w2 ⟨rfl, hb⟩
        have HB2 := hid (HB.out.trans (hb.mono HB.out.size))
        clear hb d1
        go_wp2_with fail
        go_roundw
        case rel => exact ⟨k + 1, rfl, by omega, HST.out, HB2.out⟩
        case measure => simp [intOf]; omega
    · obtain rfl : k = l.length := by omega
      rw [List.take_length] at HI
      have HB := hid hbr
      clear hbr
      go_wp2_with fail
      go_ret
      exact ⟨⟨-1, rfl, by rw [HI.out]; simp⟩, HB.out⟩
theorem contains_no (v : Value) (l : List Bt) (w : World) (hv : Ss w w.heap.size v l) (hl : ∀ y ∈ l, y.length ≤ maxLen) (hX : LaidT w) :
    Calls Tryz.prog 92 #[v, .func (.func 93) #[] #[]] w fun e w' => e = .returned (.bool (!l.all nameL)) ∧ Below w.heap.size w w' := by
  have HI := hid (index_names v l w hv hl hX)
  obtain ⟨A, n, c, rfl⟩ := t_sl_shape hv
  clear hv hl hX
  cases hb : l.all nameL
  all_goals
    go_enter Tryz.func92, Tryz.ntmps92
    go_wp2_with fail
    refine HI.out.mono ?_
    rintro e w2 ⟨⟨k, rfl, hk⟩, hbel⟩
    rw [hb] at hk
    simp only [Bool.false_eq_true, if_false, if_true] at hk
    have HB := hid hbel
    clear hbel hb HI
  · have hg : decide (0 ≤ k) = true := by simpa using hk
    go_wp2_with fail
    go_ret
    exact ⟨rfl, HB.out⟩
  · subst hk
    go_wp2_with fail
    go_ret
    exact ⟨rfl, HB.out⟩
theorem tnamed_any (v : Value) (l : List Bt) (w : World) (hv : Ss w w.heap.size v l) (hl : ∀ y ∈ l, y.length ≤ maxLen) (hX : LaidT w) :
    Calls Tryz.prog 42 #[v] w fun e w' => e = .returned (.bool (l.all nameL)) ∧ Below w.heap.size w w' := by
  have HC := hid (contains_no v l w hv hl hX)
  obtain ⟨A, n, c, rfl⟩ := t_sl_shape hv
  clear hv hl hX
  generalize l.all nameL = b at *
  go_enter Tryz.func42, Tryz.ntmps42
  go_wp2_with fail
  refine HC.out.mono ?_
  rintro e w2 ⟨rfl, hb⟩
  go_wp2_with fail
  go_ret
  cases b <;> exact ⟨rfl, hb⟩
end Go.Proofs.YtbpedjkebemhnaaGreatDoor

/- Which types are written ones. -/
set_option linter.unusedVariables false
namespace Go.Proofs.YtbpedjkebemhnaaGreatDoor
open Go.RowKit

/-- The contract of written, so many within one another. -/
def WrC (m : Nat) : Prop := ∀ (w : World) (z : List Value) (t : TyD), TyR w w.heap.size z t → okT t → LaidT w →
  Calls Tryz.prog 36 #[.agg z.toArray, .int .i64 (m : Int)] w fun e w' => e = .returned (.bool (writtenB m t)) ∧ Below w.heap.size w w'
theorem not_written (m : Nat) (hm : m ≤ 40) (ih : WrC m) (w : World) (z : List Value) (t : TyD) (hr : TyR w w.heap.size z t) (hok : okT t) (hX : LaidT w) (p : Nat) (hp : w.cell? ⟨p, 0, none⟩ = some (.int .i64 ((m : Int) + 1))) :
    Calls Tryz.prog 82 #[.agg z.toArray, .pointer (some ⟨p, 0, none⟩)] w fun e w' => e = .returned (.bool (!writtenB m t)) ∧ Below w.heap.size w w' := by
  have hr0 := hr
  obtain ⟨k, s, A1, n1, c1, A2, n2, c2, rfl⟩ := hr.shape
  have hb1 : Below w.heap.size w (w.alloc (.cells #[.int .i64 k, .string s, .slice A1 n1 c1, .slice A2 n2 c2] 32)) := (Below.refl _ _).alloc (Nat.le_refl _) _
  have HI := hid (ih _ _ t (hr0.far (Nat.le_refl _) hb1) hok (hX.below hb1))
  have HB := hid hb1
  have hpl : p < w.heap.size := World.block_lt_of_cell? w _ hp
  clear hr hr0 hX hb1 hok ih
  generalize writtenB m t = b at *
  go_enter Tryz.func82, Tryz.ntmps82
  go_wp2_with fail
  refine HI.out.mono ?_
  rintro e w2 ⟨rfl, hb⟩
  go_wp2_with fail
  go_ret
  exact ⟨rfl, HB.out.trans (hb.mono HB.out.size)⟩
def AtNoT (m : Nat) (l : List TyD) (w : World) (e : Ending) (w' : World) : Prop := (∃ k : Int, e = .returned (.int .i64 k) ∧ (if l.all (writtenB m) then k = -1 else 0 ≤ k)) ∧ Below w.heap.size w w'
set_option maxRecDepth 100000 in
set_option maxHeartbeats 2000000 in
theorem index_unwritten (m : Nat) (hm : m ≤ 40) (ih : WrC m) (v : Value) (l : List TyD) (xs : List Value) (w : World) (hv : Sl w w.heap.size 4 v xs) (hr : TysR w w.heap.size xs l) (hl : ∀ y ∈ l, okT y) (hX : LaidT w) (p : Nat) (hp : w.cell? ⟨p, 0, none⟩ = some (.int .i64 ((m : Int) + 1))) :
    Calls Tryz.prog 126 #[v, .func (.func 82) #[] #[.pointer (some ⟨p, 0, none⟩)]] w (AtNoT m l w) := by
  have HV := hid hv
  obtain ⟨A, c, rfl⟩ := t_sl_exact hv (by omega) (m := l.length) hr.length
  obtain ⟨_, hn, hc⟩ := t_sl_len hv
  have HL := hid hl
  have HX := hid hX
  have HR := hid hr
  have HP := hid hp
  have HIH := hid ih
  have hpl := World.block_lt_of_cell? w _ hp
  have HPL := hid hpl
  clear hv hl hX hr hp ih hpl
  go_enter Tryz.func126, Tryz.ntmps126
  go_wp2_with fail
  go_loopw [8] (fun v8 wr => ∃ k : Nat, v8 = .int .i64 k ∧ k ≤ l.length ∧ (l.take k).all (writtenB m) = true ∧ Below w.heap.size w wr) (fun v8 _ => l.length - (intOf v8).toNat)
  case atStart => exact ⟨0, rfl, by omega, rfl, Below.refl _ _⟩
  case round =>
    obtain ⟨k, rfl, hk, hinv, hbr⟩ := hrel
    have HI := hid hinv
    clear hinv
    by_cases hlt : k < l.length
    · have hlt0 := hlt
      obtain ⟨b1, o1, rfl, hb1, hc1⟩ := t_sl_in HV.out hlt (by omega)
      have hr1 := HR.out.at k hlt
      obtain ⟨kk, s, A1, n1, c1, A2, n2, c2, hv1⟩ := hr1.shape
      rw [hv1] at hr1
      have d0 : wr.cell? ⟨b1, o1 + k * 4, none⟩ = some (.int .i64 kk) := t_keep hbr (by have := hc1 0 _ (t_part hv1 (by omega : 0 < 4)); simpa using this) hb1
      have d1 : wr.cell? ⟨b1, o1 + k * 4 + 1, none⟩ = some (.string s) := t_keep hbr (by have := hc1 1 _ (t_part hv1 (by omega : 1 < 4)); simpa [Nat.add_assoc] using this) hb1
      have d2 : wr.cell? ⟨b1, o1 + k * 4 + 2, none⟩ = some (.slice A1 n1 c1) := t_keep hbr (by have := hc1 2 _ (t_part hv1 (by omega : 2 < 4)); simpa [Nat.add_assoc] using this) hb1
      have d3 : wr.cell? ⟨b1, o1 + k * 4 + 3, none⟩ = some (.slice A2 n2 c2) := t_keep hbr (by have := hc1 3 _ (t_part hv1 (by omega : 3 < 4)); simpa [Nat.add_assoc] using this) hb1
      have HN := hid (not_written m hm HIH.out wr _ l[k] (hr1.far (Nat.le_refl _) hbr) (HL.out _ (List.getElem_mem hlt)) (HX.out.below hbr) p (t_keep hbr HP.out HPL.out))
      have hst := t_take hlt
      have HB := hid hbr
      clear hc1 hb1 hbr hv1 hr1
      cases hq : writtenB m l[k] with
      | false =>
        have hall : l.all (writtenB m) = false := by
          cases h : l.all (writtenB m) with
          | false => rfl
          | true => rw [List.all_eq_true] at h; rw [h _ (List.getElem_mem hlt)] at hq; cases hq
        rw [hq] at HN
        have HALL := hid hall
        clear hq hst hall
        generalize l[k] = X at *
        go_wp2_with fail
        refine HN.out.mono ?_
        rintro e w2 ⟨rfl, hb⟩
        have HB2 := hid (HB.out.trans (hb.mono HB.out.size))
        clear hb d0 d1 d2 d3
        go_wp2_with fail
        go_ret
        exact ⟨⟨k, rfl, by rw [HALL.out]; simp⟩, HB2.out⟩
      | true =>
        rw [hq] at HN
        have HST : Hid ((l.take (k + 1)).all (writtenB m) = true) := hid (by rw [hst, List.all_append, HI.out]; simp [hq])
        clear hq hst
        generalize l[k] = X at *
        go_wp2_with fail
        refine HN.out.mono ?_
        rintro e w2 ⟨rfl, hb⟩
        have HB2 := hid (HB.out.trans (hb.mono HB.out.size))
        clear hb d0 d1 d2 d3
        go_wp2_with fail
        go_roundw
        case rel => exact ⟨k + 1, rfl, by omega, HST.out, HB2.out⟩
        case measure => simp [intOf]; omega
    · obtain rfl : k = l.length := by omega
      rw [List.take_length] at HI
      have HB := hid hbr
      clear hbr
      go_wp2_with fail
      go_ret
      exact ⟨⟨-1, rfl, by rw [HI.out]; simp⟩, HB.out⟩
theorem contains_unwritten (m : Nat) (hm : m ≤ 40) (ih : WrC m) (v : Value) (l : List TyD) (xs : List Value) (w : World) (hv : Sl w w.heap.size 4 v xs) (hr : TysR w w.heap.size xs l) (hl : ∀ y ∈ l, okT y) (hX : LaidT w) (p : Nat) (hp : w.cell? ⟨p, 0, none⟩ = some (.int .i64 ((m : Int) + 1))) :
    Calls Tryz.prog 81 #[v, .func (.func 82) #[] #[.pointer (some ⟨p, 0, none⟩)]] w fun e w' => e = .returned (.bool (!l.all (writtenB m))) ∧ Below w.heap.size w w' := by
  have HI := hid (index_unwritten m hm ih v l xs w hv hr hl hX p hp)
  obtain ⟨A, n, c, rfl⟩ := t_sl_shape hv
  clear hv hl hX hr hp ih
  cases hb : l.all (writtenB m)
  all_goals
    go_enter Tryz.func81, Tryz.ntmps81
    go_wp2_with fail
    refine HI.out.mono ?_
    rintro e w2 ⟨⟨k, rfl, hk⟩, hbel⟩
    rw [hb] at hk
    simp only [Bool.false_eq_true, if_false, if_true] at hk
    have HB := hid hbel
    clear hbel hb HI
  · have hg : decide (0 ≤ k) = true := by simpa using hk
    go_wp2_with fail
    go_ret
    exact ⟨rfl, HB.out⟩
  · subst hk
    go_wp2_with fail
    go_ret
    exact ⟨rfl, HB.out⟩
end Go.Proofs.YtbpedjkebemhnaaGreatDoor

/- Which types are written ones: tree.written. -/
set_option linter.unusedVariables false
namespace Go.Proofs.YtbpedjkebemhnaaGreatDoor
open Go.RowKit

theorem t_row4 {w : World} {b : Nat} {x0 x1 x2 x3 : Value} {T : TypeId} (h : w.heap[b]? = some (.cells #[x0, x1, x2, x3] T (0, 0))) :
    w.cell? ⟨b, 0, none⟩ = some x0 ∧ w.cell? ⟨b, 1, none⟩ = some x1 ∧ w.cell? ⟨b, 2, none⟩ = some x2 ∧ w.cell? ⟨b, 3, none⟩ = some x3 :=
  ⟨(cell_of_row _ _ _ _ _ _ h).trans rfl, (cell_of_row _ _ _ _ _ _ h).trans rfl, (cell_of_row _ _ _ _ _ _ h).trans rfl, (cell_of_row _ _ _ _ _ _ h).trans rfl⟩
theorem wrap_zero {a b : Nat} (ha : a ≤ 2 ^ 63 - 1) (hb : b ≤ 2 ^ 63 - 1) (h : ¬ (a = 0 ∧ b = 0)) : (wrap64 ((a : Int) + (b : Int)) == 0) = false := by
  rw [beq_eq_false_iff_ne]
  intro h0
  unfold wrap64 at h0
  omega
theorem written_zero : WrC 0 := by
  intro w z t hr hok hX
  have hw : writtenB 0 t = false := rfl
  rw [hw]
  obtain ⟨k, s, A1, n1, c1, A2, n2, c2, rfl⟩ := hr.shape
  have hb2 : Below w.heap.size w ((w.alloc (.cells #[.int .i64 k, .string s, .slice A1 n1 c1, .slice A2 n2 c2] 32)).alloc (.cells #[.int .i64 0] 3)) := ((Below.refl _ _).alloc (Nat.le_refl _) _).alloc (by simp) _
  have HB := hid hb2
  clear hr hok hX hb2 hw
  go_enter Tryz.func36, Tryz.ntmps36
  go_wp2_with fail
  go_ret
  exact ⟨rfl, HB.out⟩
set_option maxRecDepth 100000 in
set_option maxHeartbeats 8000000 in
theorem written_succ (m : Nat) (hm : m ≤ 40) (ih : WrC m) : WrC (m + 1) := by
  intro w z t hr hok hX
  obtain ⟨k, nm, ns, ks⟩ := t
  rw [okT] at hok
  obtain ⟨ok1, ok2, ok3, ok4⟩ := hok
  obtain ⟨A1, c1, A2, c2, xk, rfl, s1, s2, r2⟩ := hr.parts
  have l1 := (t_sl_len s1).2
  have l2 := (t_sl_len s2).2
  clear hr
  have hw : writtenB (m + 1) (.mk k nm ns ks) = (ns.all nameL && ks.all (writtenB m) && kindT k nm ns.length ks.length) := rfl
  rw [hw]
  clear hw
  have hz1 := heap_alloc_new w (.cells #[.int .i64 k, sv nm, .slice A1 ns.length c1, .slice A2 ks.length c2] 32)
  obtain ⟨W1, hW1⟩ : ∃ W1, W1 = w.alloc (.cells #[.int .i64 k, sv nm, .slice A1 ns.length c1, .slice A2 ks.length c2] 32) := ⟨_, rfl⟩
  have hb1 : Below w.heap.size w W1 := by rw [hW1]; exact (Below.refl _ _).alloc (Nat.le_refl _) _
  rw [← hW1] at hz1
  have hs1 : W1.heap.size = w.heap.size + 1 := by rw [hW1]; exact Array.size_push _
  have hz2 := heap_alloc_new W1 (.cells #[.int .i64 ((m : Int) + 1)] 3)
  obtain ⟨W2, hW2⟩ : ∃ W2, W2 = W1.alloc (.cells #[.int .i64 ((m : Int) + 1)] 3) := ⟨_, rfl⟩
  have hb12 : Below W1.heap.size W1 W2 := by rw [hW2]; exact (Below.refl _ _).alloc (Nat.le_refl _) _
  have hb2 : Below w.heap.size w W2 := hb1.trans (hb12.mono hb1.size)
  rw [← hW2, hs1] at hz2
  have hz1 := (hb12.block _ (block_lt hz1)).trans hz1
  have HZ := hid (And.intro hz1 hz2)
  have hwe := hW2
  rw [hW1] at hwe
  have HWE := hid hwe
  have HB2 := hid hb2
  have HN := hid (tnamed_any _ ns W2 (Sl.more (Sl.below s1 hb2) hb2.size) ok3 (hX.below hb2))
  rw [hwe] at HN
  have HS := hid (And.intro s2 r2)
  have HOK := hid (And.intro (okTs_mem.1 ok4) ok2)
  have HX := hid hX
  have HIH := hid ih
  have hmf : ∀ (fn : Fn) (first cap : Array Value) (w : World), (Instr.makeFunc fn first cap).run Tryz.prog w = .ok (.func fn first cap) w := fun _ _ _ _ => rfl
  have hm0 : (((m : Int) + 1) == 0) = false := by rw [beq_eq_false_iff_ne]; omega
  have hm1 : (((m + 1 : Nat) : Int) == 0) = false := by rw [beq_eq_false_iff_ne]; omega
  clear s1 s2 r2 ok1 ok2 ok3 ok4 hX ih hz1 hz2 hb1 hb12 hb2 hs1 hW1 hW2 hwe
  go_enter Tryz.func36, Tryz.ntmps36
  go_wp2_with fail
  refine HN.out.mono ?_
  rintro e w3 ⟨rfl, hb3⟩
  rw [← HWE.out] at hb3
  have HB3 := hid hb3
  clear hb3 HN
  cases hns : ns.all nameL with
  | false =>
    have HNS := hid hns
    clear hns
    go_wp2_with fail
    go_ret
    exact ⟨by rw [HNS.out]; rfl, HB2.out.trans (HB3.out.mono HB2.out.size)⟩
  | true =>
    have HNS := hid hns
    clear hns
    have hzz3 := (HB3.out.block _ (block_lt HZ.out.1)).trans HZ.out.1
    obtain ⟨g0, g1, g2, g3⟩ := t_row4 hzz3
    have hzm3 := (HB3.out.block _ (block_lt HZ.out.2)).trans HZ.out.2
    have gm : w3.cell? ⟨w.heap.size + 1, 0, none⟩ = some (.int .i64 ((m : Int) + 1)) := (cell_of_row _ _ _ _ _ _ hzm3).trans rfl
    have hbw3 : Below w.heap.size w w3 := HB2.out.trans (HB3.out.mono HB2.out.size)
    have HC := hid (contains_unwritten m hm HIH.out _ ks xk w3 (Sl.more (Sl.below HS.out.1 hbw3) hbw3.size) ((HS.out.2.keep hbw3).more hbw3.size) HOK.out.1 (HX.out.below hbw3) (w.heap.size + 1) gm)
    clear hzz3 hzm3 hbw3
    go_wp2_with fail
    clear hm0 hm1 g0 g1 g2 g3 gm
    refine HC.out.mono ?_
    rintro e w4 ⟨rfl, hb4⟩
    have HB4 := hid (HB3.out.trans (hb4.mono HB3.out.size))
    clear hb4 HC
    cases hks : ks.all (writtenB m) with
    | false =>
      have HKS := hid hks
      clear hks
      go_wp2_with fail
      go_ret
      exact ⟨by rw [HNS.out, HKS.out]; rfl, HB2.out.trans (HB4.out.mono HB2.out.size)⟩
    | true =>
      have HKS := hid hks
      clear hks
      have hzz4 := (HB4.out.block _ (block_lt HZ.out.1)).trans HZ.out.1
      obtain ⟨g0, g1, g2, g3⟩ := t_row4 hzz4
      have HBW := hid (HB2.out.trans (HB4.out.mono HB2.out.size))
      have HNM : Hid (∀ wx : World, Below w.heap.size w wx → Calls Tryz.prog 41 #[sv nm] wx fun e w' => e = .returned (.bool (nameL nm)) ∧ Below wx.heap.size wx w') := hid (fun wx h => name_all wx nm (HX.out.below h) HOK.out.2)
      have ha : ns.length ≤ 2 ^ 63 - 1 := by omega
      have hb : ks.length ≤ 2 ^ 63 - 1 := by omega
      obtain ⟨a, hA⟩ : ∃ a, ns.length = a := ⟨_, rfl⟩
      obtain ⟨b, hB⟩ : ∃ b, ks.length = b := ⟨_, rfl⟩
      rw [hA] at g2 ha ⊢
      rw [hB] at g3 hb ⊢
      have HA := hid hA
      have HBB := hid hB
      clear hA hB
      clear hzz4 l1 l2 hmf
      by_cases n8 : k = 8
      · subst n8
        by_cases hz : a = 0 ∧ b = 0
        · obtain ⟨rfl, rfl⟩ := hz
          have HT : Hid (kindT 8 nm 0 0 = nameL nm) := hid (by simp [kindT])
          go_wp2_with fail
          go_quiet (fail)
          go_wp2_with fail
          refine (HNM.out _ (HBW.out.trans ((below_drawn w4 _).mono HBW.out.size))).mono ?_
          rintro e w5 ⟨rfl, hb5⟩
          go_wp2_with fail
          go_ret
          exact ⟨by rw [HNS.out, HKS.out, HA.out, HBB.out, HT.out]; rfl, (HBW.out.trans ((below_drawn w4 _).mono HBW.out.size)).trans (hb5.mono (HBW.out.trans ((below_drawn w4 _).mono HBW.out.size)).size)⟩
        · have hwz : (wrap64 ((a : Int) + (b : Int)) == 0) = false := wrap_zero ha hb hz
          have HT : Hid (kindT 8 nm a b = false) := hid (by simp [kindT]; omega)
          clear hz
          go_wp2_with fail
          go_quiet (fail)
          go_wp2_with fail
          go_ret
          exact ⟨by rw [HNS.out, HKS.out, HA.out, HBB.out, HT.out]; rfl, HBW.out.trans ((below_drawn w4 _).mono HBW.out.size)⟩
      have q8 : (k == 8) = false := beq_eq_false_iff_ne.mpr n8
      by_cases hnm : nm = []
      · subst hnm
        by_cases hk0 : k < 0
        · have g4 : decide (k < 0) = true := by simpa using hk0
          have HT : Hid (kindT k [] a b = false) := hid (by simp [kindT, n8]; intro h; omega)
          clear hk0 n8
          go_wp2_with fail
          go_quiet (fail)
          go_wp2_with fail
          go_ret
          exact ⟨by rw [HNS.out, HKS.out, HA.out, HBB.out, HT.out]; rfl, HBW.out.trans ((below_drawn w4 _).mono HBW.out.size)⟩
        have g4 : decide (k < 0) = false := by simpa using hk0
        by_cases hk7 : 7 < k
        · have g5 : decide (7 < k) = true := by simpa using hk7
          have HT : Hid (kindT k [] a b = false) := hid (by simp [kindT, n8, hk7])
          clear hk0 n8 hk7
          go_wp2_with fail
          go_quiet (fail)
          go_wp2_with fail
          go_ret
          exact ⟨by rw [HNS.out, HKS.out, HA.out, HBB.out, HT.out]; rfl, HBW.out.trans ((below_drawn w4 _).mono HBW.out.size)⟩
        have g5 : decide (7 < k) = false := by simpa using hk7
        by_cases n5 : k = 5
        · subst n5
          clear g4 g5 hk0 hk7 n8 q8
          by_cases hab : a = b
          · subst hab
            have HT : Hid (kindT 5 [] a a = true) := hid (by simp [kindT])
            go_wp2_with fail
            go_quiet (fail)
            go_wp2_with fail
            go_ret
            exact ⟨by rw [HNS.out, HKS.out, HA.out, HBB.out, HT.out]; rfl, HBW.out.trans ((below_drawn w4 _).mono HBW.out.size)⟩
          · have hq : ((a : Int) == (b : Int)) = false := beq_eq_false_iff_ne.mpr (by omega)
            have HT : Hid (kindT 5 [] a b = false) := hid (by simp [kindT, hab])
            clear hab
            go_wp2_with fail
            go_quiet (fail)
            go_wp2_with fail
            go_ret
            exact ⟨by rw [HNS.out, HKS.out, HA.out, HBB.out, HT.out]; rfl, HBW.out.trans ((below_drawn w4 _).mono HBW.out.size)⟩
        by_cases n6 : k = 6
        · subst n6
          clear g4 g5 hk0 hk7 n8 q8 n5
          by_cases ha0 : a = 0
          · subst ha0
            by_cases hb2 : b = 2
            · subst hb2
              have HT : Hid (kindT 6 [] 0 2 = true) := hid (by simp [kindT])
              go_wp2_with fail
              go_quiet (fail)
              go_wp2_with fail
              go_ret
              exact ⟨by rw [HNS.out, HKS.out, HA.out, HBB.out, HT.out]; rfl, HBW.out.trans ((below_drawn w4 _).mono HBW.out.size)⟩
            · have hq : ((b : Int) == 2) = false := beq_eq_false_iff_ne.mpr (by omega)
              have HT : Hid (kindT 6 [] 0 b = false) := hid (by simp [kindT, hb2])
              clear hb2
              go_wp2_with fail
              go_quiet (fail)
              go_wp2_with fail
              go_ret
              exact ⟨by rw [HNS.out, HKS.out, HA.out, HBB.out, HT.out]; rfl, HBW.out.trans ((below_drawn w4 _).mono HBW.out.size)⟩
          · have hq : ((a : Int) == 0) = false := beq_eq_false_iff_ne.mpr (by omega)
            have HT : Hid (kindT 6 [] a b = false) := hid (by simp [kindT, ha0])
            clear ha0
            go_wp2_with fail
            go_quiet (fail)
            go_wp2_with fail
            go_ret
            exact ⟨by rw [HNS.out, HKS.out, HA.out, HBB.out, HT.out]; rfl, HBW.out.trans ((below_drawn w4 _).mono HBW.out.size)⟩
        by_cases n7 : k = 7
        · subst n7
          clear g4 g5 hk0 hk7 n8 q8 n5 n6
          by_cases ha0 : a = 0
          · subst ha0
            by_cases hb2 : 2 ≤ b
            · have hq : decide ((2 : Int) ≤ (b : Int)) = true := by simp; omega
              have HT : Hid (kindT 7 [] 0 b = true) := hid (by simp [kindT, hb2])
              clear hb2
              go_wp2_with fail
              go_quiet (fail)
              go_wp2_with fail
              go_ret
              exact ⟨by rw [HNS.out, HKS.out, HA.out, HBB.out, HT.out]; rfl, HBW.out.trans ((below_drawn w4 _).mono HBW.out.size)⟩
            · have hq : decide ((2 : Int) ≤ (b : Int)) = false := by simp; omega
              have HT : Hid (kindT 7 [] 0 b = false) := hid (by simp [kindT, hb2])
              clear hb2
              go_wp2_with fail
              go_quiet (fail)
              go_wp2_with fail
              go_ret
              exact ⟨by rw [HNS.out, HKS.out, HA.out, HBB.out, HT.out]; rfl, HBW.out.trans ((below_drawn w4 _).mono HBW.out.size)⟩
          · have hq : ((a : Int) == 0) = false := beq_eq_false_iff_ne.mpr (by omega)
            have HT : Hid (kindT 7 [] a b = false) := hid (by simp [kindT, ha0])
            clear ha0
            go_wp2_with fail
            go_quiet (fail)
            go_wp2_with fail
            go_ret
            exact ⟨by rw [HNS.out, HKS.out, HA.out, HBB.out, HT.out]; rfl, HBW.out.trans ((below_drawn w4 _).mono HBW.out.size)⟩
        have q5 : (k == 5) = false := beq_eq_false_iff_ne.mpr n5
        have q6 : (k == 6) = false := beq_eq_false_iff_ne.mpr n6
        have q7 : (k == 7) = false := beq_eq_false_iff_ne.mpr n7
        by_cases hz : a = 0 ∧ b = 0
        · obtain ⟨rfl, rfl⟩ := hz
          have HT : Hid (kindT k [] 0 0 = true) := hid (by simp [kindT, n8, n5, n6, n7, hk0, hk7])
          clear n5 n6 n7 n8 hk0 hk7
          go_wp2_with fail
          go_quiet (fail)
          go_wp2_with fail
          go_ret
          exact ⟨by rw [HNS.out, HKS.out, HA.out, HBB.out, HT.out]; rfl, HBW.out.trans ((below_drawn w4 _).mono HBW.out.size)⟩
        · have hwz : (wrap64 ((a : Int) + (b : Int)) == 0) = false := wrap_zero ha hb hz
          have HT : Hid (kindT k [] a b = false) := hid (by simp [kindT, n8, n5, n6, n7, hk0, hk7]; omega)
          clear n5 n6 n7 n8 hk0 hk7 hz
          go_wp2_with fail
          go_quiet (fail)
          go_wp2_with fail
          go_ret
          exact ⟨by rw [HNS.out, HKS.out, HA.out, HBB.out, HT.out]; rfl, HBW.out.trans ((below_drawn w4 _).mono HBW.out.size)⟩
      · have hq : (nm == []) = false := by cases nm with | nil => exact absurd rfl hnm | cons c r => rfl
        have HT : Hid (kindT k nm a b = false) := hid (by simp [kindT, n8, hnm])
        clear n8
        go_wp2_with fail
        go_quiet (fail)
        go_wp2_with fail
        go_ret
        exact ⟨by rw [HNS.out, HKS.out, HA.out, HBB.out, HT.out]; rfl, HBW.out.trans ((below_drawn w4 _).mono HBW.out.size)⟩
theorem written_all : ∀ m : Nat, m ≤ 41 → WrC m
  | 0, _ => written_zero
  | m + 1, h => written_succ m (by omega) (written_all m (by omega))
end Go.Proofs.YtbpedjkebemhnaaGreatDoor
