/- GH, GJ, GI, GK, GL, TL, UM, GM, GN -/
import Derived.Test.YtmbppnbekkbibaaGreatDoorPF04
import Derived.Test.YtmbppnbekkbibaaGreatDoorPF01
import Derived.IntWalk
import Derived.Test.YtmbppnbekkbibaaGreatDoorRows
import Derived.Tactics
import Derived.Tactics2
import Derived.Defers
import Derived.Laws.Pointers
import Derived.Laws.LoneSync
import Derived.Laws.Tables
import Derived.RegionTactic
import Derived.RegionCalls
import Derived.Laws.MakeOwn
import Derived.Lib.ConvBytes
import Derived.Lib.AtoiErrMem
import Derived.Laws.CopyOwn
import Derived.Laws.OwnMore
import Derived.Test.YtmbppnbekkbibaaGreatDoorPF02
import Derived.Lib.Join
import Derived.Lib.ItoaLen
import Derived.Test.YtmbppnbekkbibaaGreatDoorPF05
import Derived.Deep.RegionHeld
import Derived.Lib.OthersKept
import Derived.Lib.TrimU
import Derived.Test.YtmbppnbekkbibaaGreatDoorPF03
import Derived.Deep.LoopGhost
import Derived.Shelf.Strings.IndexFuncSpace
import Derived.Test.YtmbppnbekkbibaaGreatDoorProg
import Derived.Deep.WholeRow
set_option linter.unusedSimpArgs false
set_option linter.unusedVariables false
section
/- Texts that belong together: XL, XR. -/
/- The contract of lex's Name. -/
set_option linter.unusedVariables false
namespace Go.Proofs.YtmbppnbekkbibaaGreatDoor
open Go.RowKit

set_option maxRecDepth 100000 in
set_option maxHeartbeats 1000000 in
theorem name_any (w : World) (s : Bt) (hX : LaidT w) (hs : s.length ≤ 281474976710656) : Calls Tryz.prog 63 #[sv s] w fun e w' => e = .returned (.bool (nameL s)) ∧ Below w.heap.size w w' := by
  have hsz := sv_size s
  cases s with
  | nil =>
    have ha : nameL [] = false := rfl
    rw [ha]
    go_enter Tryz.func63, Tryz.ntmps63
    go_wp2_with fail
    go_ret
    exact ⟨rfl, Below.refl _ _⟩
  | cons c r =>
    have hix : (ByteArray.mk (c :: r).toArray)[0]'(by rw [sv_size]; simp) = c := sv_index (c :: r) 0 (by simp)
    have hl0 : (0 : Int) < (r.length : Int) + 1 := by omega
    have hnz : ((c :: r : Bt) == []) = false := rfl
    have ha : nameL (c :: r) = (decide ((c :: r).length ≤ 32) && letterB c && decide (rowL innerB (c :: r) = (c :: r).length) && !decide ((c :: r) ∈ wordsL)) := rfl
    have HROW := hid (row_inner (c :: r) w hs)
    generalize rowL innerB (c :: r) = n at *
    by_cases h32 : (c :: r).length ≤ 32
    · have h32' : (r.length : Int) + 1 ≤ 32 := by simp only [List.length_cons] at h32; omega
      rw [decide_eq_true h32, Bool.true_and] at ha
      clear h32
      cases hl : letterB c
      · rw [hl] at ha
        simp only [Bool.false_and] at ha
        rw [ha]
        clear ha
        go_enter Tryz.func63, Tryz.ntmps63
        go_wp2_with fail
        refine (letter_any c _).mono ?_
        rintro e w1 ⟨rfl, rfl⟩
        rw [hl]
        go_wp2_with fail
        go_ret
        exact ⟨rfl, Below.refl _ _⟩
      · rw [hl, Bool.true_and] at ha
        by_cases hn : n = (c :: r).length
        · rw [decide_eq_true hn, Bool.true_and] at ha
          have hn' : (n : Int) = (r.length : Int) + 1 := by rw [hn]; simp
          clear hn
          rw [ha]
          clear ha
          generalize hq : decide ((c :: r) ∈ wordsL) = q
          go_enter Tryz.func63, Tryz.ntmps63
          go_wp2_with fail
          refine (letter_any c _).mono ?_
          rintro e w1 ⟨rfl, rfl⟩
          rw [hl]
          go_wp2_with fail
          refine HROW.out.mono ?_
          rintro e w2 ⟨rfl, rfl⟩
          go_wp2_with fail
          refine (words_any _ hX).mono ?_
          rintro e w3 ⟨v3, rfl, hss3, hb3⟩
          go_wp2_with fail
          refine (contains_any v3 wordsL (c :: r) _ hss3).mono ?_
          rintro e w4 ⟨rfl, rfl⟩
          rw [hq]
          go_wp2_with fail
          go_ret
          exact ⟨rfl, hb3⟩
        · rw [decide_eq_false hn, Bool.false_and] at ha
          have hn' : ¬ (n : Int) = (r.length : Int) + 1 := by intro h; apply hn; simp; omega
          clear hn
          rw [ha]
          clear ha
          go_enter Tryz.func63, Tryz.ntmps63
          go_wp2_with fail
          refine (letter_any c _).mono ?_
          rintro e w1 ⟨rfl, rfl⟩
          rw [hl]
          go_wp2_with fail
          refine HROW.out.mono ?_
          rintro e w2 ⟨rfl, rfl⟩
          go_wp2_with fail
          go_ret
          exact ⟨rfl, Below.refl _ _⟩
    · have h32' : ¬ (r.length : Int) + 1 ≤ 32 := by simp only [List.length_cons] at h32; omega
      rw [decide_eq_false h32] at ha
      simp only [Bool.false_and] at ha
      clear h32
      rw [ha]
      clear ha
      go_enter Tryz.func63, Tryz.ntmps63
      go_wp2_with fail
      go_ret
      exact ⟨rfl, Below.refl _ _⟩
end Go.Proofs.YtmbppnbekkbibaaGreatDoor

/- The contracts of the reference's Words, word, letter, digit and Name. -/
set_option linter.unusedVariables false
namespace Go.Proofs.YtmbppnbekkbibaaGreatDoor
open Go.RowKit

end Go.Proofs.YtmbppnbekkbibaaGreatDoor
end
section
/- Texts that belong together: TD, TE, TF. -/
/- Names at any length; are all of them names? -/
set_option linter.unusedVariables false
namespace Go.Proofs.YtmbppnbekkbibaaGreatDoor
open Go.RowKit

theorem nameL_long {s : Bt} (h : 32 < s.length) : nameL s = false := by
  cases s with
  | nil => simp at h
  | cons c r =>
    show (decide ((c :: r).length ≤ 32) && _ && _ && _) = false
    rw [decide_eq_false (by omega)]
    rfl
theorem name_all (w : World) (s : Bt) (hX : LaidT w) (hs : s.length ≤ maxLen) : Calls Tryz.prog 63 #[sv s] w fun e w' => e = .returned (.bool (nameL s)) ∧ Below w.heap.size w w' := by
  by_cases hl : s.length ≤ 281474976710656
  · exact name_any w s hX hl
  have hf := nameL_long (s := s) (by omega)
  have hsz := sv_size s
  have hn : (s == []) = false := by cases s with | nil => simp at hl | cons c r => rfl
  have hne : ¬ s = [] := by intro h; rw [h] at hl; simp at hl
  have hg : decide ((s.length : Int) ≤ 32) = false := by rw [decide_eq_false_iff_not]; omega
  rw [hf]
  unfold maxLen at hs
  clear hf hl
  go_enter Tryz.func63, Tryz.ntmps63
  go_wp2_with fail
  go_ret
  exact ⟨rfl, Below.refl _ _⟩
theorem name_not (w : World) (s : Bt) (hX : LaidT w) (hs : s.length ≤ maxLen) : Calls Tryz.prog 154 #[sv s] w fun e w' => e = .returned (.bool (!nameL s)) ∧ Below w.heap.size w w' := by
  have HN := hid (name_all w s hX hs)
  generalize nameL s = b at *
  go_enter Tryz.func154, Tryz.ntmps154
  go_wp2_with fail
  refine HN.out.mono ?_
  rintro e w2 ⟨rfl, hb⟩
  go_wp2_with fail
  go_ret
  exact ⟨rfl, hb⟩
theorem t_take {α : Type} {l : List α} {k : Nat} (h : k < l.length) : l.take (k + 1) = l.take k ++ [l[k]] := List.take_succ_eq_append_getElem h
/-- Where the first that is no name stands, or -1. -/
def AtNo (l : List Bt) (w : World) (e : Ending) (w' : World) : Prop := (∃ k : Int, e = .returned (.int .i64 k) ∧ (if l.all nameL then k = -1 else 0 ≤ k)) ∧ Below w.heap.size w w'
set_option maxRecDepth 100000 in
set_option maxHeartbeats 2000000 in
theorem index_names (v : Value) (l : List Bt) (w : World) (hv : Ss w w.heap.size v l) (hl : ∀ y ∈ l, y.length ≤ maxLen) (hX : LaidT w) :
    Calls Tryz.prog 138 #[v, .func (.func 154) #[] #[]] w (AtNo l w) := by
  have HV := hid hv
  obtain ⟨A, c, rfl⟩ := t_sl_exact hv (by omega) (m := l.length) (by rw [svs_length]; omega)
  obtain ⟨_, hn, hc⟩ := t_sl_len hv
  have HL := hid hl
  have HX := hid hX
  clear hv hl hX
  go_enter Tryz.func138, Tryz.ntmps138
  go_wp2_with fail
  go_loopw [8] (fun v8 wr => ∃ k : Nat, v8 = .int .i64 k ∧ k ≤ l.length ∧ (l.take k).all nameL = true ∧ Below w.heap.size w wr) (fun v8 _ => l.length - (intOf v8).toNat)
  case atStart => exact ⟨0, rfl, by omega, rfl, Below.refl _ _⟩
  case round =>
    obtain ⟨k, rfl, hk, hinv, hbr⟩ := hrel
    have HI := hid hinv
    clear hinv
    by_cases hlt : k < l.length
    · have hlt0 := hlt
      obtain ⟨b1, o1, rfl, hb1, hc1⟩ := t_sl_in HV.out hlt (by omega)
      have d1 : wr.cell? ⟨b1, o1 + k, none⟩ = some (sv l[k]) := t_keep hbr (by have := hc1 0 (sv l[k]) (by simp [svs, hlt]); simpa using this) hb1
      have HN := hid (name_not wr l[k] (HX.out.below hbr) (HL.out _ (List.getElem_mem hlt)))
      have hst := t_take hlt
      have HB := hid hbr
      clear hc1 hb1 hbr
      cases hq : nameL l[k] with
      | false =>
        have hall : l.all nameL = false := by
          cases h : l.all nameL with
          | false => rfl
          | true => rw [List.all_eq_true] at h; rw [h _ (List.getElem_mem hlt)] at hq; cases hq
        rw [hq] at HN
        have HALL := hid hall
        clear hq hst hall
        generalize l[k] = X at *
        go_wp2_with fail
        refine HN.out.mono ?_
        rintro e w2 ⟨rfl, hb⟩
        have HB2 := hid (HB.out.trans (hb.mono HB.out.size))
        clear hb d1
        go_wp2_with fail
        go_ret
        exact ⟨⟨k, rfl, by rw [HALL.out]; simp⟩, HB2.out⟩
      | true =>
        rw [hq] at HN
        have HST : Hid ((l.take (k + 1)).all nameL = true) := hid (by rw [hst, List.all_append, HI.out]; simp [hq])
        clear hq hst
        generalize l[k] = X at *
        go_wp2_with fail
        refine HN.out.mono ?_
        rintro e w2 ⟨rfl, hb⟩
        have HB2 := hid (HB.out.trans (hb.mono HB.out.size))
        clear hb d1
        go_wp2_with fail
        go_roundw
        case rel => exact ⟨k + 1, rfl, by omega, HST.out, HB2.out⟩
        case measure => simp [intOf]; omega
    · obtain rfl : k = l.length := by omega
      rw [List.take_length] at HI
      have HB := hid hbr
      clear hbr
      go_wp2_with fail
      go_ret
      exact ⟨⟨-1, rfl, by rw [HI.out]; simp⟩, HB.out⟩
theorem contains_no (v : Value) (l : List Bt) (w : World) (hv : Ss w w.heap.size v l) (hl : ∀ y ∈ l, y.length ≤ maxLen) (hX : LaidT w) :
    Calls Tryz.prog 153 #[v, .func (.func 154) #[] #[]] w fun e w' => e = .returned (.bool (!l.all nameL)) ∧ Below w.heap.size w w' := by
  have HI := hid (index_names v l w hv hl hX)
  obtain ⟨A, n, c, rfl⟩ := t_sl_shape hv
  clear hv hl hX
  cases hb : l.all nameL
  all_goals
    go_enter Tryz.func153, Tryz.ntmps153
    go_wp2_with fail
    refine HI.out.mono ?_
    rintro e w2 ⟨⟨k, rfl, hk⟩, hbel⟩
    rw [hb] at hk
    simp only [Bool.false_eq_true, if_false, if_true] at hk
    have HB := hid hbel
    clear hbel hb HI
  · have hg : decide (0 ≤ k) = true := by simpa using hk
    go_wp2_with fail
    go_ret
    exact ⟨rfl, HB.out⟩
  · subst hk
    go_wp2_with fail
    go_ret
    exact ⟨rfl, HB.out⟩
theorem tnamed_any (v : Value) (l : List Bt) (w : World) (hv : Ss w w.heap.size v l) (hl : ∀ y ∈ l, y.length ≤ maxLen) (hX : LaidT w) :
    Calls Tryz.prog 112 #[v] w fun e w' => e = .returned (.bool (l.all nameL)) ∧ Below w.heap.size w w' := by
  have HC := hid (contains_no v l w hv hl hX)
  obtain ⟨A, n, c, rfl⟩ := t_sl_shape hv
  clear hv hl hX
  generalize l.all nameL = b at *
  go_enter Tryz.func112, Tryz.ntmps112
  go_wp2_with fail
  refine HC.out.mono ?_
  rintro e w2 ⟨rfl, hb⟩
  go_wp2_with fail
  go_ret
  cases b <;> exact ⟨rfl, hb⟩
end Go.Proofs.YtmbppnbekkbibaaGreatDoor

/- Which types are written ones. -/
set_option linter.unusedVariables false
namespace Go.Proofs.YtmbppnbekkbibaaGreatDoor
open Go.RowKit

/-- The contract of written, so many within one another. -/
def WrC (m : Nat) : Prop := ∀ (w : World) (z : List Value) (t : TyD), TyR w w.heap.size z t → okT t → LaidT w →
  Calls Tryz.prog 113 #[.agg z.toArray, .int .i64 (m : Int)] w fun e w' => e = .returned (.bool (writtenB m t)) ∧ Below w.heap.size w w'
theorem not_written (m : Nat) (hm : m ≤ 40) (ih : WrC m) (w : World) (z : List Value) (t : TyD) (hr : TyR w w.heap.size z t) (hok : okT t) (hX : LaidT w) (p : Nat) (hp : w.cell? ⟨p, 0, none⟩ = some (.int .i64 ((m : Int) + 1))) :
    Calls Tryz.prog 156 #[.agg z.toArray, .pointer (some ⟨p, 0, none⟩)] w fun e w' => e = .returned (.bool (!writtenB m t)) ∧ Below w.heap.size w w' := by
  have hr0 := hr
  obtain ⟨k, s, A1, n1, c1, A2, n2, c2, rfl⟩ := hr.shape
  have hb1 : Below w.heap.size w (w.alloc (.cells #[.int .i64 k, .string s, .slice A1 n1 c1, .slice A2 n2 c2] 63)) := (Below.refl _ _).alloc (Nat.le_refl _) _
  have HI := hid (ih _ _ t (hr0.far (Nat.le_refl _) hb1) hok (hX.below hb1))
  have HB := hid hb1
  have hpl : p < w.heap.size := World.block_lt_of_cell? w _ hp
  clear hr hr0 hX hb1 hok ih
  generalize writtenB m t = b at *
  go_enter Tryz.func156, Tryz.ntmps156
  go_wp2_with fail
  refine HI.out.mono ?_
  rintro e w2 ⟨rfl, hb⟩
  go_wp2_with fail
  go_ret
  exact ⟨rfl, HB.out.trans (hb.mono HB.out.size)⟩
def AtNoT (m : Nat) (l : List TyD) (w : World) (e : Ending) (w' : World) : Prop := (∃ k : Int, e = .returned (.int .i64 k) ∧ (if l.all (writtenB m) then k = -1 else 0 ≤ k)) ∧ Below w.heap.size w w'
set_option maxRecDepth 100000 in
set_option maxHeartbeats 2000000 in
theorem index_unwritten (m : Nat) (hm : m ≤ 40) (ih : WrC m) (v : Value) (l : List TyD) (xs : List Value) (w : World) (hv : Sl w w.heap.size 4 v xs) (hr : TysR w w.heap.size xs l) (hl : ∀ y ∈ l, okT y) (hX : LaidT w) (p : Nat) (hp : w.cell? ⟨p, 0, none⟩ = some (.int .i64 ((m : Int) + 1))) :
    Calls Tryz.prog 177 #[v, .func (.func 156) #[] #[.pointer (some ⟨p, 0, none⟩)]] w (AtNoT m l w) := by
  have HV := hid hv
  obtain ⟨A, c, rfl⟩ := t_sl_exact hv (by omega) (m := l.length) hr.length
  obtain ⟨_, hn, hc⟩ := t_sl_len hv
  have HL := hid hl
  have HX := hid hX
  have HR := hid hr
  have HP := hid hp
  have HIH := hid ih
  have hpl := World.block_lt_of_cell? w _ hp
  have HPL := hid hpl
  clear hv hl hX hr hp ih hpl
  go_enter Tryz.func177, Tryz.ntmps177
  go_wp2_with fail
  go_loopw [8] (fun v8 wr => ∃ k : Nat, v8 = .int .i64 k ∧ k ≤ l.length ∧ (l.take k).all (writtenB m) = true ∧ Below w.heap.size w wr) (fun v8 _ => l.length - (intOf v8).toNat)
  case atStart => exact ⟨0, rfl, by omega, rfl, Below.refl _ _⟩
  case round =>
    obtain ⟨k, rfl, hk, hinv, hbr⟩ := hrel
    have HI := hid hinv
    clear hinv
    by_cases hlt : k < l.length
    · have hlt0 := hlt
      obtain ⟨b1, o1, rfl, hb1, hc1⟩ := t_sl_in HV.out hlt (by omega)
      have hr1 := HR.out.at k hlt
      obtain ⟨kk, s, A1, n1, c1, A2, n2, c2, hv1⟩ := hr1.shape
      rw [hv1] at hr1
      have d0 : wr.cell? ⟨b1, o1 + k * 4, none⟩ = some (.int .i64 kk) := t_keep hbr (by have := hc1 0 _ (t_part hv1 (by omega : 0 < 4)); simpa using this) hb1
      have d1 : wr.cell? ⟨b1, o1 + k * 4 + 1, none⟩ = some (.string s) := t_keep hbr (by have := hc1 1 _ (t_part hv1 (by omega : 1 < 4)); simpa [Nat.add_assoc] using this) hb1
      have d2 : wr.cell? ⟨b1, o1 + k * 4 + 2, none⟩ = some (.slice A1 n1 c1) := t_keep hbr (by have := hc1 2 _ (t_part hv1 (by omega : 2 < 4)); simpa [Nat.add_assoc] using this) hb1
      have d3 : wr.cell? ⟨b1, o1 + k * 4 + 3, none⟩ = some (.slice A2 n2 c2) := t_keep hbr (by have := hc1 3 _ (t_part hv1 (by omega : 3 < 4)); simpa [Nat.add_assoc] using this) hb1
      have HN := hid (not_written m hm HIH.out wr _ l[k] (hr1.far (Nat.le_refl _) hbr) (HL.out _ (List.getElem_mem hlt)) (HX.out.below hbr) p (t_keep hbr HP.out HPL.out))
      have hst := t_take hlt
      have HB := hid hbr
      clear hc1 hb1 hbr hv1 hr1
      cases hq : writtenB m l[k] with
      | false =>
        have hall : l.all (writtenB m) = false := by
          cases h : l.all (writtenB m) with
          | false => rfl
          | true => rw [List.all_eq_true] at h; rw [h _ (List.getElem_mem hlt)] at hq; cases hq
        rw [hq] at HN
        have HALL := hid hall
        clear hq hst hall
        generalize l[k] = X at *
        go_wp2_with fail
        refine HN.out.mono ?_
        rintro e w2 ⟨rfl, hb⟩
        have HB2 := hid (HB.out.trans (hb.mono HB.out.size))
        clear hb d0 d1 d2 d3
        go_wp2_with fail
        go_ret
        exact ⟨⟨k, rfl, by rw [HALL.out]; simp⟩, HB2.out⟩
      | true =>
        rw [hq] at HN
        have HST : Hid ((l.take (k + 1)).all (writtenB m) = true) := hid (by rw [hst, List.all_append, HI.out]; simp [hq])
        clear hq hst
        generalize l[k] = X at *
        go_wp2_with fail
        refine HN.out.mono ?_
        rintro e w2 ⟨rfl, hb⟩
        have HB2 := hid (HB.out.trans (hb.mono HB.out.size))
        clear hb d0 d1 d2 d3
        go_wp2_with fail
        go_roundw
        case rel => exact ⟨k + 1, rfl, by omega, HST.out, HB2.out⟩
        case measure => simp [intOf]; omega
    · obtain rfl : k = l.length := by omega
      rw [List.take_length] at HI
      have HB := hid hbr
      clear hbr
      go_wp2_with fail
      go_ret
      exact ⟨⟨-1, rfl, by rw [HI.out]; simp⟩, HB.out⟩
theorem contains_unwritten (m : Nat) (hm : m ≤ 40) (ih : WrC m) (v : Value) (l : List TyD) (xs : List Value) (w : World) (hv : Sl w w.heap.size 4 v xs) (hr : TysR w w.heap.size xs l) (hl : ∀ y ∈ l, okT y) (hX : LaidT w) (p : Nat) (hp : w.cell? ⟨p, 0, none⟩ = some (.int .i64 ((m : Int) + 1))) :
    Calls Tryz.prog 155 #[v, .func (.func 156) #[] #[.pointer (some ⟨p, 0, none⟩)]] w fun e w' => e = .returned (.bool (!l.all (writtenB m))) ∧ Below w.heap.size w w' := by
  have HI := hid (index_unwritten m hm ih v l xs w hv hr hl hX p hp)
  obtain ⟨A, n, c, rfl⟩ := t_sl_shape hv
  clear hv hl hX hr hp ih
  cases hb : l.all (writtenB m)
  all_goals
    go_enter Tryz.func155, Tryz.ntmps155
    go_wp2_with fail
    refine HI.out.mono ?_
    rintro e w2 ⟨⟨k, rfl, hk⟩, hbel⟩
    rw [hb] at hk
    simp only [Bool.false_eq_true, if_false, if_true] at hk
    have HB := hid hbel
    clear hbel hb HI
  · have hg : decide (0 ≤ k) = true := by simpa using hk
    go_wp2_with fail
    go_ret
    exact ⟨rfl, HB.out⟩
  · subst hk
    go_wp2_with fail
    go_ret
    exact ⟨rfl, HB.out⟩
end Go.Proofs.YtmbppnbekkbibaaGreatDoor

/- Which types are written ones: tree.written. -/
set_option linter.unusedVariables false
namespace Go.Proofs.YtmbppnbekkbibaaGreatDoor
open Go.RowKit

theorem t_row4 {w : World} {b : Nat} {x0 x1 x2 x3 : Value} {T : TypeId} (h : w.heap[b]? = some (.cells #[x0, x1, x2, x3] T (0, 0))) :
    w.cell? ⟨b, 0, none⟩ = some x0 ∧ w.cell? ⟨b, 1, none⟩ = some x1 ∧ w.cell? ⟨b, 2, none⟩ = some x2 ∧ w.cell? ⟨b, 3, none⟩ = some x3 :=
  ⟨(cell_of_row _ _ _ _ _ _ h).trans rfl, (cell_of_row _ _ _ _ _ _ h).trans rfl, (cell_of_row _ _ _ _ _ _ h).trans rfl, (cell_of_row _ _ _ _ _ _ h).trans rfl⟩
theorem wrap_zero {a b : Nat} (ha : a ≤ 2 ^ 63 - 1) (hb : b ≤ 2 ^ 63 - 1) (h : ¬ (a = 0 ∧ b = 0)) : (wrap64 ((a : Int) + (b : Int)) == 0) = false := by
  rw [beq_eq_false_iff_ne]
  intro h0
  unfold wrap64 at h0
  omega
theorem written_zero : WrC 0 := by
  intro w z t hr hok hX
  have hw : writtenB 0 t = false := rfl
  rw [hw]
  obtain ⟨k, s, A1, n1, c1, A2, n2, c2, rfl⟩ := hr.shape
  have hb2 : Below w.heap.size w ((w.alloc (.cells #[.int .i64 k, .string s, .slice A1 n1 c1, .slice A2 n2 c2] 63)).alloc (.cells #[.int .i64 0] 3)) := ((Below.refl _ _).alloc (Nat.le_refl _) _).alloc (by simp) _
  have HB := hid hb2
  clear hr hok hX hb2 hw
  go_enter Tryz.func113, Tryz.ntmps113
  go_wp2_with fail
  go_ret
  exact ⟨rfl, HB.out⟩
set_option maxRecDepth 100000 in
set_option maxHeartbeats 8000000 in
theorem written_succ (m : Nat) (hm : m ≤ 40) (ih : WrC m) : WrC (m + 1) := by
  intro w z t hr hok hX
  obtain ⟨k, nm, ns, ks⟩ := t
  rw [okT] at hok
  obtain ⟨ok1, ok2, ok3, ok4⟩ := hok
  obtain ⟨A1, c1, A2, c2, xk, rfl, s1, s2, r2⟩ := hr.parts
  have l1 := (t_sl_len s1).2
  have l2 := (t_sl_len s2).2
  clear hr
  have hw : writtenB (m + 1) (.mk k nm ns ks) = (ns.all nameL && ks.all (writtenB m) && kindT k nm ns.length ks.length) := rfl
  rw [hw]
  clear hw
  have hz1 := heap_alloc_new w (.cells #[.int .i64 k, sv nm, .slice A1 ns.length c1, .slice A2 ks.length c2] 63)
  obtain ⟨W1, hW1⟩ : ∃ W1, W1 = w.alloc (.cells #[.int .i64 k, sv nm, .slice A1 ns.length c1, .slice A2 ks.length c2] 63) := ⟨_, rfl⟩
  have hb1 : Below w.heap.size w W1 := by rw [hW1]; exact (Below.refl _ _).alloc (Nat.le_refl _) _
  rw [← hW1] at hz1
  have hs1 : W1.heap.size = w.heap.size + 1 := by rw [hW1]; exact Array.size_push _
  have hz2 := heap_alloc_new W1 (.cells #[.int .i64 ((m : Int) + 1)] 3)
  obtain ⟨W2, hW2⟩ : ∃ W2, W2 = W1.alloc (.cells #[.int .i64 ((m : Int) + 1)] 3) := ⟨_, rfl⟩
  have hb12 : Below W1.heap.size W1 W2 := by rw [hW2]; exact (Below.refl _ _).alloc (Nat.le_refl _) _
  have hb2 : Below w.heap.size w W2 := hb1.trans (hb12.mono hb1.size)
  rw [← hW2, hs1] at hz2
  have hz1 := (hb12.block _ (block_lt hz1)).trans hz1
  have HZ := hid (And.intro hz1 hz2)
  have hwe := hW2
  rw [hW1] at hwe
  have HWE := hid hwe
  have HB2 := hid hb2
  have HN := hid (tnamed_any _ ns W2 (Sl.more (Sl.below s1 hb2) hb2.size) ok3 (hX.below hb2))
  rw [hwe] at HN
  have HS := hid (And.intro s2 r2)
  have HOK := hid (And.intro (okTs_mem.1 ok4) ok2)
  have HX := hid hX
  have HIH := hid ih
  have hmf : ∀ (fn : Fn) (first cap : Array Value) (w : World), (Instr.makeFunc fn first cap).run Tryz.prog w = .ok (.func fn first cap) w := fun _ _ _ _ => rfl
  have hm0 : (((m : Int) + 1) == 0) = false := by rw [beq_eq_false_iff_ne]; omega
  have hm1 : (((m + 1 : Nat) : Int) == 0) = false := by rw [beq_eq_false_iff_ne]; omega
  clear s1 s2 r2 ok1 ok2 ok3 ok4 hX ih hz1 hz2 hb1 hb12 hb2 hs1 hW1 hW2 hwe
  go_enter Tryz.func113, Tryz.ntmps113
  go_wp2_with fail
  refine HN.out.mono ?_
  rintro e w3 ⟨rfl, hb3⟩
  rw [← HWE.out] at hb3
  have HB3 := hid hb3
  clear hb3 HN
  cases hns : ns.all nameL with
  | false =>
    have HNS := hid hns
    clear hns
    go_wp2_with fail
    go_ret
    exact ⟨by rw [HNS.out]; rfl, HB2.out.trans (HB3.out.mono HB2.out.size)⟩
  | true =>
    have HNS := hid hns
    clear hns
    have hzz3 := (HB3.out.block _ (block_lt HZ.out.1)).trans HZ.out.1
    obtain ⟨g0, g1, g2, g3⟩ := t_row4 hzz3
    have hzm3 := (HB3.out.block _ (block_lt HZ.out.2)).trans HZ.out.2
    have gm : w3.cell? ⟨w.heap.size + 1, 0, none⟩ = some (.int .i64 ((m : Int) + 1)) := (cell_of_row _ _ _ _ _ _ hzm3).trans rfl
    have hbw3 : Below w.heap.size w w3 := HB2.out.trans (HB3.out.mono HB2.out.size)
    have HC := hid (contains_unwritten m hm HIH.out _ ks xk w3 (Sl.more (Sl.below HS.out.1 hbw3) hbw3.size) ((HS.out.2.keep hbw3).more hbw3.size) HOK.out.1 (HX.out.below hbw3) (w.heap.size + 1) gm)
    clear hzz3 hzm3 hbw3
    go_wp2_with fail
    clear hm0 hm1 g0 g1 g2 g3 gm
    refine HC.out.mono ?_
    rintro e w4 ⟨rfl, hb4⟩
    have HB4 := hid (HB3.out.trans (hb4.mono HB3.out.size))
    clear hb4 HC
    cases hks : ks.all (writtenB m) with
    | false =>
      have HKS := hid hks
      clear hks
      go_wp2_with fail
      go_ret
      exact ⟨by rw [HNS.out, HKS.out]; rfl, HB2.out.trans (HB4.out.mono HB2.out.size)⟩
    | true =>
      have HKS := hid hks
      clear hks
      have hzz4 := (HB4.out.block _ (block_lt HZ.out.1)).trans HZ.out.1
      obtain ⟨g0, g1, g2, g3⟩ := t_row4 hzz4
      have HBW := hid (HB2.out.trans (HB4.out.mono HB2.out.size))
      have HNM : Hid (∀ wx : World, Below w.heap.size w wx → Calls Tryz.prog 63 #[sv nm] wx fun e w' => e = .returned (.bool (nameL nm)) ∧ Below wx.heap.size wx w') := hid (fun wx h => name_all wx nm (HX.out.below h) HOK.out.2)
      have ha : ns.length ≤ 2 ^ 63 - 1 := by omega
      have hb : ks.length ≤ 2 ^ 63 - 1 := by omega
      obtain ⟨a, hA⟩ : ∃ a, ns.length = a := ⟨_, rfl⟩
      obtain ⟨b, hB⟩ : ∃ b, ks.length = b := ⟨_, rfl⟩
      rw [hA] at g2 ha ⊢
      rw [hB] at g3 hb ⊢
      have HA := hid hA
      have HBB := hid hB
      clear hA hB
      clear hzz4 l1 l2 hmf
      by_cases n8 : k = 8
      · subst n8
        by_cases hz : a = 0 ∧ b = 0
        · obtain ⟨rfl, rfl⟩ := hz
          have HT : Hid (kindT 8 nm 0 0 = nameL nm) := hid (by simp [kindT])
          go_wp2_with fail
          go_quiet (fail)
          go_wp2_with fail
          refine (HNM.out _ (HBW.out.trans ((below_drawn w4 _).mono HBW.out.size))).mono ?_
          rintro e w5 ⟨rfl, hb5⟩
          go_wp2_with fail
          go_ret
          exact ⟨by rw [HNS.out, HKS.out, HA.out, HBB.out, HT.out]; rfl, (HBW.out.trans ((below_drawn w4 _).mono HBW.out.size)).trans (hb5.mono (HBW.out.trans ((below_drawn w4 _).mono HBW.out.size)).size)⟩
        · have hwz : (wrap64 ((a : Int) + (b : Int)) == 0) = false := wrap_zero ha hb hz
          have HT : Hid (kindT 8 nm a b = false) := hid (by simp [kindT]; omega)
          clear hz
          go_wp2_with fail
          go_quiet (fail)
          go_wp2_with fail
          go_ret
          exact ⟨by rw [HNS.out, HKS.out, HA.out, HBB.out, HT.out]; rfl, HBW.out.trans ((below_drawn w4 _).mono HBW.out.size)⟩
      have q8 : (k == 8) = false := beq_eq_false_iff_ne.mpr n8
      by_cases hnm : nm = []
      · subst hnm
        by_cases hk0 : k < 0
        · have g4 : decide (k < 0) = true := by simpa using hk0
          have HT : Hid (kindT k [] a b = false) := hid (by simp [kindT, n8]; intro h; omega)
          clear hk0 n8
          go_wp2_with fail
          go_quiet (fail)
          go_wp2_with fail
          go_ret
          exact ⟨by rw [HNS.out, HKS.out, HA.out, HBB.out, HT.out]; rfl, HBW.out.trans ((below_drawn w4 _).mono HBW.out.size)⟩
        have g4 : decide (k < 0) = false := by simpa using hk0
        by_cases hk7 : 7 < k
        · have g5 : decide (7 < k) = true := by simpa using hk7
          have HT : Hid (kindT k [] a b = false) := hid (by simp [kindT, n8, hk7])
          clear hk0 n8 hk7
          go_wp2_with fail
          go_quiet (fail)
          go_wp2_with fail
          go_ret
          exact ⟨by rw [HNS.out, HKS.out, HA.out, HBB.out, HT.out]; rfl, HBW.out.trans ((below_drawn w4 _).mono HBW.out.size)⟩
        have g5 : decide (7 < k) = false := by simpa using hk7
        by_cases n5 : k = 5
        · subst n5
          clear g4 g5 hk0 hk7 n8 q8
          by_cases hab : a = b
          · subst hab
            have HT : Hid (kindT 5 [] a a = true) := hid (by simp [kindT])
            go_wp2_with fail
            go_quiet (fail)
            go_wp2_with fail
            go_ret
            exact ⟨by rw [HNS.out, HKS.out, HA.out, HBB.out, HT.out]; rfl, HBW.out.trans ((below_drawn w4 _).mono HBW.out.size)⟩
          · have hq : ((a : Int) == (b : Int)) = false := beq_eq_false_iff_ne.mpr (by omega)
            have HT : Hid (kindT 5 [] a b = false) := hid (by simp [kindT, hab])
            clear hab
            go_wp2_with fail
            go_quiet (fail)
            go_wp2_with fail
            go_ret
            exact ⟨by rw [HNS.out, HKS.out, HA.out, HBB.out, HT.out]; rfl, HBW.out.trans ((below_drawn w4 _).mono HBW.out.size)⟩
        by_cases n6 : k = 6
        · subst n6
          clear g4 g5 hk0 hk7 n8 q8 n5
          by_cases ha0 : a = 0
          · subst ha0
            by_cases hb2 : b = 2
            · subst hb2
              have HT : Hid (kindT 6 [] 0 2 = true) := hid (by simp [kindT])
              go_wp2_with fail
              go_quiet (fail)
              go_wp2_with fail
              go_ret
              exact ⟨by rw [HNS.out, HKS.out, HA.out, HBB.out, HT.out]; rfl, HBW.out.trans ((below_drawn w4 _).mono HBW.out.size)⟩
            · have hq : ((b : Int) == 2) = false := beq_eq_false_iff_ne.mpr (by omega)
              have HT : Hid (kindT 6 [] 0 b = false) := hid (by simp [kindT, hb2])
              clear hb2
              go_wp2_with fail
              go_quiet (fail)
              go_wp2_with fail
              go_ret
              exact ⟨by rw [HNS.out, HKS.out, HA.out, HBB.out, HT.out]; rfl, HBW.out.trans ((below_drawn w4 _).mono HBW.out.size)⟩
          · have hq : ((a : Int) == 0) = false := beq_eq_false_iff_ne.mpr (by omega)
            have HT : Hid (kindT 6 [] a b = false) := hid (by simp [kindT, ha0])
            clear ha0
            go_wp2_with fail
            go_quiet (fail)
            go_wp2_with fail
            go_ret
            exact ⟨by rw [HNS.out, HKS.out, HA.out, HBB.out, HT.out]; rfl, HBW.out.trans ((below_drawn w4 _).mono HBW.out.size)⟩
        by_cases n7 : k = 7
        · subst n7
          clear g4 g5 hk0 hk7 n8 q8 n5 n6
          by_cases ha0 : a = 0
          · subst ha0
            by_cases hb2 : 2 ≤ b
            · have hq : decide ((2 : Int) ≤ (b : Int)) = true := by simp; omega
              have HT : Hid (kindT 7 [] 0 b = true) := hid (by simp [kindT, hb2])
              clear hb2
              go_wp2_with fail
              go_quiet (fail)
              go_wp2_with fail
              go_ret
              exact ⟨by rw [HNS.out, HKS.out, HA.out, HBB.out, HT.out]; rfl, HBW.out.trans ((below_drawn w4 _).mono HBW.out.size)⟩
            · have hq : decide ((2 : Int) ≤ (b : Int)) = false := by simp; omega
              have HT : Hid (kindT 7 [] 0 b = false) := hid (by simp [kindT, hb2])
              clear hb2
              go_wp2_with fail
              go_quiet (fail)
              go_wp2_with fail
              go_ret
              exact ⟨by rw [HNS.out, HKS.out, HA.out, HBB.out, HT.out]; rfl, HBW.out.trans ((below_drawn w4 _).mono HBW.out.size)⟩
          · have hq : ((a : Int) == 0) = false := beq_eq_false_iff_ne.mpr (by omega)
            have HT : Hid (kindT 7 [] a b = false) := hid (by simp [kindT, ha0])
            clear ha0
            go_wp2_with fail
            go_quiet (fail)
            go_wp2_with fail
            go_ret
            exact ⟨by rw [HNS.out, HKS.out, HA.out, HBB.out, HT.out]; rfl, HBW.out.trans ((below_drawn w4 _).mono HBW.out.size)⟩
        have q5 : (k == 5) = false := beq_eq_false_iff_ne.mpr n5
        have q6 : (k == 6) = false := beq_eq_false_iff_ne.mpr n6
        have q7 : (k == 7) = false := beq_eq_false_iff_ne.mpr n7
        by_cases hz : a = 0 ∧ b = 0
        · obtain ⟨rfl, rfl⟩ := hz
          have HT : Hid (kindT k [] 0 0 = true) := hid (by simp [kindT, n8, n5, n6, n7, hk0, hk7])
          clear n5 n6 n7 n8 hk0 hk7
          go_wp2_with fail
          go_quiet (fail)
          go_wp2_with fail
          go_ret
          exact ⟨by rw [HNS.out, HKS.out, HA.out, HBB.out, HT.out]; rfl, HBW.out.trans ((below_drawn w4 _).mono HBW.out.size)⟩
        · have hwz : (wrap64 ((a : Int) + (b : Int)) == 0) = false := wrap_zero ha hb hz
          have HT : Hid (kindT k [] a b = false) := hid (by simp [kindT, n8, n5, n6, n7, hk0, hk7]; omega)
          clear n5 n6 n7 n8 hk0 hk7 hz
          go_wp2_with fail
          go_quiet (fail)
          go_wp2_with fail
          go_ret
          exact ⟨by rw [HNS.out, HKS.out, HA.out, HBB.out, HT.out]; rfl, HBW.out.trans ((below_drawn w4 _).mono HBW.out.size)⟩
      · have hq : (nm == []) = false := by cases nm with | nil => exact absurd rfl hnm | cons c r => rfl
        have HT : Hid (kindT k nm a b = false) := hid (by simp [kindT, n8, hnm])
        clear n8
        go_wp2_with fail
        go_quiet (fail)
        go_wp2_with fail
        go_ret
        exact ⟨by rw [HNS.out, HKS.out, HA.out, HBB.out, HT.out]; rfl, HBW.out.trans ((below_drawn w4 _).mono HBW.out.size)⟩
theorem written_all : ∀ m : Nat, m ≤ 41 → WrC m
  | 0, _ => written_zero
  | m + 1, h => written_succ m (by omega) (written_all m (by omega))
end Go.Proofs.YtmbppnbekkbibaaGreatDoor
end
section
/- Texts that belong together: QA, QB, PE, QC, QD, QE, QF. -/
/- sync.Once in one goroutine: its parts, each a contract of its own. -/
set_option linter.unusedVariables false
namespace Go.Proofs.YtmbppnbekkbibaaGreatDoor
open Go.RowKit

end Go.Proofs.YtmbppnbekkbibaaGreatDoor

/- What strings.Replacer builds at texts of one byte each that are replaced by texts: a table by the byte. -/
set_option linter.unusedVariables false
namespace Go.Proofs.YtmbppnbekkbibaaGreatDoor
open Go.RowKit

/-- What is replaced, in the order of the table's making. -/
def escP : List (UInt8 × Bt) := [(9, [92, 116]), (10, [92, 110]), (34, [92, 34]), (92, [92, 92])]
def nilV : Value := .slice none 0 0
/-- The table by the byte (l), and the texts that are replaced (m). -/
def TabM (w : World) (base bs : Nat) (m : List Bt) (l : List (UInt8 × Bt)) : Prop :=
  ∃ (cs : Array Value) (tr : Value), w.heap[bs]? = some (.cells cs 293 (0, 0)) ∧ cs.size = 257 ∧ cs[256]? = some tr ∧ OwnS w base 9 tr m ∧ base ≤ bs ∧ tr.ownBlock ≠ some bs ∧
    ∀ c : UInt8, (l.lookup c = none → cs[c.toNat]? = some nilV) ∧ (∀ u, l.lookup c = some u → ∃ g k, cs[c.toNat]? = some (.slice (some ⟨g, 0, none⟩) u.length k) ∧ base ≤ g ∧ g < w.heap.size ∧ g ≠ bs ∧ tr.ownBlock ≠ some g ∧ ∀ (j : Nat) (hj : j < u.length), w.cell? ⟨g, j, none⟩ = some (.int .u8 (u[j].toNat : Int)))
theorem TabM.below {w w' : World} {base bs : Nat} {m : List Bt} {l : List (UInt8 × Bt)} (h : TabM w base bs m l) (hb : Below w.heap.size w w') : TabM w' base bs m l := by
  obtain ⟨cs, tr, h1, h2, h3, h4, h5, h6, h7⟩ := h
  refine ⟨cs, tr, (hb.block bs (block_lt h1)).trans h1, h2, h3, h4.below hb, h5, h6, fun c => ⟨(h7 c).1, fun u hu => ?_⟩⟩
  obtain ⟨g, k, a1, a0, a2, a3, a4, a7⟩ := (h7 c).2 u hu
  exact ⟨g, k, a1, a0, Nat.lt_of_lt_of_le a2 hb.size, a3, a4, fun j hj => (hb.cell (p := ⟨g, j, none⟩) a2).trans (a7 j hj)⟩
theorem TabM.grow {w w9 : World} {base bs : Nat} {m m' : List Bt} {l : List (UInt8 × Bt)} {cs : Array Value} {tr tr' : Value} (h : TabM w base bs m l) (hcs : w.heap[bs]? = some (.cells cs 293 (0, 0))) (htr : cs[256]? = some tr)
    (hg : w.grownBy w9 tr.ownBlock) (ho : OwnS w9 base 9 tr' m') (hb : tr'.ownBlock = tr.ownBlock ∨ tr'.ownBlock = some w.heap.size) : TabM (w9.setCell ⟨bs, 256, none⟩ tr') base bs m' l := by
  obtain ⟨cs0, tr0, h1, h2, h3, h4, h5, h6, h7⟩ := h
  rw [hcs] at h1
  simp only [Option.some.injEq, Obj.cells.injEq] at h1
  obtain ⟨rfl, _⟩ := h1
  rw [htr] at h3
  injection h3 with h3
  subst h3
  have hbs : bs < w.heap.size := block_lt hcs
  have hg9 : w9.heap[bs]? = some (.cells cs 293 (0, 0)) := (hg.block bs hbs h6.symm).trans hcs
  have hne : tr'.ownBlock ≠ some bs := by
    rcases hb with hb | hb
    · rw [hb]; exact h6
    · rw [hb]; intro h; injection h with h; omega
  have ht := turn_set w9 bs 256 tr'
  refine ⟨cs.setIfInBounds 256 tr', tr', heap_setCell_same w9 bs 256 _ _ tr' hg9, by simp [h2], ?_, ho.turn ht (fun g hg h => hne (by rw [hg, h])), h5, hne, fun c => ?_⟩
  · rw [Array.getElem?_setIfInBounds_self]; simp [h2]
  · have hc := c.toNat_lt
    have hcs' : (cs.setIfInBounds 256 tr')[c.toNat]? = cs[c.toNat]? := by rw [Array.getElem?_setIfInBounds_ne (by omega)]
    rw [hcs']
    refine ⟨(h7 c).1, fun u hu => ?_⟩
    obtain ⟨g, k, a1, a0, a2, a3, a4, a7⟩ := (h7 c).2 u hu
    refine ⟨g, k, a1, a0, by simp only [World.size_setCell]; exact Nat.lt_of_lt_of_le a2 hg.size, a3, ?_, fun j hj => ?_⟩
    · rcases hb with hb | hb
      · rw [hb]; exact a4
      · rw [hb]; intro h; injection h with h; omega
    · rw [World.cell?_setCell_other _ _ _ _ (by intro h; have := congrArg Addr.block h; simp at this; omega)]
      have : w9.cell? ⟨g, j, none⟩ = w.cell? ⟨g, j, none⟩ := by simp only [World.cell?, hg.block g a2 a4.symm]
      rw [this]; exact a7 j hj
theorem TabM.put {w : World} {base bs : Nat} {m : List Bt} {l : List (UInt8 × Bt)} (h : TabM w base bs m l) (c : UInt8) (u : Bt) (hl : l.lookup c = none) {w' : World} (hb : Below w.heap.size w w') {k : Nat}
    (hlt : w.heap.size < w'.heap.size) (hc : ∀ (j : Nat) (hj : j < u.length), w'.cell? ⟨w.heap.size, j, none⟩ = some (.int .u8 (u[j].toNat : Int))) :
    TabM (w'.setCell ⟨bs, c.toNat, none⟩ (.slice (some ⟨w.heap.size, 0, none⟩) u.length k)) base bs m (l ++ [(c, u)]) := by
  have h' := h.below hb
  obtain ⟨cs0, tr0, g1, _, g3, g4, _, _, _⟩ := h
  have hbs : bs < w.heap.size := block_lt g1
  obtain ⟨cs, tr, h1, h2, h3, h4, h5, h6, h7⟩ := h'
  have hsame : some (Obj.cells cs 293 (0, 0)) = some (Obj.cells cs0 293 (0, 0)) := by rw [← h1, ← g1, hb.block bs hbs]
  injection hsame with hsame
  injection hsame with hsame
  subst hsame
  rw [h3] at g3
  injection g3 with g3
  subst g3
  have hcl := c.toNat_lt
  have ht := turn_set w' bs c.toNat (.slice (some ⟨w.heap.size, 0, none⟩) u.length k)
  refine ⟨cs.setIfInBounds c.toNat (.slice (some ⟨w.heap.size, 0, none⟩) u.length k), tr, heap_setCell_same w' bs c.toNat _ _ _ h1, by simp [h2], ?_, h4.turn ht (fun g hg h => h6 (by rw [hg, h])), h5, h6, fun d => ?_⟩
  · rw [Array.getElem?_setIfInBounds_ne (by omega)]; exact h3
  · have hd := d.toNat_lt
    rw [List.lookup_append]
    by_cases hcd : d = c
    · subst hcd
      rw [hl]
      have : List.lookup d [(d, u)] = some u := by simp [List.lookup]
      rw [this]
      constructor
      · intro h
        simp at h
      intro u' hu'
      simp at hu'
      subst hu'
      refine ⟨w.heap.size, k, ?_, by omega, by simp only [World.size_setCell]; exact hlt, by omega, fun h => ?_, fun j hj => ?_⟩
      · rw [Array.getElem?_setIfInBounds_self]; simp [h2]; omega
      · have := (g4.lt _ h).2; omega
      · rw [World.cell?_setCell_other _ _ _ _ (by intro h; have := congrArg Addr.block h; simp at this; omega)]
        exact hc j hj
    · have hdc : (d == c) = false := by rw [beq_eq_false_iff_ne]; exact hcd
      have hno : List.lookup d [(c, u)] = none := by simp [List.lookup, hdc]
      rw [hno, Option.or_none]
      have hcs' : (cs.setIfInBounds c.toNat (.slice (some ⟨w.heap.size, 0, none⟩) u.length k))[d.toNat]? = cs[d.toNat]? := by
        rw [Array.getElem?_setIfInBounds_ne (by intro h; exact hcd (UInt8.toNat_inj.1 h.symm))]
      rw [hcs']
      refine ⟨(h7 d).1, fun u' hu' => ?_⟩
      obtain ⟨g, k', a1, a0, a2, a3, a4, a7⟩ := (h7 d).2 u' hu'
      refine ⟨g, k', a1, a0, by simp only [World.size_setCell]; exact a2, a3, a4, fun j hj => ?_⟩
      rw [World.cell?_setCell_other _ _ _ _ (by intro h; have := congrArg Addr.block h; simp at this; omega)]
      exact a7 j hj
theorem own_shape {w : World} {base : Nat} {e : TypeId} {v : Value} {m : List Bt} (h : OwnS w base e v m) (hm : 0 < m.length) : ∃ g c n, v = .slice (some ⟨g, 0, none⟩) n c := by
  obtain ⟨g, c, hv, _⟩ := own_form h.row hm
  exact ⟨g, c, _, hv⟩
end Go.Proofs.YtmbppnbekkbibaaGreatDoor

/- How much longer a string is, written, than what it says. -/
set_option linter.unusedVariables false
namespace Go.Proofs.YtmbppnbekkbibaaGreatDoor

theorem escP_at (c : UInt8) : (escP.lookup c = none ∧ escW c = [c] ∧ c.toNat ≠ 9 ∧ c.toNat ≠ 10 ∧ c.toNat ≠ 34 ∧ c.toNat ≠ 92) ∨ (∃ a b, escP.lookup c = some [a, b] ∧ escW c = [a, b] ∧ (c = 9 ∨ c = 10 ∨ c = 34 ∨ c = 92)) := by
  by_cases h1 : c = 9
  · subst h1; exact .inr ⟨92, 116, rfl, rfl, .inl rfl⟩
  · by_cases h2 : c = 10
    · subst h2; exact .inr ⟨92, 110, rfl, rfl, .inr (.inl rfl)⟩
    · by_cases h3 : c = 34
      · subst h3; exact .inr ⟨92, 34, rfl, rfl, .inr (.inr (.inl rfl))⟩
      · by_cases h4 : c = 92
        · subst h4; exact .inr ⟨92, 92, rfl, rfl, .inr (.inr (.inr rfl))⟩
        · have e1 : c.toNat ≠ 9 := fun h => h1 (UInt8.toNat_inj.1 h)
          have e2 : c.toNat ≠ 10 := fun h => h2 (UInt8.toNat_inj.1 h)
          have e3 : c.toNat ≠ 34 := fun h => h3 (UInt8.toNat_inj.1 h)
          have e4 : c.toNat ≠ 92 := fun h => h4 (UInt8.toNat_inj.1 h)
          refine .inl ⟨?_, ?_, e1, e2, e3, e4⟩
          · simp [escP, List.lookup, beq_eq_false_iff_ne.2 h1, beq_eq_false_iff_ne.2 h2, beq_eq_false_iff_ne.2 h3, beq_eq_false_iff_ne.2 h4]
          · unfold escW; rw [if_neg e4, if_neg e3, if_neg e2, if_neg e1]
/-- How many bytes of a text are written as two. -/
def escN (s : Bt) : Nat := (s.map fun c => if (escP.lookup c).isSome then 1 else 0).sum
theorem escN_cons (c : UInt8) (s : Bt) : escN (c :: s) = (if (escP.lookup c).isSome then 1 else 0) + escN s := rfl
theorem escN_le (s : Bt) : escN s ≤ s.length := by
  induction s with
  | nil => simp [escN]
  | cons c s ih => rw [escN_cons, List.length_cons]; split <;> omega
theorem esc_len (s : Bt) : (s.flatMap escW).length = s.length + escN s := by
  induction s with
  | nil => rfl
  | cons c s ih =>
    rw [List.flatMap_cons, List.length_append, ih, escN_cons, List.length_cons]
    rcases escP_at c with ⟨h1, h2, _⟩ | ⟨a, b, h1, h2, _⟩
    · rw [h1, h2]; simp; omega
    · rw [h1, h2]; simp; omega
end Go.Proofs.YtmbppnbekkbibaaGreatDoor

/- A replacer made, and built once. -/
set_option linter.unusedVariables false
namespace Go.Proofs.YtmbppnbekkbibaaGreatDoor
open Go.RowKit

theorem TabM.turn {w w' : World} {base bs b : Nat} {m : List Bt} {l : List (UInt8 × Bt)} (h : TabM w base bs m l) (ht : Turn (fun k => k = b) w w') (hb : b < base) : TabM w' base bs m l := by
  obtain ⟨cs, tr, h1, h2, h3, h4, h5, h6, h7⟩ := h
  refine ⟨cs, tr, (ht.block (block_lt h1) (by omega)).trans h1, h2, h3, h4.turn ht (fun g hg h => by have := (h4.lt g hg).1; omega), h5, h6, fun c => ⟨(h7 c).1, fun u hu => ?_⟩⟩
  obtain ⟨g, k, a1, a0, a2, a3, a4, a7⟩ := (h7 c).2 u hu
  refine ⟨g, k, a1, a0, Nat.lt_of_lt_of_le a2 ht.size, a3, a4, fun j hj => ?_⟩
  have : w'.cell? ⟨g, j, none⟩ = w.cell? ⟨g, j, none⟩ := by simp only [World.cell?, ht.block a2 (show ¬ g = b by omega)]
  rw [this]; exact a7 j hj

end Go.Proofs.YtmbppnbekkbibaaGreatDoor

/- A replacer at work: texts of one byte each, replaced by texts. -/
set_option linter.unusedVariables false
namespace Go.Proofs.YtmbppnbekkbibaaGreatDoor
open Go.RowKit

end Go.Proofs.YtmbppnbekkbibaaGreatDoor

/- A replacer at work on a text: the table by the byte. -/
set_option linter.unusedVariables false
namespace Go.Proofs.YtmbppnbekkbibaaGreatDoor
open Go.RowKit

end Go.Proofs.YtmbppnbekkbibaaGreatDoor

/- The contracts of a replacer's Replace and of lex's Quote. -/
set_option linter.unusedVariables false
namespace Go.Proofs.YtmbppnbekkbibaaGreatDoor
open Go.RowKit

end Go.Proofs.YtmbppnbekkbibaaGreatDoor
end
section
/- Texts that belong together: TG, TH, TI, UA, UB, UC. -/
/- How long a written type's text may be. -/
set_option linter.unusedVariables false
namespace Go.Proofs.YtmbppnbekkbibaaGreatDoor

mutual
/-- How many types there are. -/
def cntT : TyD → Nat
  | .mk _ _ _ ks => 1 + cntTs ks
def cntTs : List TyD → Nat
  | [] => 0
  | t :: l => cntT t + cntTs l
end
def lenS (l : List Bt) : Nat := (l.map List.length).sum
theorem lenS_cons (x : Bt) (l : List Bt) : lenS (x :: l) = x.length + lenS l := by simp [lenS]
theorem joinS_len (sep : Bt) : ∀ l : List Bt, (joinS sep l).length ≤ lenS l + sep.length * l.length
  | [] => by simp [joinS]
  | [x] => by simp [joinS, lenS]
  | x :: y :: l => by
    have h := joinS_len sep (y :: l)
    rw [joinS, List.length_append, List.length_append, lenS_cons, List.length_cons, Nat.mul_succ]
    omega
theorem nameL_len {s : Bt} (h : nameL s = true) : s.length ≤ 32 := by
  rcases Nat.lt_or_ge 32 s.length with h1 | h1
  · rw [nameL_long h1] at h; cases h
  · exact h1
theorem field_len : ∀ (ns l : List Bt), (∀ n ∈ ns, n.length ≤ 32) → lenS (List.zipWith fieldS ns l) ≤ lenS l + 34 * l.length
  | [], l, _ => by simp [lenS]
  | n :: ns, [], _ => by simp [lenS]
  | n :: ns, x :: l, h => by
    have h1 := field_len ns l fun y hy => h y (List.mem_cons_of_mem _ hy)
    have h2 := h n (List.mem_cons_self ..)
    rw [List.zipWith_cons_cons, lenS_cons, lenS_cons, List.length_cons]
    have h3 : (fieldS n x).length = n.length + (2 + x.length) := by unfold fieldS; simp only [List.length_append, List.length_cons, List.length_nil]
    omega
theorem zip_len {α β γ : Type} (f : α → β → γ) : ∀ (a : List α) (b : List β), (List.zipWith f a b).length ≤ b.length
  | [], b => by simp
  | x :: a, [] => by simp
  | x :: a, y :: b => by rw [List.length_zipWith]; omega
theorem innerS_len (ks : List Int) (k : Int) (s : Bt) : (innerS ks k s).length ≤ s.length + 2 := by
  unfold innerS
  split
  · simp
  · omega
theorem inner_len (kk : List Int) : ∀ (ks : List Int) (l : List Bt), lenS (List.zipWith (innerS kk) ks l) ≤ lenS l + 2 * l.length
  | [], l => by simp [lenS]
  | k :: ks, [] => by simp [lenS]
  | k :: ks, x :: l => by
    have h1 := inner_len kk ks l
    have h2 := innerS_len kk k x
    rw [List.zipWith_cons_cons, lenS_cons, lenS_cons, List.length_cons]
    omega
theorem getD_len (l : List Bt) (i : Nat) : (l.getD i []).length ≤ lenS l := by
  induction l generalizing i with
  | nil => simp [lenS]
  | cons x l ih =>
    rw [lenS_cons]
    cases i with
    | zero => simp
    | succ i => have := ih i; simp only [List.getD_cons_succ]; omega
theorem two_len (l : List Bt) : (l.getD 0 []).length + (l.getD 1 []).length ≤ lenS l := by
  match l with
  | [] => simp [lenS]
  | [x] => simp [lenS]
  | x :: y :: l => simp [lenS]
theorem showTs_length (l : List TyD) : (showTs l).length = l.length := by rw [showTs_map, List.length_map]
mutual
theorem show_len : ∀ (t : TyD) (m : Nat), writtenB m t = true → (showT t).length + 44 ≤ 80 * cntT t
  | .mk k nm ns ks, m, h => by
    obtain ⟨m, rfl⟩ : ∃ q, m = q + 1 := by
      cases m with
      | zero => cases h
      | succ q => exact ⟨q, rfl⟩
    have h : (ns.all nameL && ks.all (writtenB m) && kindT k nm ns.length ks.length) = true := h
    rw [Bool.and_eq_true, Bool.and_eq_true] at h
    obtain ⟨⟨h1, h2⟩, h3⟩ := h
    have hn : ∀ n ∈ ns, n.length ≤ 32 := fun n hn => nameL_len (List.all_eq_true.1 h1 n hn)
    have hk := shows_len ks m h2
    have hl := showTs_length ks
    rw [showT, cntT]
    split
    · simp; omega
    split
    · simp; omega
    split
    · simp; omega
    split
    · simp; omega
    split
    · simp; omega
    split
    · have a1 := joinS_len [44, 32] (List.zipWith fieldS ns (showTs ks))
      have a2 := field_len ns (showTs ks) hn
      have a3 := zip_len fieldS ns (showTs ks)
      simp only [List.length_append, List.length_cons, List.length_nil] at a1 ⊢
      omega
    split
    · have a1 := innerS_len [6] ((ks.map TyD.kind).getD 0 0) ((showTs ks).getD 0 [])
      have a2 := two_len (showTs ks)
      simp only [List.length_append, List.length_cons, List.length_nil]
      omega
    split
    · have a1 := joinS_len [32, 124, 32] (List.zipWith (innerS [6, 7]) (ks.map TyD.kind) (showTs ks))
      have a2 := inner_len [6, 7] (ks.map TyD.kind) (showTs ks)
      have a3 := zip_len (innerS [6, 7]) (ks.map TyD.kind) (showTs ks)
      simp only [List.length_append, List.length_cons, List.length_nil] at a1 ⊢
      omega
    · have hnm : nm.length ≤ 32 := by
        unfold kindT at h3
        split at h3
        · rw [Bool.and_eq_true] at h3
          exact nameL_len h3.2
        · split at h3
          · cases h3
          · rename_i h4
            have : nm = [] := by
              rcases nm with _ | ⟨c, r⟩
              · rfl
              · exact absurd (.inl (by simp)) h4
            rw [this]; simp
      omega
theorem shows_len : ∀ (l : List TyD) (m : Nat), l.all (writtenB m) = true → lenS (showTs l) + 44 * l.length ≤ 80 * cntTs l
  | [], _, _ => by simp [lenS, showTs]
  | t :: l, m, h => by
    rw [List.all_cons, Bool.and_eq_true] at h
    have h1 := show_len t m h.1
    have h2 := shows_len l m h.2
    rw [showTs, lenS_cons, cntTs, List.length_cons]
    omega
end
end Go.Proofs.YtmbppnbekkbibaaGreatDoor

/- A written type as text: what is in brackets. -/
set_option linter.unusedVariables false
namespace Go.Proofs.YtmbppnbekkbibaaGreatDoor
open Go.RowKit

end Go.Proofs.YtmbppnbekkbibaaGreatDoor

/- Texts put together: the library's Join. -/
set_option linter.unusedVariables false
namespace Go.Proofs.YtmbppnbekkbibaaGreatDoor
open Go.RowKit

end Go.Proofs.YtmbppnbekkbibaaGreatDoor

/- How many types and nodes there are, counted down from so many. -/
set_option linter.unusedVariables false
namespace Go.Proofs.YtmbppnbekkbibaaGreatDoor

mutual
/-- How many nodes and types there are. -/
def cntN : NoD → Nat
  | .mk _ _ _ _ _ ts _ ks => 1 + cntTs ts + cntNs ks
def cntNs : List NoD → Nat
  | [] => 0
  | t :: l => cntN t + cntNs l
end
theorem cntN_mem : ∀ {l : List NoD} {t : NoD}, t ∈ l → cntN t ≤ cntNs l
  | [], _, h => by cases h
  | x :: l, t, h => by
    rw [cntNs]
    rcases List.mem_cons.1 h with rfl | h
    · omega
    · have := cntN_mem h; omega
theorem cntN_pos (t : NoD) : 0 < cntN t := by cases t; rw [cntN]; omega
theorem cntNs_len : ∀ l : List NoD, l.length ≤ cntNs l
  | [] => by simp
  | t :: l => by have := cntNs_len l; have := cntN_pos t; rw [cntNs, List.length_cons]; omega
end Go.Proofs.YtmbppnbekkbibaaGreatDoor

/- How long a written expression's text may be. -/
set_option linter.unusedVariables false
namespace Go.Proofs.YtmbppnbekkbibaaGreatDoor

theorem ite_p {α : Type} {c : Prop} [Decidable c] {P : α → Prop} {a b : α} (ha : P a) (hb : P b) : P (if c then a else b) := by
  by_cases h : c
  · rw [if_pos h]; exact ha
  · rw [if_neg h]; exact hb
theorem op_len {s : Bt} (h : opsL.contains s = true) : s.length ≤ 3 := by
  have h1 : s ∈ opsL := by simpa using h
  have h2 : ∀ x ∈ opsL, x.length ≤ 3 := by decide
  exact h2 s h1
theorem text_len {k : Int} {s : Bt} {b : Bool} (h : textB k s b = true) : s.length ≤ 256 := by
  unfold textB at h
  split at h
  · have := nameL_len h; omega
  split at h
  · unfold strB at h
    rw [Bool.and_eq_true, decide_eq_true_eq] at h
    exact h.1
  split at h
  · have := op_len h; omega
  · have : s = [] := by simpa using h
    rw [this]; simp
theorem quote_len (s : Bt) : (quoteW s).length ≤ 2 * s.length + 2 := by
  have h1 := esc_len s
  have h2 := escN_le s
  unfold quoteW
  rw [List.length_cons, List.length_append]
  simp only [List.length_cons, List.length_nil]
  omega
theorem note_two (ts : List TyD) (m : Nat) (h : ts.all (writtenB m) = true) : (noteS ts 0).length + (noteS ts 1).length ≤ 80 * cntTs ts := by
  have h1 := shows_len ts m h
  match ts, h1 with
  | [], _ => simp [noteS]
  | [t], h1 =>
    simp [noteS, showTs, lenS] at h1 ⊢
    omega
  | t :: u :: l, h1 =>
    simp [noteS, showTs, lenS] at h1 ⊢
    omega
theorem tags_len (i : Nat) : (tagsL.getD i []).length ≤ 28 := by
  have := getD_len tagsL i
  have h : lenS tagsL = 28 := by decide
  omega
theorem cat_len : ∀ l : List Bt, (cat l).length = lenS l
  | [] => rfl
  | x :: l => by
    have := cat_len l
    rw [lenS_cons, ← this]
    simp [cat]
theorem three_len (l : List Bt) : (l.getD 0 []).length + (l.getD 1 []).length + (l.getD 2 []).length ≤ lenS l := by
  match l with
  | [] => simp [lenS]
  | [x] => simp [lenS]
  | [x, y] => simp [lenS]
  | x :: y :: z :: l => simp [lenS]; omega
theorem exprSs_length (l : List NoD) : (exprSs l).length = l.length := by rw [exprSs_map, List.length_map]
theorem In64.itoa {n : Int} (h : 0 ≤ n ∧ n ≤ 9223372036854775807) : (Lib.itoa n).length ≤ 40 := by
  have := Lib.itoa_length_le n (by omega) (by omega)
  omega
theorem node_len (k : Int) (text : Bt) (n : Int) (ts : List TyD) (ns : List Bt) (s : List Bt) (m : Nat) (ht : text.length ≤ 256) (hn : 0 ≤ n ∧ n ≤ 9223372036854775807) (hts : ts.all (writtenB m) = true) (hns : ∀ x ∈ ns, x.length ≤ 32) :
    (nodeS k text n ts ns s).length + 44 ≤ 700 + 80 * cntTs ts + (lenS s + 36 * s.length) := by
  have a1 := note_two ts m hts
  have a2 := shows_len ts m hts
  have a3 := three_len s
  have a4 := tags_len n.toNat
  have a5 := quote_len text
  have a6 := joinS_len [44, 32] (ts.map showT)
  have a7 := joinS_len [44, 32] (List.zipWith fieldS ns s)
  have a8 := field_len ns s hns
  have a9 := zip_len fieldS ns s
  have a10 := getD_len (ts.map showT) 0
  have a11 := In64.itoa hn
  rw [showTs_map] at a2
  rw [List.length_map] at a6
  simp only [List.length_cons, List.length_nil] at a6 a7
  unfold nodeS simpleS
  generalize Lib.itoa n = it at *
  repeat' (refine ite_p (P := fun l : Bt => l.length + 44 ≤ 700 + 80 * cntTs ts + (lenS s + 36 * s.length)) ?_ ?_)
  all_goals first
    | omega
    | (rw [cat_len]; simp only [lenS, List.map_cons, List.map_nil, List.sum_cons, List.sum_nil, List.length_cons, List.length_nil]; simp only [lenS] at *; omega)
    | (simp only [List.length_cons, List.length_nil]; omega)
theorem own_text {k : Int} {text : Bt} {n : Int} {a b c : Nat} (h : ownN k text n a b c = true) : text.length ≤ 256 ∧ 0 ≤ n ∧ n ≤ 9223372036854775807 := by
  unfold ownN at h
  rw [Bool.and_eq_true, Bool.and_eq_true, Bool.and_eq_true, decide_eq_true_eq] at h
  refine ⟨text_len h.1.1.2, h.1.1.1.1, ?_⟩
  have h1 := h.1.1.1.2
  have h2 : (hasD k).most ≤ 9223372036854775807 := by
    show (fun h : HasD => h.most ≤ 9223372036854775807) (hasD k)
    unfold hasD
    repeat' (refine ite_p (P := fun h : HasD => h.most ≤ 9223372036854775807) ?_ ?_)
    all_goals (show (_ : Int) ≤ _; decide)
  omega
mutual
theorem expr_len : ∀ (x : NoD) (m : Nat), nodeB m x = true → (exprS x).length + 44 ≤ 700 * cntN x
  | .mk k text n li co ts ns ks, m, h => by
    obtain ⟨m, rfl⟩ : ∃ q, m = q + 1 := by
      cases m with
      | zero => cases h
      | succ q => exact ⟨q, rfl⟩
    have h : (decide (0 ≤ k ∧ k < 20) && ownN k text n ts.length ns.length ks.length && ns.all nameL && ts.all (writtenB 16) && ks.all (nodeB m)) = true := h
    rw [Bool.and_eq_true, Bool.and_eq_true, Bool.and_eq_true, Bool.and_eq_true] at h
    obtain ⟨⟨⟨⟨h1, h2⟩, h3⟩, h4⟩, h5⟩ := h
    obtain ⟨o1, o2⟩ := own_text h2
    have hk := exprs_len ks m h5
    have hl := exprSs_length ks
    have hh := node_len k text n ts ns (exprSs ks) 16 o1 o2 h4 (fun x hx => nameL_len (List.all_eq_true.1 h3 x hx))
    rw [exprS, cntN]
    omega
theorem exprs_len : ∀ (l : List NoD) (m : Nat), l.all (nodeB m) = true → lenS (exprSs l) + 44 * l.length ≤ 700 * cntNs l
  | [], _, _ => by simp [lenS, exprSs]
  | t :: l, m, h => by
    rw [List.all_cons, Bool.and_eq_true] at h
    have h1 := expr_len t m h.1
    have h2 := exprs_len l m h.2
    rw [exprSs, lenS_cons, cntNs, List.length_cons]
    omega
end
end Go.Proofs.YtmbppnbekkbibaaGreatDoor

/- Texts put together one by one. -/
set_option linter.unusedVariables false
namespace Go.Proofs.YtmbppnbekkbibaaGreatDoor

end Go.Proofs.YtmbppnbekkbibaaGreatDoor
end
section
/- Texts that belong together: TJ, TK, TN. -/
/- A list of texts, each told of its number: tree.list. -/
set_option linter.unusedVariables false
namespace Go.Proofs.YtmbppnbekkbibaaGreatDoor
open Go.RowKit

end Go.Proofs.YtmbppnbekkbibaaGreatDoor

/- A field of a record type as text: show's closure. -/
set_option linter.unusedVariables false
namespace Go.Proofs.YtmbppnbekkbibaaGreatDoor
open Go.RowKit

theorem elem_at {w : World} {B : Nat} {A : Option Addr} {n c : Nat} {xk : List Value} {ks : List TyD} (h2 : Sl w B 4 (.slice A n c) xk) (hr : TysR w B xk ks) {i : Nat} (hi : i < ks.length) (hn : n = ks.length) :
    ∃ b o k s A1 n1 c1 A2 n2 c2, A = some ⟨b, o, none⟩ ∧ TyR w B [.int .i64 k, .string s, .slice A1 n1 c1, .slice A2 n2 c2] ks[i] ∧ w.cell? ⟨b, o + i * 4, none⟩ = some (.int .i64 k) ∧ w.cell? ⟨b, o + i * 4 + 1, none⟩ = some (.string s) ∧ w.cell? ⟨b, o + i * 4 + 2, none⟩ = some (.slice A1 n1 c1) ∧ w.cell? ⟨b, o + i * 4 + 3, none⟩ = some (.slice A2 n2 c2) := by
  subst hn
  obtain ⟨b1, o1, rfl, hb1, hc1⟩ := t_sl_in h2 hi (by omega)
  have hr1 := hr.at i hi
  obtain ⟨kk, s, A1, n1, c1, A2, n2, c2, hv1⟩ := hr1.shape
  rw [hv1] at hr1
  refine ⟨b1, o1, kk, s, A1, n1, c1, A2, n2, c2, rfl, hr1, ?_, ?_, ?_, ?_⟩
  · have := hc1 0 _ (t_part hv1 (by omega : 0 < 4)); simpa using this
  · have := hc1 1 _ (t_part hv1 (by omega : 1 < 4)); simpa [Nat.add_assoc] using this
  · have := hc1 2 _ (t_part hv1 (by omega : 2 < 4)); simpa [Nat.add_assoc] using this
  · have := hc1 3 _ (t_part hv1 (by omega : 3 < 4)); simpa [Nat.add_assoc] using this
end Go.Proofs.YtmbppnbekkbibaaGreatDoor

/- Nodes in memory: their cells. -/
set_option linter.unusedVariables false
namespace Go.Proofs.YtmbppnbekkbibaaGreatDoor
open Go.RowKit

theorem t_row8 {w : World} {b : Nat} {x0 x1 x2 x3 x4 x5 x6 x7 : Value} {T : TypeId} (h : w.heap[b]? = some (.cells #[x0, x1, x2, x3, x4, x5, x6, x7] T (0, 0))) :
    w.cell? ⟨b, 0, none⟩ = some x0 ∧ w.cell? ⟨b, 1, none⟩ = some x1 ∧ w.cell? ⟨b, 2, none⟩ = some x2 ∧ w.cell? ⟨b, 3, none⟩ = some x3 ∧ w.cell? ⟨b, 4, none⟩ = some x4 ∧ w.cell? ⟨b, 5, none⟩ = some x5 ∧ w.cell? ⟨b, 6, none⟩ = some x6 ∧ w.cell? ⟨b, 7, none⟩ = some x7 :=
  ⟨(cell_of_row _ _ _ _ _ _ h).trans rfl, (cell_of_row _ _ _ _ _ _ h).trans rfl, (cell_of_row _ _ _ _ _ _ h).trans rfl, (cell_of_row _ _ _ _ _ _ h).trans rfl, (cell_of_row _ _ _ _ _ _ h).trans rfl, (cell_of_row _ _ _ _ _ _ h).trans rfl, (cell_of_row _ _ _ _ _ _ h).trans rfl, (cell_of_row _ _ _ _ _ _ h).trans rfl⟩
theorem t_row5 {w : World} {b : Nat} {x0 x1 x2 x3 x4 : Value} {T : TypeId} (h : w.heap[b]? = some (.cells #[x0, x1, x2, x3, x4] T (0, 0))) :
    w.cell? ⟨b, 0, none⟩ = some x0 ∧ w.cell? ⟨b, 1, none⟩ = some x1 ∧ w.cell? ⟨b, 2, none⟩ = some x2 ∧ w.cell? ⟨b, 3, none⟩ = some x3 ∧ w.cell? ⟨b, 4, none⟩ = some x4 :=
  ⟨(cell_of_row _ _ _ _ _ _ h).trans rfl, (cell_of_row _ _ _ _ _ _ h).trans rfl, (cell_of_row _ _ _ _ _ _ h).trans rfl, (cell_of_row _ _ _ _ _ _ h).trans rfl, (cell_of_row _ _ _ _ _ _ h).trans rfl⟩
theorem two_new (w : World) (o1 o2 : Obj) : ((w.alloc o1).alloc o2).heap[w.heap.size]? = some o1 ∧ ((w.alloc o1).alloc o2).heap[w.heap.size + 1]? = some o2 := by
  have hs : (w.alloc o1).heap.size = w.heap.size + 1 := by simp
  refine ⟨?_, ?_⟩
  · exact block_turn (heap_alloc_new w o1) (Turn.alloc (fun _ => False) _ o2) (fun h => h)
  · have := heap_alloc_new (w.alloc o1) o2
    rwa [hs] at this
/-- An element of a row of nodes. -/
theorem node_at {w : World} {B : Nat} {A : Option Addr} {n c : Nat} {xk : List Value} {ks : List NoD} (h2 : Sl w B 8 (.slice A n c) xk) (hr : NosR w B xk ks) {i : Nat} (hi : i < ks.length) (hn : n = ks.length) :
    ∃ b o k s v2 v3 v4 A1 n1 c1 A2 n2 c2 A3 n3 c3, A = some ⟨b, o, none⟩ ∧ NoR w B [.int .i64 k, .string s, .int .i64 v2, .int .i64 v3, .int .i64 v4, .slice A1 n1 c1, .slice A2 n2 c2, .slice A3 n3 c3] ks[i] ∧
      w.cell? ⟨b, o + i * 8, none⟩ = some (.int .i64 k) ∧ w.cell? ⟨b, o + i * 8 + 1, none⟩ = some (.string s) ∧ w.cell? ⟨b, o + i * 8 + 2, none⟩ = some (.int .i64 v2) ∧ w.cell? ⟨b, o + i * 8 + 3, none⟩ = some (.int .i64 v3) ∧ w.cell? ⟨b, o + i * 8 + 4, none⟩ = some (.int .i64 v4) ∧
      w.cell? ⟨b, o + i * 8 + 5, none⟩ = some (.slice A1 n1 c1) ∧ w.cell? ⟨b, o + i * 8 + 6, none⟩ = some (.slice A2 n2 c2) ∧ w.cell? ⟨b, o + i * 8 + 7, none⟩ = some (.slice A3 n3 c3) := by
  subst hn
  obtain ⟨b1, o1, rfl, hb1, hc1⟩ := t_sl_in h2 hi (by omega)
  have hr1 := hr.at i hi
  obtain ⟨kk, s, v2, v3, v4, A1, n1, c1, A2, n2, c2, A3, n3, c3, hv1⟩ := hr1.shape
  rw [hv1] at hr1
  refine ⟨b1, o1, kk, s, v2, v3, v4, A1, n1, c1, A2, n2, c2, A3, n3, c3, rfl, hr1, ?_, ?_, ?_, ?_, ?_, ?_, ?_, ?_⟩
  · have := hc1 0 _ (t_part hv1 (by omega : 0 < 8)); simpa using this
  · have := hc1 1 _ (t_part hv1 (by omega : 1 < 8)); simpa [Nat.add_assoc] using this
  · have := hc1 2 _ (t_part hv1 (by omega : 2 < 8)); simpa [Nat.add_assoc] using this
  · have := hc1 3 _ (t_part hv1 (by omega : 3 < 8)); simpa [Nat.add_assoc] using this
  · have := hc1 4 _ (t_part hv1 (by omega : 4 < 8)); simpa [Nat.add_assoc] using this
  · have := hc1 5 _ (t_part hv1 (by omega : 5 < 8)); simpa [Nat.add_assoc] using this
  · have := hc1 6 _ (t_part hv1 (by omega : 6 < 8)); simpa [Nat.add_assoc] using this
  · have := hc1 7 _ (t_part hv1 (by omega : 7 < 8)); simpa [Nat.add_assoc] using this
end Go.Proofs.YtmbppnbekkbibaaGreatDoor
end
section
/- A written type as text: tree.show. -/
set_option linter.unusedVariables false
namespace Go.Proofs.YtmbppnbekkbibaaGreatDoor
open Go.RowKit

theorem len_two {α : Type} {l : List α} (h : l.length = 2) : ∃ a b, l = [a, b] := by
  match l, h with
  | [a, b], _ => exact ⟨a, b, rfl⟩
end Go.Proofs.YtmbppnbekkbibaaGreatDoor
end
section
/- An expression as text: the list of what is within, simple ones. -/
set_option linter.unusedVariables false
namespace Go.Proofs.YtmbppnbekkbibaaGreatDoor
open Go.RowKit

theorem node_open {m : Nat} {k : Int} {text : Bt} {n li co : Int} {ts : List TyD} {ns : List Bt} {ks : List NoD} (h : nodeB m (.mk k text n li co ts ns ks) = true) :
    ∃ q, m = q + 1 ∧ (0 ≤ k ∧ k < 20) ∧ ownN k text n ts.length ns.length ks.length = true ∧ (∀ x ∈ ns, x.length ≤ 32) ∧ ts.all (writtenB 16) = true ∧ (∀ x ∈ ks, nodeB q x = true) := by
  cases m with
  | zero => cases h
  | succ q =>
    have h : (decide (0 ≤ k ∧ k < 20) && ownN k text n ts.length ns.length ks.length && ns.all nameL && ts.all (writtenB 16) && ks.all (nodeB q)) = true := h
    rw [Bool.and_eq_true, Bool.and_eq_true, Bool.and_eq_true, Bool.and_eq_true, decide_eq_true_eq] at h
    exact ⟨q, rfl, h.1.1.1.1, h.1.1.1.2, fun x hx => nameL_len (List.all_eq_true.1 h.1.1.2 x hx), h.1.2, fun x hx => List.all_eq_true.1 h.2 x hx⟩
/-- A row of texts, one more behind it: one step of a region. -/
theorem step_appS {P : Program} {ops : Array Oper} {o : Oper} {a : Act} {w : World} {K : Act → World → Prop} {Q : Exit → Act → World → Prop} {E : Prop} (hgd : o.guard = none) (s x : Operand) (t : TypeId)
    (ho : o.op = .call { callee := .builtin .append, args := #[s, x], argTypes := #[t, t] })
    (base : Nat) {e : TypeId} {z : Value} (hE : ElemIs P t e z 1 16) (v y : Value) (hs : a.eval s = v) (hx : a.eval x = y)
    {l : List Bt} (hown : OwnS w base e v l) {B : Nat} {m : List Bt} (hy : Ss w B y m) (hlen : l.length + m.length ≤ 8796093022208) (hbase : base ≤ w.heap.size)
    (h : ∀ v' w', OwnS w' base e v' (l ++ m) → w.grownBy w' v.ownBlock → (v'.ownBlock = v.ownBlock ∨ v'.ownBlock = some w.heap.size) → K (a.put o.dst v') w') :
    if Region.wanted o (yielded ops a.tmps) = true then Oper.wp P o a w K Q else E :=
  step_app hgd s x t ho base hE v y hs hx hown.row hy (svs_one _) (by simp only [svs_length, maxLen]; omega) (by rw [svs_length]; omega) hbase
    (fun v' w' n' h1 h2 h3 => h v' w' ⟨n', by rw [svs_append]; exact h1⟩ h2 h3)
/-- What stands in memory while the texts of what is within are put together: a list in a box, the node. -/
structure ExAt (w wr : World) (OB : Obj) (v : Value) (l : List Bt) : Prop where
  box : wr.heap[w.heap.size + 1]? = some (.cells #[v] 25 (0, 0))
  own : OwnS wr (w.heap.size + 2) 9 v l
  node : wr.heap[w.heap.size]? = some OB
  below : Below w.heap.size w wr
theorem ExAt.far {w wr w' : World} {OB : Obj} {v : Value} {l : List Bt} (h : ExAt w wr OB v l) (hb : Below wr.heap.size wr w') : ExAt w w' OB v l :=
  ⟨(hb.block _ (block_lt h.box)).trans h.box, h.own.below hb, (hb.block _ (block_lt h.node)).trans h.node, h.below.trans (hb.mono h.below.size)⟩
theorem ExAt.cell {w wr : World} {OB : Obj} {v : Value} {l : List Bt} (h : ExAt w wr OB v l) : wr.cell? ⟨w.heap.size + 1, 0, none⟩ = some v := (cell_of_row _ _ _ _ _ _ h.box).trans rfl
theorem ExAt.grown {w wr w' : World} {OB : Obj} {v v' : Value} {l l' : List Bt} (h : ExAt w wr OB v l) (ho : OwnS w' (w.heap.size + 2) 9 v' l') (hg : wr.grownBy w' v.ownBlock) :
    w'.cell? ⟨w.heap.size + 1, 0, none⟩ = some v ∧ w'.frozen? ⟨w.heap.size + 1, 0, none⟩ = false ∧ ExAt w (w'.setCell ⟨w.heap.size + 1, 0, none⟩ v') OB v' l' := by
  have hlt := h.own.lt
  have hb := (hg.block _ (block_lt h.box) (by intro e; have := (hlt _ e.symm).1; omega)).trans h.box
  have hn := (hg.block _ (block_lt h.node) (by intro e; have := (hlt _ e.symm).1; omega)).trans h.node
  have hbl : Below w.heap.size w w' := h.below.grown hg h.below.size (fun k hk => by have := (hlt k hk).1; omega)
  have t := turn_set w' (w.heap.size + 1) 0 v'
  refine ⟨(cell_of_row _ _ _ _ _ _ hb).trans rfl, block_free hb 0, heap_setCell_same _ _ _ _ _ _ hb, ho.turn t (fun g hg e => by have := (ho.lt g hg).1; omega), block_turn hn t (by omega), hbl.trans (t.below hbl.size (fun k hk e => by omega))⟩
theorem OwnS.cell {w : World} {base : Nat} {e : TypeId} {g c n : Nat} {l : List Bt} (h : OwnS w base e (.slice (some ⟨g, 0, none⟩) n c) l) (j : Nat) (hj : j < l.length) : w.cell? ⟨g, j, none⟩ = some (sv l[j]) := by
  have := h.row.cells (g := g) rfl j _ (svs_get l j hj)
  rwa [plain_add, Nat.zero_add] at this
end Go.Proofs.YtmbppnbekkbibaaGreatDoor
end
section
/- Texts that belong together: UD, UE, UF, UR. -/
/- Which bytes of a text are not for a string: rune by rune and byte by byte. -/
set_option linter.unusedVariables false
namespace Go.Proofs.YtmbppnbekkbibaaGreatDoor

def okS (s : Bt) : Bool := s.all (fun c => !(decide (c < 32) && c != 9 && c != 10))
/-- May not stand in a string. -/
def badC (n : Nat) : Bool := decide (n < 32) && n != 9 && n != 10
theorem dec_low (s : ByteArray) (i : Nat) (h : (s.get! i).toNat < 128) : Utf8.decode s i = ((s.get! i).toNat, 1) := by
  unfold Utf8.decode
  simp only [Nat.add_zero]
  rw [if_pos h]
theorem cont_high (s : ByteArray) (i k : Nat) (h : (decide (i + k < s.size) && (s.get! (i + k)).toNat / 64 == 2) = true) : 128 ≤ (s.get! (i + k)).toNat := by
  rw [Bool.and_eq_true, beq_iff_eq] at h
  omega
theorem dec_high (s : ByteArray) (i : Nat) (h : 128 ≤ (s.get! i).toNat) : 128 ≤ (Utf8.decode s i).1 ∧ ∀ j, j < (Utf8.decode s i).2 → 128 ≤ (s.get! (i + j)).toNat := by
  have h0 : ∀ j, j < 1 → 128 ≤ (s.get! (i + j)).toNat := by
    intro j hj
    obtain rfl : j = 0 := by omega
    exact h
  unfold Utf8.decode
  simp only [Nat.add_zero]
  rw [if_neg (by omega)]
  split
  · rename_i h1
    rw [Bool.and_eq_true] at h1
    have a1 := cont_high s i 1 h1.2
    split
    · rename_i h2
      refine ⟨h2, fun j hj => ?_⟩
      have hj : j < 2 := hj
      obtain rfl | rfl : j = 0 ∨ j = 1 := by omega
      · exact h
      · exact a1
    · exact ⟨by decide, h0⟩
  split
  · rename_i h1
    rw [Bool.and_eq_true, Bool.and_eq_true] at h1
    have a1 := cont_high s i 1 h1.1.2
    have a2 := cont_high s i 2 h1.2
    split
    · rename_i h2
      rw [Bool.and_eq_true, decide_eq_true_eq] at h2
      refine ⟨by have := h2.1; omega, fun j hj => ?_⟩
      have hj : j < 3 := hj
      obtain rfl | rfl | rfl : j = 0 ∨ j = 1 ∨ j = 2 := by omega
      · exact h
      · exact a1
      · exact a2
    · exact ⟨by decide, h0⟩
  split
  · rename_i h1
    rw [Bool.and_eq_true, Bool.and_eq_true, Bool.and_eq_true] at h1
    have a1 := cont_high s i 1 h1.1.1.2
    have a2 := cont_high s i 2 h1.1.2
    have a3 := cont_high s i 3 h1.2
    split
    · rename_i h2
      rw [Bool.and_eq_true, decide_eq_true_eq] at h2
      refine ⟨by have := h2.1; omega, fun j hj => ?_⟩
      have hj : j < 4 := hj
      obtain rfl | rfl | rfl | rfl : j = 0 ∨ j = 1 ∨ j = 2 ∨ j = 3 := by omega
      · exact h
      · exact a1
      · exact a2
      · exact a3
    · exact ⟨by decide, h0⟩
  · exact ⟨by decide, h0⟩
theorem get_at (s : Bt) (i : Nat) (h : i < s.length) : ((⟨s.toArray⟩ : ByteArray).get! i) = s[i] := by
  show s.toArray[i]! = s[i]
  rw [getElem!_pos s.toArray i (by simpa using h)]
  simp
theorem bad_byte (c : UInt8) : badC c.toNat = (decide (c < 32) && c != 9 && c != 10) := by
  have h1 : (decide (c.toNat < 32)) = decide (c < 32) := by
    rw [decide_eq_decide, UInt8.lt_iff_toNat_lt]; rfl
  have h2 : ∀ d : UInt8, (c.toNat != d.toNat) = (c != d) := by
    intro d
    by_cases h : c = d
    · subst h; simp
    · have : c.toNat ≠ d.toNat := fun e => h (UInt8.toNat_inj.1 e)
      simp [bne, beq_eq_false_iff_ne.2 h, beq_eq_false_iff_ne.2 this]
  unfold badC
  rw [h1, show (9 : Nat) = (9 : UInt8).toNat from rfl, show (10 : Nat) = (10 : UInt8).toNat from rfl, h2, h2]
/-- The bytes up to a place are for a string. -/
def FineTo (s : Bt) (p : Nat) : Prop := ∀ j, j < p → ∀ h : j < s.length, badC s[j].toNat = false
theorem fine_step {s : Bt} {p : Nat} (h : FineTo s p) (hp : p < s.length) (hb : badC (Utf8.decode ⟨s.toArray⟩ p).1 = false) : FineTo s (p + (Utf8.decode ⟨s.toArray⟩ p).2) := by
  intro j hj hl
  rcases Nat.lt_or_ge j p with h1 | h1
  · exact h j h1 hl
  · rcases Nat.lt_or_ge ((⟨s.toArray⟩ : ByteArray).get! p).toNat 128 with h2 | h2
    · rw [dec_low _ _ h2] at hj hb
      have hj : j < p + 1 := hj
      obtain rfl : j = p := by omega
      rw [get_at s j hl] at hb
      exact hb
    · have h3 := (dec_high _ _ h2).2 (j - p) (by omega)
      rw [show p + (j - p) = j by omega, get_at s j hl] at h3
      have : decide (s[j].toNat < 32) = false := decide_eq_false (by omega)
      unfold badC
      rw [this]; rfl
theorem bad_here {s : Bt} {p : Nat} (hp : p < s.length) (hb : badC (Utf8.decode ⟨s.toArray⟩ p).1 = true) : s.all (fun c => !(decide (c < 32) && c != 9 && c != 10)) = false := by
  rcases Nat.lt_or_ge ((⟨s.toArray⟩ : ByteArray).get! p).toNat 128 with h2 | h2
  · rw [dec_low _ _ h2, get_at s p hp] at hb
    cases ha : s.all (fun c => !(decide (c < 32) && c != 9 && c != 10)) with
    | false => rfl
    | true =>
      have := List.all_eq_true.1 ha _ (List.getElem_mem hp)
      rw [← bad_byte] at this
      have hb : badC s[p].toNat = true := hb
      rw [hb] at this
      cases this
  · have h3 := (dec_high _ _ h2).1
    unfold badC at hb
    rw [decide_eq_false (by omega)] at hb
    cases hb
theorem fine_all {s : Bt} {p : Nat} (h : FineTo s p) (hp : s.length ≤ p) : s.all (fun c => !(decide (c < 32) && c != 9 && c != 10)) = true := by
  rw [List.all_eq_true]
  intro c hc
  obtain ⟨j, hj, rfl⟩ := List.getElem_of_mem hc
  rw [← bad_byte, h j (by omega) hj]
  rfl
end Go.Proofs.YtmbppnbekkbibaaGreatDoor

/- Which texts may be strings: tree.str. -/
set_option linter.unusedVariables false
namespace Go.Proofs.YtmbppnbekkbibaaGreatDoor
open Go.RowKit

theorem strf_any (R : Nat) (w : World) (h1 : R ≤ 1114111) : Calls Tryz.prog 176 #[.int .i32 (R : Int)] w fun e w' => e = .returned (.bool (badC R)) ∧ w' = w := by
  by_cases h32 : R < 32
  · have g1 : decide ((R : Int) < 32) = true := by simp; omega
    by_cases h9 : R = 9
    · subst h9
      go_enter Tryz.func176, Tryz.ntmps176
      go_wp2_with fail
      go_ret
      exact ⟨rfl, rfl⟩
    · by_cases h10 : R = 10
      · subst h10
        go_enter Tryz.func176, Tryz.ntmps176
        go_wp2_with fail
        go_ret
        exact ⟨rfl, rfl⟩
      · have g2 : ((R : Int) != 9) = true := by rw [bne_iff_ne]; omega
        have g3 : ((R : Int) != 10) = true := by rw [bne_iff_ne]; omega
        have HT : Hid (badC R = true) := hid (by unfold badC; simp [h32, h9, h10])
        rw [HT.out]
        clear h32 h9 h10 h1
        go_enter Tryz.func176, Tryz.ntmps176
        go_wp2_with fail
        go_ret
        exact ⟨rfl, rfl⟩
  · have g1 : decide ((R : Int) < 32) = false := by simp; omega
    have HT : Hid (badC R = false) := hid (by unfold badC; simp [h32])
    rw [HT.out]
    clear h32 h1
    go_enter Tryz.func176, Tryz.ntmps176
    go_wp2_with fail
    go_ret
    exact ⟨rfl, rfl⟩

/-- Where the first that no string may have stands, or -1. -/
def AtBad (s : Bt) (w : World) (e : Ending) (w' : World) : Prop := (∃ k : Int, e = .returned (.int .i64 k) ∧ (if okS s then k = -1 else 0 ≤ k)) ∧ Below w.heap.size w w'
set_option maxHeartbeats 2000000 in
set_option maxRecDepth 1000000 in
theorem indexbad_any (s : Bt) (w : World) :
    Calls Tryz.prog 209 #[sv s, .func (.func 176) #[] #[], .bool true] w (AtBad s w) := by
  have hsz := sv_size s
  obtain ⟨bs, hbs⟩ : ∃ bs : ByteArray, bs = ⟨s.toArray⟩ := ⟨_, rfl⟩
  have HBS := hid hbs
  rw [← hbs] at hsz
  show Calls Tryz.prog 209 #[.string ⟨s.toArray⟩, .func (.func 176) #[] #[], .bool true] w _
  rw [← hbs]
  clear hbs
  go_enter Tryz.func209, Tryz.ntmps209
  go_wp2_with fail
  go_loopg [] s.length (fun g wx => ∃ pos : Nat, wx.heap[w.heap.size]? = some (.stringIter bs pos) ∧ Below w.heap.size w wx ∧ FineTo s pos ∧ s.length ≤ pos + g)
  case atStart => exact ⟨0, World.iter_heap w bs 0, (Below.refl _ w).alloc (Nat.le_refl _) _, fun j hj => by omega, by omega⟩
  case round =>
    obtain ⟨pos, hit, hbw, hleft, hfu⟩ := hrel
    have hszw : w.heap.size < wr.heap.size := (Array.getElem?_eq_some_iff.1 hit).1
    by_cases hp : pos < bs.size
    · obtain ⟨g, rfl⟩ : ∃ g, gk = g + 1 := ⟨gk - 1, by omega⟩
      have hnx : ∀ ty, (Instr.next (.pointer (some ⟨w.heap.size, 0, none⟩)) true ty).run Tryz.prog wr = _ := fun ty => Lib.run_next_any_at wr w.heap.size bs pos ty hit hp
      have hwd := Lib.width_pos bs pos
      have hr1 := Lib.rune_le bs pos
      have hst : ∀ R K, Utf8.decode bs pos = (R, K) → (badC R = false → FineTo s (pos + K)) ∧ (badC R = true → okS s = false) := by
        intro R K h
        rw [HBS.out] at h
        have hps : pos < s.length := by omega
        constructor
        · intro hb
          have := fine_step hleft hps (by rw [h]; exact hb)
          rw [h] at this
          exact this
        · intro hb
          exact bad_here hps (by rw [h]; exact hb)
      obtain ⟨R, hR⟩ : ∃ R, (Utf8.decode bs pos).1 = R := ⟨_, rfl⟩
      obtain ⟨K, hK⟩ : ∃ K, (Utf8.decode bs pos).2 = K := ⟨_, rfl⟩
      have hst := hst R K (by rw [← hR, ← hK])
      rw [hR, hK] at hnx
      rw [hR] at hr1
      rw [hK] at hwd
      have hit2 := Lib.iterAt_heap wr w.heap.size bs pos (pos + K) hit
      have hbw2 := Lib.below_iterAt hbw (k := w.heap.size) (Nat.le_refl _) bs (pos + K)
      obtain ⟨W, hWd⟩ : ∃ W, wr.iterAt w.heap.size bs (pos + K) = W := ⟨_, rfl⟩
      rw [hWd] at hnx hit2 hbw2
      have HC := hid (strf_any R W hr1)
      have HB2 := hid hbw2
      have HIT := hid hit2
      cases hb : badC R with
      | true =>
        rw [hb] at HC
        have HE := hid (hst.2 hb)
        clear hst hb hR hK hleft
        go_wp2_with fail
        refine HC.out.mono ?_
        rintro e w2 ⟨rfl, rfl⟩
        go_wp2_with fail
        go_ret
        exact ⟨⟨pos, rfl, by rw [HE.out]; simp⟩, HB2.out⟩
      | false =>
        rw [hb] at HC
        have HE := hid (hst.1 hb)
        clear hst hb hR hK hleft
        go_wp2_with fail
        refine HC.out.mono ?_
        rintro e w2 ⟨rfl, rfl⟩
        go_wp2_with fail
        go_roundg g
        case measure => omega
        case rel => exact ⟨pos + K, HIT.out, HB2.out, HE.out, by omega⟩
    · have hnx : ∀ ty, (Instr.next (.pointer (some ⟨w.heap.size, 0, none⟩)) true ty).run Tryz.prog wr = _ := fun ty => Lib.run_next_end_at wr w.heap.size bs pos ty hit hp
      have HE : Hid (okS s = true) := hid (fine_all hleft (by omega))
      have HB := hid hbw
      clear hleft hbw
      go_wp2_with fail
      go_ret
      exact ⟨⟨-1, rfl, by rw [HE.out]; simp⟩, HB.out⟩
theorem containsbad_any (s : Bt) (w : World) :
    Calls Tryz.prog 175 #[sv s, .func (.func 176) #[] #[]] w fun e w' => e = .returned (.bool (!okS s)) ∧ Below w.heap.size w w' := by
  have HI : Hid (∀ w1, Calls Tryz.prog 193 #[sv s, .func (.func 176) #[] #[]] w1 (AtBad s w1)) := hid (by
    intro w1
    have HJ := hid (indexbad_any s w1)
    go_enter Tryz.func193, Tryz.ntmps193
    go_wp2_with fail
    refine HJ.out.mono ?_
    rintro e w2 ⟨⟨k, rfl, hk⟩, hbel⟩
    have HK := hid hk
    clear hk
    go_wp2_with fail
    go_ret
    exact ⟨⟨k, rfl, HK.out⟩, hbel⟩)
  cases hb : okS s
  all_goals
    go_enter Tryz.func175, Tryz.ntmps175
    go_wp2_with fail
    refine (HI.out w).mono ?_
    rintro e w2 ⟨⟨k, rfl, hk⟩, hbel⟩
    rw [hb] at hk
    simp only [Bool.false_eq_true, if_false, if_true] at hk
    have HB := hid hbel
    clear hbel hb HI
  · have hg : decide (0 ≤ k) = true := by simpa using hk
    go_wp2_with fail
    go_ret
    exact ⟨rfl, HB.out⟩
  · subst hk
    go_wp2_with fail
    go_ret
    exact ⟨rfl, HB.out⟩
theorem tstr_any (s : Bt) (w : World) (hs : s.length ≤ maxLen) :
    Calls Tryz.prog 151 #[sv s] w fun e w' => e = .returned (.bool (strB s)) ∧ Below w.heap.size w w' := by
  have hsz := sv_size s
  unfold maxLen at hs
  by_cases hl : s.length ≤ 256
  · have hg : decide ((s.length : Int) ≤ 256) = true := by simp; omega
    have HT : Hid (strB s = okS s) := hid (by unfold strB okS; rw [decide_eq_true hl]; rfl)
    rw [HT.out]
    have HC := hid (containsbad_any s w)
    clear hl
    generalize okS s = b at *
    go_enter Tryz.func151, Tryz.ntmps151
    go_wp2_with fail
    refine HC.out.mono ?_
    rintro e w2 ⟨rfl, hb⟩
    go_wp2_with fail
    go_ret
    cases b <;> exact ⟨rfl, hb⟩
  · have hg : decide ((s.length : Int) ≤ 256) = false := by simp; omega
    have HT : Hid (strB s = false) := hid (by unfold strB; rw [decide_eq_false hl]; rfl)
    rw [HT.out]
    clear hl
    go_enter Tryz.func151, Tryz.ntmps151
    go_wp2_with fail
    go_ret
    exact ⟨rfl, Below.refl _ _⟩
end Go.Proofs.YtmbppnbekkbibaaGreatDoor

/- The operations: tree.Ops, and the reference's. -/
set_option linter.unusedVariables false
namespace Go.Proofs.YtmbppnbekkbibaaGreatDoor
open Go.RowKit

def opsT : Bt := [111, 114, 32, 97, 110, 100, 32, 60, 32, 60, 61, 32, 61, 61, 32, 43, 43, 32, 43, 32, 45, 32, 94, 32, 42, 32, 47, 32, 37, 32, 38, 32, 60, 60, 32, 62, 62]
theorem ops_fields : Lib.fields opsT = opsL := by kernel_rfl
theorem ops_ascii : (opsT.all fun b => decide (b.toNat < 128)) = true := by kernel_rfl
theorem ops_list : (⟨opsT.toArray⟩ : ByteArray).data.toList = opsT := rfl
set_option maxRecDepth 100000 in
theorem ops_any (w : World) (hL : LaidT w) : Calls Tryz.prog 152 #[] w fun e w' => ∃ v, e = .returned v ∧ Ss w' w'.heap.size v opsL ∧ Below w.heap.size w w' := by
  go_enter Tryz.func152, Tryz.ntmps152
  go_wp2_with fail
  refine (Tryz.strings_Fields ⟨opsT.toArray⟩ _ ?h1 ?h2 hL.2).mono ?_
  case h1 => decide
  case h2 =>
    intro j b hb
    rw [ops_list] at hb
    exact of_decide_eq_true (List.all_eq_true.1 ops_ascii b (List.mem_of_getElem? hb))
  rintro e w1 ⟨rfl, rfl⟩
  rw [ops_list, ops_fields]
  have hss : Ss (w.alloc (.cells (opsL.map fun l => Value.string ⟨l.toArray⟩).toArray 9)) (w.alloc (.cells (opsL.map fun l => Value.string ⟨l.toArray⟩).toArray 9)).heap.size (.slice (some ⟨w.heap.size, 0, none⟩) opsL.length opsL.length) opsL := by
    have := sl_new w (opsL.map fun l => Value.string ⟨l.toArray⟩).toArray 9 1 opsL.length (by simp) (by decide)
    rw [World.size_alloc]
    simpa [Ss, svs] using this
  have hb : Below w.heap.size w (w.alloc (.cells (opsL.map fun l => Value.string ⟨l.toArray⟩).toArray 9)) := (Below.refl _ _).alloc (Nat.le_refl _) _
  generalize (w.alloc (.cells (opsL.map fun l => Value.string ⟨l.toArray⟩).toArray 9)) = w2 at *
  generalize opsL.length = n at *
  go_wp2_with fail
  go_ret
  exact ⟨_, rfl, hss, hb⟩
end Go.Proofs.YtmbppnbekkbibaaGreatDoor

/- The reference's small functions: Ops, op, names, str. -/
set_option linter.unusedVariables false
namespace Go.Proofs.YtmbppnbekkbibaaGreatDoor
open Go.RowKit

end Go.Proofs.YtmbppnbekkbibaaGreatDoor
end
section
/- Texts that belong together: UG, UH. -/
/- Is a node's text right: tree.text. -/
set_option linter.unusedVariables false
namespace Go.Proofs.YtmbppnbekkbibaaGreatDoor
open Go.RowKit

set_option maxRecDepth 100000 in
set_option maxHeartbeats 2000000 in
theorem text_any (w : World) (k : Int) (text : Bt) (v2 v3 v4 : Int) (A5 : Option Addr) (n5 c5 : Nat) (A6 : Option Addr) (n6 c6 : Nat) (A7 : Option Addr) (n7 c7 : Nat) (ht : text.length ≤ maxLen) (hX : LaidT w) (b : Bool) (a1 a2 a3 a4 : Int) :
    Calls Tryz.prog 111 #[.agg #[.int .i64 k, sv text, .int .i64 v2, .int .i64 v3, .int .i64 v4, .slice A5 n5 c5, .slice A6 n6 c6, .slice A7 n7 c7], .agg #[.bool b, .int .i64 a1, .int .i64 a2, .int .i64 a3, .int .i64 a4]] w fun e w' => e = .returned (.bool (textB k text b)) ∧ Below w.heap.size w w' := by
  obtain ⟨W, hW⟩ : ∃ W, (w.alloc (.cells #[.int .i64 k, sv text, .int .i64 v2, .int .i64 v3, .int .i64 v4, .slice A5 n5 c5, .slice A6 n6 c6, .slice A7 n7 c7] 49)).alloc (.cells #[.bool b, .int .i64 a1, .int .i64 a2, .int .i64 a3, .int .i64 a4] 165) = W := ⟨_, rfl⟩
  have hb2 : Below w.heap.size w W := by rw [← hW]; exact ((Below.refl _ _).alloc (Nat.le_refl _) _).alloc (by simp) _
  have HB := hid hb2
  have HW := hid hW
  have HX := hid (hX.below hb2)
  have HNM := hid (name_all W text (hX.below hb2) ht)
  have HST := hid (tstr_any text W ht)
  have hbx : W.heap[w.heap.size]? = some (.cells #[.int .i64 k, sv text, .int .i64 v2, .int .i64 v3, .int .i64 v4, .slice A5 n5 c5, .slice A6 n6 c6, .slice A7 n7 c7] 49 (0, 0)) := by rw [← hW]; exact (two_new w _ _).1
  obtain ⟨_, g1, _⟩ := t_row8 hbx
  have G1 := hid g1
  clear hX hbx g1 hb2 ht
  cases b with
  | true =>
    have HT : Hid (textB k text true = nameL text) := hid rfl
    rw [HT.out]
    rw [← hW] at HNM
    clear hW
    generalize nameL text = q at *
    go_enter Tryz.func111, Tryz.ntmps111
    go_wp2_with fail
    refine HNM.out.mono ?_
    rintro e w2 ⟨rfl, hb⟩
    have hW := HW.out
    rw [hW] at hb
    go_wp2_with fail
    go_ret
    exact ⟨rfl, HB.out.trans (hb.mono HB.out.size)⟩
  | false =>
    by_cases k1 : k = 1
    · subst k1
      have HT : Hid (textB 1 text false = strB text) := hid rfl
      rw [HT.out]
      rw [← hW] at HST
      clear hW
      generalize strB text = q at *
      go_enter Tryz.func111, Tryz.ntmps111
      go_wp2_with fail
      refine HST.out.mono ?_
      rintro e w2 ⟨rfl, hb⟩
      have hW := HW.out
      rw [hW] at hb
      go_wp2_with fail
      go_ret
      exact ⟨rfl, HB.out.trans (hb.mono HB.out.size)⟩
    have q1 : (k == 1) = false := beq_eq_false_iff_ne.mpr k1
    by_cases k14 : k = 14
    · subst k14
      have HT : Hid (textB 14 text false = decide (text ∈ opsL)) := hid (by show opsL.contains text = _; rw [List.contains_eq_mem])
      rw [HT.out]
      clear hW k1 q1
      have HB0 : Hid (Below W.heap.size W W.drew) := hid (below_drawn W 1)
      have HO := hid (ops_any W.drew (HX.out.below HB0.out))
      have HCC := hid (fun v (w1 : World) (h : Ss w1 w1.heap.size v opsL) => contains_any v opsL text w1 h)
      clear HT HNM HST
      generalize decide (text ∈ opsL) = q at *
      go_enter Tryz.func111, Tryz.ntmps111
      go_wp2_with fail
      have hW := HW.out
      rw [hW]
      clear hW
      refine wp_region_held_drew (S := fun w' => Below W.heap.size W w') (by kernel_rfl) HB0.out (fun _ => ?_)
      try simp only [Act.put, List.getElem_toArray, List.getElem_cons_zero, List.getElem_cons_succ, List.setIfInBounds_toArray, List.set_cons_zero, List.set_cons_succ]
      refine tk 1 (.pointer (some ⟨w.heap.size, 1, none⟩)) HB0.out ?_
      refine tkf 2 (sv text) (kp1 G1.out) HB0.out ?_
      refine wpAnyH_ready (rs := [0]) (by kernel_rfl) (by simp) ?_
      refine AllReadyH.cons rfl (fun K hK => ?_) (AllReadyH.nil)
      go_simp
      refine HO.out.mono ?_
      rintro e w2 ⟨v2, rfl, hss, hb⟩
      have HSS := hid hss
      have HB2 := hid (HB0.out.trans (hb.mono HB0.out.size))
      clear hb hss
      refine hK.out _ _ HB2.out (fun _ => ?_)
      clear hK K
      try simp only [Act.put, List.getElem_toArray, List.getElem_cons_zero, List.getElem_cons_succ, List.setIfInBounds_toArray, List.set_cons_zero, List.set_cons_succ]
      refine wpAnyH_ready (rs := [3]) (by kernel_rfl) (by simp) ?_
      refine AllReadyH.cons rfl (fun K hK => ?_) (AllReadyH.nil)
      go_simp
      refine (HCC.out _ _ HSS.out).mono ?_
      rintro e w3 ⟨rfl, rfl⟩
      refine hK.out _ _ HB2.out (fun _ => ?_)
      clear hK K
      try simp only [Act.put, List.getElem_toArray, List.getElem_cons_zero, List.getElem_cons_succ, List.setIfInBounds_toArray, List.set_cons_zero, List.set_cons_succ]
      refine tk 4 (.bool q) HB2.out ?_
      refine wpAnyH_done (by kernel_rfl) ?_ _
      go_wp2_with fail
      go_ret
      exact ⟨rfl, HB.out.trans (HB2.out.mono HB.out.size)⟩
    have q14 : (k == 14) = false := beq_eq_false_iff_ne.mpr k14
    have HT : Hid (textB k text false = (text == [])) := hid (by unfold textB; rw [if_neg (by simp), if_neg k1, if_neg k14])
    rw [HT.out]
    clear hW k1 k14 HNM HST HT
    rw [← HW.out] at HB
    cases hq : (text == []) with
    | true =>
      obtain rfl : text = [] := by simpa using hq
      go_enter Tryz.func111, Tryz.ntmps111
      go_wp2_with fail
      go_ret
      exact ⟨rfl, HB.out⟩
    | false =>
      go_enter Tryz.func111, Tryz.ntmps111
      go_wp2_with fail
      go_ret
      exact ⟨rfl, HB.out⟩
end Go.Proofs.YtmbppnbekkbibaaGreatDoor

/- What each kind of node has: tree.kinds. -/
set_option linter.unusedVariables false
namespace Go.Proofs.YtmbppnbekkbibaaGreatDoor
open Go.RowKit

theorem results_cell {P : Program} {fn : Func} {p : Tmp} {ty : TypeId} (h : fn.results = #[.cell p ty]) (tmps : Array Value) (w : World) (g : Nat) (t : TypeId) (cs : Array Value) (fr : Nat × Nat) (d : TypeDesc)
    (hp : tmps.getD p undef = .pointer (some ⟨g, 0, none⟩)) (hg : w.heap[g]? = some (.cells cs t fr))
    (hu : P.underlying ty = some d) (hd : (match d with | .struct _ | .array _ _ => true | _ => false) = true) (hi : (P.info? ty).map (·.size) = some cs.size) :
    (results fn tmps).run P w = .ok (.agg cs) w := by
  have hp' : tmps[p]?.getD undef = .pointer (some ⟨g, 0, none⟩) := by simpa using hp
  simp [results, h, hp', asAddr, run_loadVar_row w g t ty cs fr d hg hu hd hi, Result.andThen]
def kindsL : List Value := [.bool false, .int .i64 0, .int .i64 0, .int .i64 0, .int .i64 9223372036854775807, .bool false, .int .i64 0, .int .i64 0, .int .i64 0, .int .i64 0, .bool false, .int .i64 0, .int .i64 0, .int .i64 0, .int .i64 1, .bool false, .int .i64 0, .int .i64 0, .int .i64 0, .int .i64 0, .bool true, .int .i64 0, .int .i64 0, .int .i64 0, .int .i64 0, .bool true, .int .i64 0, .int .i64 1, .int .i64 2, .int .i64 0, .bool true, .int .i64 1, .int .i64 2, .int .i64 1, .int .i64 0, .bool false, .int .i64 0, .int .i64 0, .int .i64 2, .int .i64 0, .bool false, .int .i64 0, .int .i64 0, .int .i64 (-1), .int .i64 0, .bool true, .int .i64 0, .int .i64 0, .int .i64 1, .int .i64 0, .bool true, .int .i64 0, .int .i64 0, .int .i64 2, .int .i64 0, .bool false, .int .i64 0, .int .i64 0, .int .i64 3, .int .i64 0, .bool false, .int .i64 0, .int .i64 0, .int .i64 1, .int .i64 5, .bool false, .int .i64 1, .int .i64 1, .int .i64 1, .int .i64 0, .bool false, .int .i64 0, .int .i64 0, .int .i64 2, .int .i64 0, .bool false, .int .i64 0, .int .i64 0, .int .i64 1, .int .i64 0, .bool false, .int .i64 0, .int .i64 0, .int .i64 1, .int .i64 0, .bool false, .int .i64 0, .int .i64 0, .int .i64 1, .int .i64 0, .bool false, .int .i64 0, .int .i64 0, .int .i64 0, .int .i64 0, .bool true, .int .i64 1, .int .i64 1048576, .int .i64 0, .int .i64 0]
set_option maxRecDepth 100000 in
set_option maxHeartbeats 2000000 in
theorem kinds_all (w : World) : Calls Tryz.prog 110 #[] w fun e w' => e = .returned (.agg kindsL.toArray) ∧ Below w.heap.size w w' := by
  have hst : ∀ L : List Value, L = kindsL → (storeCells ⟨w.heap.size, 0, none⟩ L 0).run Tryz.prog (w.alloc (.cells Tryz.zeroCells166 166)) = .ok () (w.alloc (.cells kindsL.toArray 166)) := by
    intro L h
    subst h
    have := run_storeCells_new (P := Tryz.prog) w 166 Tryz.zeroCells166 kindsL.toArray (by kernel_rfl) (by kernel_rfl) (by kernel_rfl)
    simpa using this
  go_enter Tryz.func110, Tryz.ntmps110
  go_wp2_with fail
  rw [hst _ (by kernel_rfl)]
  clear hst
  have hK : kindsL.toArray.size = 100 := by kernel_rfl
  generalize hKL : kindsL.toArray = L at *
  go_wp2_with fail
  refine bodyPost_ret (results_cell rfl _ _ w.heap.size _ _ _ _ rfl (heap_alloc_new w _) Tryz.underlying166 rfl (by rw [hK]; kernel_rfl)) rfl ?_
  exact ⟨by rw [hKL], (Below.refl _ _).alloc (Nat.le_refl _) _⟩
def hasV (h : HasD) : Value := .agg #[.bool h.name, .int .i64 (h.low : Int), .int .i64 (h.types : Int), .int .i64 h.kids, .int .i64 h.most]
theorem kinds_index (k : Int) (h0 : 0 ≤ k) (h1 : k < 20) (u : World) : (Instr.index 166 (.agg kindsL.toArray) (.int .i64 k)).run Tryz.prog u = .ok (hasV (hasD k)) u := by
  have h : k = 0 ∨ k = 1 ∨ k = 2 ∨ k = 3 ∨ k = 4 ∨ k = 5 ∨ k = 6 ∨ k = 7 ∨ k = 8 ∨ k = 9 ∨ k = 10 ∨ k = 11 ∨ k = 12 ∨ k = 13 ∨ k = 14 ∨ k = 15 ∨ k = 16 ∨ k = 17 ∨ k = 18 ∨ k = 19 := by omega
  clear h0 h1
  rcases h with rfl | rfl | rfl | rfl | rfl | rfl | rfl | rfl | rfl | rfl | rfl | rfl | rfl | rfl | rfl | rfl | rfl | rfl | rfl | rfl
  all_goals (show _ = _; kernel_rfl)
theorem kinds_any (w : World) : Calls Tryz.prog 110 #[] w fun e w' => (∃ v, e = .returned v ∧ ∀ k : Int, 0 ≤ k → k < 20 → ∀ u, (Instr.index 166 v (.int .i64 k)).run Tryz.prog u = .ok (hasV (hasD k)) u) ∧ Below w.heap.size w w' :=
  (kinds_all w).mono fun e w' h => ⟨⟨_, h.1, fun k h0 h1 u => kinds_index k h0 h1 u⟩, h.2⟩
end Go.Proofs.YtmbppnbekkbibaaGreatDoor
end
