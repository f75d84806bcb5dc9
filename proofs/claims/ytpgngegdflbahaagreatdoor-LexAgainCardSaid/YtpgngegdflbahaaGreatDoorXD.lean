/- How a lexer goes over blanks. -/
import Derived.Test.YtpgngegdflbahaaGreatDoorXC
set_option linter.unusedVariables false
namespace Go.Proofs.YtpgngegdflbahaaGreatDoor
open Go.RowKit

theorem skipOne_le (s : Bt) : skipOne s ≤ s.length := by
  unfold skipOne
  have h1 := rowL_le blankB s
  split
  · have h2 := rowL_le notLine (s.drop (rowL blankB s))
    rw [List.length_drop] at h2; omega
  · omega
theorem blank_step (s : Bt) (p : Nat × Nat) : s.drop (skipL s) = (s.drop (skipOne s)).drop (skipL (s.drop (skipOne s))) ∧ advL p (s.take (skipL s)) = advL (advL p (s.take (skipOne s))) ((s.drop (skipOne s)).take (skipL (s.drop (skipOne s)))) := by
  have h := skip_one s
  generalize skipL (s.drop (skipOne s)) = m at *
  rw [h]
  refine ⟨by rw [List.drop_drop], ?_⟩
  rw [List.take_add, advL_append]

def textOf (w : World) (bl : Nat) : Nat := match w.cell? ⟨bl, 0, none⟩ with | some (.string b) => b.size | _ => 0
theorem textOf_at {w : World} {bl bp : Nat} {s : Bt} {p : Nat × Nat} {outv : Value} (h : LexAt w bl bp s p outv) : textOf w bl = s.length := by
  unfold textOf; rw [h.c0]; exact sv_size s

/-- What the round over blanks keeps. -/
def BlankRel (w : World) (bl bp : Nat) (s : Bt) (p : Nat × Nat) (outv : Value) (wr : World) : Prop :=
  ∃ (c : Bt) (q : Nat × Nat), LexAt wr bl bp c q outv ∧ Turn (fun k => k = bl) w wr ∧ c.length ≤ s.length ∧ s.drop (skipL s) = c.drop (skipL c) ∧ advL p (s.take (skipL s)) = advL q (c.take (skipL c)) ∧
    q.1 + c.length ≤ p.1 + s.length ∧ q.2 + c.length ≤ p.2 + s.length ∧ 1 ≤ q.2

theorem advL_le2 {p : Nat × Nat} (s : Bt) (h : 1 ≤ p.2) : (advL p s).1 ≤ p.1 + s.length ∧ (advL p s).2 ≤ p.2 + s.length ∧ 1 ≤ (advL p s).2 := by
  induction s generalizing p with
  | nil => exact ⟨Nat.le_refl _, Nat.le_refl _, h⟩
  | cons c s ih =>
    have h0 : advL p (c :: s) = advL (advB p c) s := rfl
    rw [h0]
    have h1 : (advB p c).1 ≤ p.1 + 1 ∧ (advB p c).2 ≤ p.2 + 1 ∧ 1 ≤ (advB p c).2 := by
      unfold advB; split
      · exact ⟨Nat.le_refl _, by show 1 ≤ _; omega, Nat.le_refl _⟩
      · exact ⟨Nat.le_succ _, Nat.le_refl _, by show 1 ≤ _ + 1; omega⟩
    obtain ⟨a, b, d⟩ := ih h1.2.2
    simp only [List.length_cons]
    omega
theorem BlankRel.step {w wr w2 : World} {bl bp : Nat} {s c : Bt} {p q : Nat × Nat} {outv : Value} (htr : Turn (fun k => k = bl) w wr) (hcl : c.length ≤ s.length) (hd : s.drop (skipL s) = c.drop (skipL c)) (ha : advL p (s.take (skipL s)) = advL q (c.take (skipL c)))
    (hq1 : q.1 + c.length ≤ p.1 + s.length) (hq2 : q.2 + c.length ≤ p.2 + s.length) (hq3 : 1 ≤ q.2) (h : LexAt w2 bl bp (c.drop (skipOne c)) (advL q (c.take (skipOne c))) outv) (ht : Turn (fun k => k = bl) wr w2) (h0 : 0 < skipOne c) :
    BlankRel w bl bp s p outv w2 ∧ textOf w2 bl < c.length := by
  obtain ⟨e1, e2⟩ := blank_step c q
  have hone := skipOne_le c
  have hl := advL_le2 (c.take (skipOne c)) hq3
  rw [List.length_take, Nat.min_eq_left hone] at hl
  refine ⟨⟨_, _, h, htr.trans ht (fun _ _ h => h), ?_, hd.trans e1, ha.trans e2, ?_, ?_, hl.2.2⟩, ?_⟩
  · rw [List.length_drop]; omega
  · rw [List.length_drop]; omega
  · rw [List.length_drop]; omega
  · rw [textOf_at h, List.length_drop]; omega

set_option maxRecDepth 100000 in
set_option maxHeartbeats 1000000 in
theorem blanks_any (w : World) (bl bp : Nat) (s : Bt) (p : Nat × Nat) (outv : Value) (hL : LexAt w bl bp s p outv) (hs : s.length ≤ 100000) (hp : p.1 ≤ 700000 ∧ p.2 ≤ 700000) (hp1 : 1 ≤ p.2) :
    Calls Tryz.prog 13 #[.pointer (some ⟨bl, 0, none⟩)] w fun e w' =>
      e = .returned (.tuple #[]) ∧ LexAt w' bl bp (s.drop (skipL s)) (advL p (s.take (skipL s))) outv ∧ Turn (fun k => k = bl) w w' := by
  go_enter Tryz.func13, Tryz.ntmps13
  go_wp2_with fail
  go_loopw [2] (fun _ wr => BlankRel w bl bp s p outv wr) (fun _ wr => textOf wr bl)
  case atStart => exact ⟨s, p, hL, Turn.refl _ _, Nat.le_refl _, rfl, rfl, Nat.le_refl _, Nat.le_refl _, hp1⟩
  case round =>
    obtain ⟨c, q, hLr, htr, hcl, hd, ha, hq1, hq2, hq3⟩ := hrel
    have hlen := textOf_at hLr
    have c0 := hLr.c0
    have hsz := sv_size c
    have hrow := rowL_le blankB c
    have HSTEP := hid (fun w2 h ht h0 => BlankRel.step (w2 := w2) (bp := bp) (outv := outv) htr hcl hd ha hq1 hq2 hq3 h ht h0)
    have hz : skipOne c = 0 → LexAt wr bl bp (s.drop (skipL s)) (advL p (s.take (skipL s))) outv := by
      intro h
      rw [hd, ha, skip_zero h]
      exact hLr
    have HZ := hid hz
    have HL := hid hLr
    have HLEN := hid hlen
    have HT := hid htr
    have he : Value.string (ByteArray.extract ⟨c.toArray⟩ (rowL blankB c) c.length) = sv (c.drop (rowL blankB c)) := by rw [extract_sv, List.take_length]
    have hone : skipOne c = rowL blankB c + (if ((c.drop (rowL blankB c)).head?).map UInt8.toNat = some 35 then rowL notLine (c.drop (rowL blankB c)) else 0) := rfl
    have hle := skipOne_le c
    have hdl : (c.drop (rowL blankB c)).length = c.length - rowL blankB c := List.length_drop
    clear hd ha hz hLr htr hlen
    go_wp2_with fail
    refine (row_blank c _ (by omega)).mono ?_
    rintro e w1 ⟨rfl, rfl⟩
    generalize hn : rowL blankB c = n at *
    generalize hr : c.drop n = r at *
    have HDL := hid hdl
    clear hdl
    cases r with
    | nil =>
      simp only [List.head?_nil, Option.map_none, reduceCtorEq, if_false, Nat.add_zero] at hone
      by_cases h0 : n = 0
      · have hfin := HZ.out (by omega)
        have HFIN := hid hfin
        clear hfin
        subst h0
        go_wp2_with fail
        (try simp only [Exit.inBlock, Exit.then]); refine bodyPost_ret (results_none rfl _ _ _) rfl ?_
        exact ⟨rfl, HFIN.out, HT.out⟩
      · have h0' : ¬ ((n : Nat) : Int) = 0 := by omega
        go_wp2_with fail
        refine (pass_any w1 bl bp c q outv n HL.out (by omega) (by omega) (by omega)).mono ?_
        rintro e w2 ⟨rfl, hl2, ht2⟩
        obtain ⟨hrel2, hm2⟩ := HSTEP.out w2 (by rw [hone]; exact hl2) ht2 (by omega)
        have HREL2 := hid hrel2
        have HM2 := hid hm2
        clear hrel2 hm2 hl2 ht2
        go_wp2_with fail
        go_roundw
        case rel => exact HREL2.out
        case measure => have := HLEN.out; have := HM2.out; omega

    | cons d tl =>
      simp only [List.head?_cons, Option.map_some, Option.some.injEq] at hone
      have hix : (ByteArray.mk (d :: tl).toArray)[0]'(by rw [sv_size]; simp) = d := sv_index (d :: tl) 0 (by simp)
      have hsz2 := sv_size (d :: tl)
      by_cases hd : d.toNat = 35
      · rw [if_pos hd] at hone
        have hn2 := rowL_le notLine (d :: tl)
        have hdl2 : rowL notLine (d :: tl) + n ≤ c.length := by have := HDL.out; omega
        have hn3 : 1 ≤ rowL notLine (d :: tl) := rowL_pos (by unfold notLine; simp [hd])
        go_wp2_with fail
        refine (row_notline (d :: tl) _ (by have := HDL.out; omega)).mono ?_
        rintro e w1 ⟨rfl, rfl⟩
        generalize rowL notLine (d :: tl) = n2 at *
        have h0' : ¬ ((n : Int) + (n2 : Int)) = 0 := by omega
        have e12 : (n : Int) + (n2 : Int) = ((n + n2 : Nat) : Int) := by omega
        have E12 := hid e12
        clear e12
        go_wp2_with fail
        have e12 := E12.out
        try rw [e12]
        refine (pass_any w1 bl bp c q outv (n + n2) HL.out (by omega) (by omega) (by omega)).mono ?_
        rintro e w2 ⟨rfl, hl2, ht2⟩
        obtain ⟨hrel2, hm2⟩ := HSTEP.out w2 (by rw [hone]; exact hl2) ht2 (by omega)
        have HREL2 := hid hrel2
        have HM2 := hid hm2
        clear hrel2 hm2 hl2 ht2 e12
        go_wp2_with fail
        go_roundw
        case rel => exact HREL2.out
        case measure => have := HLEN.out; have := HM2.out; omega
      · rw [if_neg hd, Nat.add_zero] at hone
        by_cases h0 : n = 0
        · have hfin := HZ.out (by omega)
          have HFIN := hid hfin
          clear hfin
          subst h0
          go_wp2_with fail
          (try simp only [Exit.inBlock, Exit.then]); refine bodyPost_ret (results_none rfl _ _ _) rfl ?_
          exact ⟨rfl, HFIN.out, HT.out⟩
        · have h0' : ¬ ((n : Nat) : Int) = 0 := by omega
          go_wp2_with fail
          refine (pass_any w1 bl bp c q outv n HL.out (by omega) (by omega) (by omega)).mono ?_
          rintro e w2 ⟨rfl, hl2, ht2⟩
          obtain ⟨hrel2, hm2⟩ := HSTEP.out w2 (by rw [hone]; exact hl2) ht2 (by omega)
          have HREL2 := hid hrel2
          have HM2 := hid hm2
          clear hrel2 hm2 hl2 ht2
          go_wp2_with fail
          go_roundw
          case rel => exact HREL2.out
          case measure => have := HLEN.out; have := HM2.out; omega
end Go.Proofs.YtpgngegdflbahaaGreatDoor
