/- The contract of lex's Name. -/
import Derived.Test.YtpgngegdflbahaaGreatDoorXK
set_option linter.unusedVariables false
namespace Go.Proofs.YtpgngegdflbahaaGreatDoor
open Go.RowKit

set_option maxRecDepth 100000 in
set_option maxHeartbeats 1000000 in
theorem name_any (w : World) (s : Bt) (hX : LaidX w) (hs : s.length ≤ 281474976710656) : Calls Tryz.prog 9 #[sv s] w fun e w' => e = .returned (.bool (nameL s)) ∧ Below w.heap.size w w' := by
  have hsz := sv_size s
  cases s with
  | nil =>
    have ha : nameL [] = false := rfl
    rw [ha]
    go_enter Tryz.func9, Tryz.ntmps9
    go_wp2_with fail
    go_ret
    exact ⟨rfl, Below.refl _ _⟩
  | cons c r =>
    have hix : (ByteArray.mk (c :: r).toArray)[0]'(by rw [sv_size]; simp) = c := sv_index (c :: r) 0 (by simp)
    have hl0 : (0 : Int) < (r.length : Int) + 1 := by omega
    have hnz : ((c :: r : Bt) == []) = false := rfl
    have ha : nameL (c :: r) = (decide ((c :: r).length ≤ 32) && letterB c && decide (rowL innerB (c :: r) = (c :: r).length) && !decide ((c :: r) ∈ wordsL)) := rfl
    have HROW := hid (row_inner (c :: r) w hs)
    generalize rowL innerB (c :: r) = n at *
    by_cases h32 : (c :: r).length ≤ 32
    · have h32' : (r.length : Int) + 1 ≤ 32 := by simp only [List.length_cons] at h32; omega
      rw [decide_eq_true h32, Bool.true_and] at ha
      clear h32
      cases hl : letterB c
      · rw [hl] at ha
        simp only [Bool.false_and] at ha
        rw [ha]
        clear ha
        go_enter Tryz.func9, Tryz.ntmps9
        go_wp2_with fail
        refine (letter_any c _).mono ?_
        rintro e w1 ⟨rfl, rfl⟩
        rw [hl]
        go_wp2_with fail
        go_ret
        exact ⟨rfl, Below.refl _ _⟩
      · rw [hl, Bool.true_and] at ha
        by_cases hn : n = (c :: r).length
        · rw [decide_eq_true hn, Bool.true_and] at ha
          have hn' : (n : Int) = (r.length : Int) + 1 := by rw [hn]; simp
          clear hn
          rw [ha]
          clear ha
          generalize hq : decide ((c :: r) ∈ wordsL) = q
          go_enter Tryz.func9, Tryz.ntmps9
          go_wp2_with fail
          refine (letter_any c _).mono ?_
          rintro e w1 ⟨rfl, rfl⟩
          rw [hl]
          go_wp2_with fail
          refine HROW.out.mono ?_
          rintro e w2 ⟨rfl, rfl⟩
          go_wp2_with fail
          refine (words_any _ hX).mono ?_
          rintro e w3 ⟨v3, rfl, hss3, hb3⟩
          go_wp2_with fail
          refine (contains_any v3 wordsL (c :: r) _ hss3).mono ?_
          rintro e w4 ⟨rfl, rfl⟩
          rw [hq]
          go_wp2_with fail
          go_ret
          exact ⟨rfl, hb3⟩
        · rw [decide_eq_false hn, Bool.false_and] at ha
          have hn' : ¬ (n : Int) = (r.length : Int) + 1 := by intro h; apply hn; simp; omega
          clear hn
          rw [ha]
          clear ha
          go_enter Tryz.func9, Tryz.ntmps9
          go_wp2_with fail
          refine (letter_any c _).mono ?_
          rintro e w1 ⟨rfl, rfl⟩
          rw [hl]
          go_wp2_with fail
          refine HROW.out.mono ?_
          rintro e w2 ⟨rfl, rfl⟩
          go_wp2_with fail
          go_ret
          exact ⟨rfl, Below.refl _ _⟩
    · have h32' : ¬ (r.length : Int) + 1 ≤ 32 := by simp only [List.length_cons] at h32; omega
      rw [decide_eq_false h32] at ha
      simp only [Bool.false_and] at ha
      clear h32
      rw [ha]
      clear ha
      go_enter Tryz.func9, Tryz.ntmps9
      go_wp2_with fail
      go_ret
      exact ⟨rfl, Below.refl _ _⟩
end Go.Proofs.YtpgngegdflbahaaGreatDoor
