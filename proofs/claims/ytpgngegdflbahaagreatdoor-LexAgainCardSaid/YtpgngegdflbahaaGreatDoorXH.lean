/- The token that a lexer's text begins with; the map of pairs is made. -/
import Derived.Test.YtpgngegdflbahaaGreatDoorXG
set_option linter.unusedVariables false
namespace Go.Proofs.YtpgngegdflbahaaGreatDoor
open Go.RowKit
open Go.Maps (has IsMap Keyed)

theorem nextT_eq (c : UInt8) (r : Bt) : nextT (c :: r) = if letterB c then namedR (c :: r) else if digitB c then numberR (c :: r) else if c.toNat = 34 then strR (c :: r) else signR (c :: r) := rfl

set_option maxRecDepth 100000 in
set_option maxHeartbeats 1000000 in
theorem next_any (w : World) (bl bp : Nat) (c : UInt8) (r : Bt) (p : Nat × Nat) (outv : Value) (hL : LexAt w bl bp (c :: r) p outv) (hs : (c :: r).length ≤ 100000) (hX : LaidX w) (hP : PairsAt w bp pairsL) :
    Calls Tryz.prog 14 #[.pointer (some ⟨bl, 0, none⟩)] w fun e w' => e = .returned (resV (nextT (c :: r))) ∧ Below w.heap.size w w' := by
  have c0 := hL.c0
  have hsz := sv_size (c :: r)
  have hix : (ByteArray.mk (c :: r).toArray)[0]'(by rw [sv_size]; simp) = c := sv_index (c :: r) 0 (by simp)
  have hl0 : (0 : Int) < (r.length : Int) + 1 := by omega
  have HN := hid (named_any w bl bp (c :: r) p outv hL hs hX)
  have HU := hid (number_any w bl bp (c :: r) p outv hL hs hX)
  have HS := hid (str_any w bl bp (c :: r) p outv hL hs (by simp))
  have HG := hid (sign_any w bl bp c r p outv hL hs hP)
  have heq := nextT_eq c r
  generalize namedR (c :: r) = xn at *
  generalize numberR (c :: r) = xu at *
  generalize strR (c :: r) = xs at *
  generalize signR (c :: r) = xg at *
  cases h1 : letterB c
  · rw [h1, if_neg (by simp)] at heq
    cases h2 : digitB c
    · rw [h2, if_neg (by simp)] at heq
      by_cases h3 : c.toNat = 34
      · rw [if_pos h3] at heq
        rw [heq]
        clear heq HN HU HG
        have H3 := hid h3
        clear h3
        go_enter Tryz.func14, Tryz.ntmps14
        go_wp2_with fail
        refine (letter_any c _).mono ?_
        rintro e w1 ⟨rfl, rfl⟩
        rw [h1]
        go_wp2_with fail
        refine (digit_any c _).mono ?_
        rintro e w1 ⟨rfl, rfl⟩
        rw [h2]
        have h3 := H3.out
        go_wp2_with fail
        refine HS.out.mono ?_
        rintro e w2 ⟨rfl, hb2⟩
        clear HS
        rcases xs with e | ⟨kd, t, n⟩
        all_goals
          simp only [resV]
          go_wp2_with fail
          refine bodyPost_ret (results_tmp4 rfl _ _ _) rfl ?_
          exact ⟨rfl, hb2⟩
      · rw [if_neg h3] at heq
        rw [heq]
        clear heq HN HU HS
        go_enter Tryz.func14, Tryz.ntmps14
        go_wp2_with fail
        refine (letter_any c _).mono ?_
        rintro e w1 ⟨rfl, rfl⟩
        rw [h1]
        go_wp2_with fail
        refine (digit_any c _).mono ?_
        rintro e w1 ⟨rfl, rfl⟩
        rw [h2]
        go_wp2_with fail
        refine HG.out.mono ?_
        rintro e w2 ⟨rfl, hb2⟩
        clear HG
        rcases xg with e | ⟨kd, t, n⟩
        all_goals
          simp only [resV]
          go_wp2_with fail
          refine bodyPost_ret (results_tmp4 rfl _ _ _) rfl ?_
          exact ⟨rfl, hb2⟩
    · rw [h2, if_pos rfl] at heq
      rw [heq]
      clear heq HN HS HG
      go_enter Tryz.func14, Tryz.ntmps14
      go_wp2_with fail
      refine (letter_any c _).mono ?_
      rintro e w1 ⟨rfl, rfl⟩
      rw [h1]
      go_wp2_with fail
      refine (digit_any c _).mono ?_
      rintro e w1 ⟨rfl, rfl⟩
      rw [h2]
      go_wp2_with fail
      refine HU.out.mono ?_
      rintro e w2 ⟨rfl, hb2⟩
      clear HU
      rcases xu with e | ⟨kd, t, n⟩
      all_goals
        simp only [resV]
        go_wp2_with fail
        refine bodyPost_ret (results_tmp4 rfl _ _ _) rfl ?_
        exact ⟨rfl, hb2⟩
  · rw [h1, if_pos rfl] at heq
    rw [heq]
    clear heq HU HS HG
    go_enter Tryz.func14, Tryz.ntmps14
    go_wp2_with fail
    refine (letter_any c _).mono ?_
    rintro e w1 ⟨rfl, rfl⟩
    rw [h1]
    go_wp2_with fail
    refine HN.out.mono ?_
    rintro e w2 ⟨rfl, hb2⟩
    clear HN
    rcases xn with e | ⟨kd, t, n⟩
    all_goals
      simp only [resV]
      go_wp2_with fail
      refine bodyPost_ret (results_tmp4 rfl _ _ _) rfl ?_
      exact ⟨rfl, hb2⟩
end Go.Proofs.YtpgngegdflbahaaGreatDoor
