/- Texts that belong together: XL, XR. -/
import Derived.Test.YtbpedjkebemhnaaGreatDoorGG
/- The contract of lex's Name. -/
set_option linter.unusedVariables false
namespace Go.Proofs.YtbpedjkebemhnaaGreatDoor
open Go.RowKit

set_option maxRecDepth 100000 in
set_option maxHeartbeats 1000000 in
theorem name_any (w : World) (s : Bt) (hX : LaidT w) (hs : s.length ≤ 281474976710656) : Calls Tryz.prog 41 #[sv s] w fun e w' => e = .returned (.bool (nameL s)) ∧ Below w.heap.size w w' := by
  have hsz := sv_size s
  cases s with
  | nil =>
    have ha : nameL [] = false := rfl
    rw [ha]
    go_enter Tryz.func41, Tryz.ntmps41
    go_wp2_with fail
    go_ret
    exact ⟨rfl, Below.refl _ _⟩
  | cons c r =>
    have hix : (ByteArray.mk (c :: r).toArray)[0]'(by rw [sv_size]; simp) = c := sv_index (c :: r) 0 (by simp)
    have hl0 : (0 : Int) < (r.length : Int) + 1 := by omega
    have hnz : ((c :: r : Bt) == []) = false := rfl
    have ha : nameL (c :: r) = (decide ((c :: r).length ≤ 32) && letterB c && decide (rowL innerB (c :: r) = (c :: r).length) && !decide ((c :: r) ∈ wordsL)) := rfl
    have HROW := hid (row_inner (c :: r) w hs)
    generalize rowL innerB (c :: r) = n at *
    by_cases h32 : (c :: r).length ≤ 32
    · have h32' : (r.length : Int) + 1 ≤ 32 := by simp only [List.length_cons] at h32; omega
      rw [decide_eq_true h32, Bool.true_and] at ha
      clear h32
      cases hl : letterB c
      · rw [hl] at ha
        simp only [Bool.false_and] at ha
        rw [ha]
        clear ha
        go_enter Tryz.func41, Tryz.ntmps41
        go_wp2_with fail
        refine (letter_any c _).mono ?_
        rintro e w1 ⟨rfl, rfl⟩
        rw [hl]
        go_wp2_with fail
        go_ret
        exact ⟨rfl, Below.refl _ _⟩
      · rw [hl, Bool.true_and] at ha
        by_cases hn : n = (c :: r).length
        · rw [decide_eq_true hn, Bool.true_and] at ha
          have hn' : (n : Int) = (r.length : Int) + 1 := by rw [hn]; simp
          clear hn
          rw [ha]
          clear ha
          generalize hq : decide ((c :: r) ∈ wordsL) = q
          go_enter Tryz.func41, Tryz.ntmps41
          go_wp2_with fail
          refine (letter_any c _).mono ?_
          rintro e w1 ⟨rfl, rfl⟩
          rw [hl]
          go_wp2_with fail
          refine HROW.out.mono ?_
          rintro e w2 ⟨rfl, rfl⟩
          go_wp2_with fail
          refine (words_any _ hX).mono ?_
          rintro e w3 ⟨v3, rfl, hss3, hb3⟩
          go_wp2_with fail
          refine (contains_any v3 wordsL (c :: r) _ hss3).mono ?_
          rintro e w4 ⟨rfl, rfl⟩
          rw [hq]
          go_wp2_with fail
          go_ret
          exact ⟨rfl, hb3⟩
        · rw [decide_eq_false hn, Bool.false_and] at ha
          have hn' : ¬ (n : Int) = (r.length : Int) + 1 := by intro h; apply hn; simp; omega
          clear hn
          rw [ha]
          clear ha
          go_enter Tryz.func41, Tryz.ntmps41
          go_wp2_with fail
          refine (letter_any c _).mono ?_
          rintro e w1 ⟨rfl, rfl⟩
          rw [hl]
          go_wp2_with fail
          refine HROW.out.mono ?_
          rintro e w2 ⟨rfl, rfl⟩
          go_wp2_with fail
          go_ret
          exact ⟨rfl, Below.refl _ _⟩
    · have h32' : ¬ (r.length : Int) + 1 ≤ 32 := by simp only [List.length_cons] at h32; omega
      rw [decide_eq_false h32] at ha
      simp only [Bool.false_and] at ha
      clear h32
      rw [ha]
      clear ha
      go_enter Tryz.func41, Tryz.ntmps41
      go_wp2_with fail
      go_ret
      exact ⟨rfl, Below.refl _ _⟩
end Go.Proofs.YtbpedjkebemhnaaGreatDoor

/- The contracts of the reference's Words, word, letter, digit and Name. -/
set_option linter.unusedVariables false
namespace Go.Proofs.YtbpedjkebemhnaaGreatDoor
open Go.RowKit

theorem rletter_any (c : UInt8) (w : World) : Calls Tryz.prog 99 #[.int .u8 (c.toNat : Int)] w fun e w' => e = .returned (.bool (letterB c)) ∧ w' = w := by
  unfold letterB
  generalize c.toNat = n
  go_enter Tryz.func99, Tryz.ntmps99
  go_wp2_with fail
  all_goals
    go_ret
    refine ⟨?_, rfl⟩
    congr 2
    try simp
    try omega
    try (rw [Bool.eq_iff_iff]; simp only [Bool.or_eq_true, Bool.and_eq_true, decide_eq_true_eq, beq_iff_eq]; omega)
theorem rdigit_any (c : UInt8) (w : World) : Calls Tryz.prog 98 #[.int .u8 (c.toNat : Int)] w fun e w' => e = .returned (.bool (digitB c)) ∧ w' = w := by
  unfold digitB
  generalize c.toNat = n
  go_enter Tryz.func98, Tryz.ntmps98
  go_wp2_with fail
  all_goals
    go_ret
    refine ⟨?_, rfl⟩
    congr 2
    try simp
    try omega
    try (rw [Bool.eq_iff_iff]; simp only [Bool.or_eq_true, Bool.and_eq_true, decide_eq_true_eq, beq_iff_eq]; omega)
set_option maxRecDepth 100000 in
theorem rwords_any (w : World) : Calls Tryz.prog 131 #[] w fun e w' => ∃ v, e = .returned v ∧ Ss w' w'.heap.size v wordsL ∧ Below w.heap.size w w' := by
  have hss : Ss (w.alloc (.cells (svs wordsL).toArray 9)) (w.alloc (.cells (svs wordsL).toArray 9)).heap.size (.slice (some ⟨w.heap.size, 0, none⟩) 25 25) wordsL := by
    have := sl_new w (svs wordsL).toArray 9 1 25 (by simp [svs_length]; rfl) (by decide)
    rw [World.size_alloc]
    simpa [Ss] using this
  have hb : Below w.heap.size w (w.alloc (.cells (svs wordsL).toArray 9)) := (Below.refl _ _).alloc (Nat.le_refl _) _
  go_enter Tryz.func131, Tryz.ntmps131
  go_wp2_with fail
  go_ret
  exact ⟨_, rfl, hss, hb⟩

set_option maxHeartbeats 400000 in
theorem rword_any (w : World) (x : Bt) : Calls Tryz.prog 97 #[sv x] w fun e w' => e = .returned (.bool (decide (x ∈ wordsL))) ∧ Below w.heap.size w w' := by
  obtain ⟨l, hl⟩ : ∃ l, l = wordsL := ⟨_, rfl⟩
  rw [← hl]
  go_enter Tryz.func97, Tryz.ntmps97
  go_wp2_with fail
  refine (rwords_any _).mono ?_
  rintro e w1 ⟨v, rfl, hss, hb⟩
  rw [← hl] at hss
  clear hl
  obtain ⟨A, c, rfl, hn, hc, hx⟩ := hss.open_
  unfold maxLen at hc
  go_wp2_with fail
  go_loop [4] (fun v4 => ∃ k : Nat, v4 = .int .i64 k ∧ k ≤ l.length ∧ x ∉ l.take k) (fun v4 => l.length - (intOf v4).toNat)
  case atStart => exact ⟨0, rfl, by omega, by simp⟩
  case round =>
    obtain ⟨k, rfl, hk, hnot⟩ := hrel
    by_cases hlt : k < l.length
    · obtain ⟨b, o, rfl, hb2, hcell⟩ := hx (by omega)
      have d1 := hcell k hlt
      have e1 : l[k] = x → x ∈ l := fun h => by rw [← h]; exact List.getElem_mem hlt
      have e2 : ¬ l[k] = x → x ∉ l.take (k + 1) := fun h hh => by
        rw [List.take_succ_eq_append_getElem hlt, List.mem_append] at hh
        rcases hh with hh | hh
        · exact hnot hh
        · simp at hh; exact h hh.symm
      clear hcell hx hss hnot
      generalize l[k] = X at *
      by_cases hX : X = x
      · have e3 := e1 hX
        have hq : (X == x) = true := by rw [beq_iff_eq]; exact hX
        clear hX e1 e2
        go_wp2_with fail
        go_ret
        exact ⟨by simp [e3], hb⟩
      · have e3 := e2 hX
        have hq : (X == x) = false := by rw [beq_eq_false_iff_ne]; exact hX
        clear hX e1 e2
        go_wp2_with fail
        go_round
        case rel => exact ⟨k + 1, rfl, by omega, e3⟩
        case measure => simp [intOf]; omega
    · obtain rfl : k = l.length := by omega
      rw [List.take_length] at hnot
      go_wp2_with fail
      go_ret
      exact ⟨by simp [hnot], hb⟩

theorem rowL_full {p : UInt8 → Bool} {s : Bt} (h : rowL p s = s.length) : ∀ x ∈ s, p x = true := by
  induction s with
  | nil => intro x hx; cases hx
  | cons c r ih =>
    rw [rowL_cons] at h
    by_cases hc : p c = true
    · rw [if_pos hc] at h
      intro x hx
      rcases List.mem_cons.1 hx with rfl | hx
      · exact hc
      · exact ih (by simpa using h) x hx
    · rw [if_neg hc] at h; simp at h
theorem letter_digit (c : UInt8) : letterB c = true → digitB c = false := by
  unfold letterB digitB
  intro h
  simp only [Bool.or_eq_true, Bool.and_eq_true, decide_eq_true_eq] at h
  rw [Bool.and_eq_false_iff, decide_eq_false_iff_not, decide_eq_false_iff_not]
  omega
theorem nameL_cons (c : UInt8) (r : Bt) : nameL (c :: r) = (decide ((c :: r).length ≤ 32) && letterB c && decide (rowL innerB (c :: r) = (c :: r).length) && !decide ((c :: r) ∈ wordsL)) := rfl
/-- The two ways of saying what a name is. -/
theorem nameL_eq (c : UInt8) (r : Bt) (h1 : (c :: r).length ≤ 32) (h2 : (c :: r) ∉ wordsL) (h3 : digitB c = false) : nameL (c :: r) = decide (∀ x ∈ c :: r, innerB x = true) := by
  rw [nameL_cons]
  rw [decide_eq_true h1, decide_eq_false h2]
  simp only [Bool.true_and, Bool.not_false, Bool.and_true]
  rw [Bool.eq_iff_iff]
  simp only [Bool.and_eq_true, decide_eq_true_eq]
  constructor
  · rintro ⟨_, h⟩
    exact rowL_full h
  · intro h
    refine ⟨?_, rowL_all (fun j hj => h _ (List.getElem_mem hj))⟩
    have := h c (by simp)
    unfold innerB at this
    rw [h3, Bool.or_false] at this
    exact this
theorem nameL_no {c : UInt8} {r : Bt} (h : ¬ (c :: r).length ≤ 32 ∨ (c :: r) ∈ wordsL ∨ digitB c = true) : nameL (c :: r) = false := by
  rw [nameL_cons]
  rcases h with h | h | h
  · rw [decide_eq_false h]; rfl
  · rw [decide_eq_true h]; simp
  · have hl : letterB c = false := by
      cases hq : letterB c with
      | false => rfl
      | true => rw [letter_digit c hq] at h; cases h
    rw [hl]; simp

set_option maxRecDepth 100000 in
set_option maxHeartbeats 1000000 in
theorem rname_any (w : World) (s : Bt) (hs : s.length ≤ 9223372036854775807) : Calls Tryz.prog 46 #[sv s] w fun e w' => e = .returned (.bool (nameL s)) ∧ Below w.heap.size w w' := by
  have hsz := sv_size s
  have HW := hid (rword_any w s)
  cases s with
  | nil =>
    have ha : nameL [] = false := rfl
    rw [ha]
    go_enter Tryz.func46, Tryz.ntmps46
    go_wp2_with fail
    refine HW.out.mono ?_
    rintro e w1 ⟨rfl, hb⟩
    go_wp2_with fail
    go_ret
    exact ⟨rfl, hb⟩
  | cons c r =>
    have hix : (ByteArray.mk (c :: r).toArray)[0]'(by rw [sv_size]; simp) = c := sv_index (c :: r) 0 (by simp)
    have hl0 : (0 : Int) < (r.length : Int) + 1 := by omega
    have hl00 : ¬ ((r.length : Int) + 1 = 0) := by omega
    by_cases h32 : (c :: r).length ≤ 32
    · have h32' : ¬ (32 : Int) < (r.length : Int) + 1 := by simp only [List.length_cons] at h32; omega
      by_cases hw : (c :: r) ∈ wordsL
      · rw [nameL_no (.inr (.inl hw))]
        rw [decide_eq_true hw] at HW
        clear h32 hw
        go_enter Tryz.func46, Tryz.ntmps46
        go_wp2_with fail
        refine HW.out.mono ?_
        rintro e w1 ⟨rfl, hb⟩
        go_wp2_with fail
        go_ret
        exact ⟨rfl, hb⟩
      · cases hd : digitB c with
        | true =>
          rw [nameL_no (.inr (.inr hd))]
          rw [decide_eq_false hw] at HW
          clear h32 hw
          go_enter Tryz.func46, Tryz.ntmps46
          go_wp2_with fail
          refine HW.out.mono ?_
          rintro e w1 ⟨rfl, hb⟩
          go_wp2_with fail
          refine (rdigit_any c _).mono ?_
          rintro e w2 ⟨rfl, rfl⟩
          rw [hd]
          go_wp2_with fail
          go_ret
          exact ⟨rfl, hb⟩
        | false =>
          have ha := nameL_eq c r h32 hw hd
          have H32 := hid h32
          rw [decide_eq_false hw] at HW
          rw [ha]
          clear h32 hw ha hix hl0 hl00 h32'
          obtain ⟨s, hsc⟩ : ∃ s, s = c :: r := ⟨_, rfl⟩
          have hix : ∀ h, (ByteArray.mk s.toArray)[0]'h = c := by subst hsc; intro h; exact sv_index (c :: r) 0 (by simp)
          have hl0 : 0 < s.length := by rw [hsc]; simp
          have hs0 : ¬ s = [] := by rw [hsc]; simp
          have h32 : s.length ≤ 32 := by rw [hsc]; exact H32.out
          rw [← hsc] at hs hsz HW
          rw [← hsc]
          clear hsc H32
          have hl1 : ¬ (s.length : Int) = 0 := by omega
          have hl2 : (s.length : Int) ≤ 32 := by omega
          have hl3 : ((s.length : Int) == 0) = false := by rw [beq_eq_false_iff_ne]; omega
          have hl4 : decide ((32 : Int) < (s.length : Int)) = false := by rw [decide_eq_false_iff_not]; omega
          go_enter Tryz.func46, Tryz.ntmps46
          go_wp2_with fail
          refine HW.out.mono ?_
          rintro e w1 ⟨rfl, hb⟩
          go_wp2_with fail
          refine (rdigit_any c _).mono ?_
          rintro e w2 ⟨rfl, rfl⟩
          rw [hd]
          clear hix hd HW
          go_wp2_with fail
          go_loop [4] (fun v4 => ∃ k : Nat, v4 = .int .i64 k ∧ k ≤ s.length ∧ ∀ j (hj : j < s.length), j < k → innerB s[j] = true) (fun v4 => s.length - (intOf v4).toNat)
          case atStart => exact ⟨0, rfl, by omega, fun j hj h => by omega⟩
          case round =>
            obtain ⟨k, rfl, hk, hall⟩ := hrel
            by_cases hlt : k < s.length
            · have hix := sv_index s k hlt
              have hbad : innerB s[k] = false → decide (∀ x ∈ s, innerB x = true) = false := fun h => by
                rw [decide_eq_false_iff_not]
                intro hh
                rw [hh _ (List.getElem_mem hlt)] at h; cases h
              have hnext : innerB s[k] = true → ∀ j (hj : j < s.length), j < k + 1 → innerB s[j] = true := by
                intro h j hj hjk
                rcases Nat.lt_or_ge j k with h1 | h1
                · exact hall j hj h1
                · obtain rfl : j = k := by omega
                  exact h
              have HBAD := hid hbad
              have HNEXT := hid hnext
              clear hall hbad hnext
              generalize hX : s[k] = X at *
              have hin : innerB X = (letterB X || digitB X) := rfl
              go_wp2_with fail
              refine (rletter_any X _).mono ?_
              rintro e w3 ⟨rfl, rfl⟩
              go_wp2_with fail
              refine (rdigit_any X _).mono ?_
              rintro e w4 ⟨rfl, rfl⟩
              cases hq1 : letterB X
              · cases hq2 : digitB X
                · have hres := HBAD.out (by rw [hin, hq1, hq2]; rfl)
                  go_wp2_with fail
                  go_ret
                  exact ⟨by rw [hres]; rfl, hb⟩
                · have HN := hid (HNEXT.out (by rw [hin, hq1, hq2]; rfl))
                  go_wp2_with fail
                  go_round
                  case rel => exact ⟨k + 1, rfl, by omega, HN.out⟩
                  case measure => simp [intOf]; omega
              · have HN := hid (HNEXT.out (by rw [hin, hq1]; rfl))
                go_wp2_with fail
                go_round
                case rel => exact ⟨k + 1, rfl, by omega, HN.out⟩
                case measure => simp [intOf]; omega
            · obtain rfl : k = s.length := by omega
              have hres : decide (∀ x ∈ s, innerB x = true) = true := by
                rw [decide_eq_true_eq]
                intro x hx
                obtain ⟨j, hj, rfl⟩ := List.getElem_of_mem hx
                exact hall j hj hj
              clear hall
              go_wp2_with fail
              go_ret
              first | exact ⟨by rw [hres]; rfl, hb⟩ | exact ⟨by simp [hres], hb⟩
    · have h32' : (32 : Int) < (r.length : Int) + 1 := by simp only [List.length_cons] at h32; omega
      rw [nameL_no (.inl h32)]
      clear h32
      go_enter Tryz.func46, Tryz.ntmps46
      go_wp2_with fail
      refine HW.out.mono ?_
      rintro e w1 ⟨rfl, hb⟩
      go_wp2_with fail
      go_ret
      exact ⟨rfl, hb⟩
end Go.Proofs.YtbpedjkebemhnaaGreatDoor
