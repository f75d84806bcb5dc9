/- The contracts of lex's functions on bytes, and of how many bytes are of a sort. -/
import Derived.Test.YtpgngegdflbahaaGreatDoorRows
import Derived.Test.YtpgngegdflbahaaGreatDoorPY
import Derived.Test.YtpgngegdflbahaaGreatDoorMS
import Derived.RegionTactic
import Derived.Deep.QuietTactic
set_option linter.unusedVariables false
namespace Go.Proofs.YtpgngegdflbahaaGreatDoor
open Go.RowKit

theorem letter_any (c : UInt8) (w : World) : Calls Tryz.prog 16 #[.int .u8 (c.toNat : Int)] w fun e w' => e = .returned (.bool (letterB c)) ∧ w' = w := by
  unfold letterB
  generalize c.toNat = n
  go_enter Tryz.func16, Tryz.ntmps16
  go_wp2_with fail
  all_goals
    go_ret
    refine ⟨?_, rfl⟩
    congr 2
    try simp
    try omega
    try (rw [Bool.eq_iff_iff]; simp only [Bool.or_eq_true, Bool.and_eq_true, decide_eq_true_eq, beq_iff_eq]; omega)
theorem digit_any (c : UInt8) (w : World) : Calls Tryz.prog 26 #[.int .u8 (c.toNat : Int)] w fun e w' => e = .returned (.bool (digitB c)) ∧ w' = w := by
  unfold digitB
  generalize c.toNat = n
  go_enter Tryz.func26, Tryz.ntmps26
  go_wp2_with fail
  all_goals
    go_ret
    refine ⟨?_, rfl⟩
    congr 2
    try simp
    try omega
    try (rw [Bool.eq_iff_iff]; simp only [Bool.or_eq_true, Bool.and_eq_true, decide_eq_true_eq, beq_iff_eq]; omega)
theorem blank_any (c : UInt8) (w : World) : Calls Tryz.prog 23 #[.int .u8 (c.toNat : Int)] w fun e w' => e = .returned (.bool (blankB c)) ∧ w' = w := by
  unfold blankB
  generalize c.toNat = n
  go_enter Tryz.func23, Tryz.ntmps23
  go_wp2_with fail
  all_goals
    go_ret
    refine ⟨?_, rfl⟩
    congr 2
    try simp
    try omega
    try (rw [Bool.eq_iff_iff]; simp only [Bool.or_eq_true, Bool.and_eq_true, decide_eq_true_eq, beq_iff_eq]; omega)
theorem notline_any (c : UInt8) (w : World) : Calls Tryz.prog 24 #[.int .u8 (c.toNat : Int)] w fun e w' => e = .returned (.bool (notLine c)) ∧ w' = w := by
  unfold notLine
  generalize c.toNat = n
  go_enter Tryz.func24, Tryz.ntmps24
  go_wp2_with fail
  all_goals
    go_ret
    refine ⟨?_, rfl⟩
    congr 2
    try simp
    try omega
    try (rw [Bool.eq_iff_iff]; simp only [Bool.not_eq_true', bne_iff_ne, ne_eq, decide_eq_false_iff_not]; omega)
theorem inner_any (c : UInt8) (w : World) : Calls Tryz.prog 18 #[.int .u8 (c.toNat : Int)] w fun e w' => e = .returned (.bool (innerB c)) ∧ w' = w := by
  have hi : innerB c = (letterB c || digitB c) := rfl
  rw [hi]
  clear hi
  cases hl : letterB c
  · go_enter Tryz.func18, Tryz.ntmps18
    go_wp2_with fail
    refine (letter_any c _).mono ?_
    rintro e w1 ⟨rfl, rfl⟩
    rw [hl]
    go_wp2_with fail
    refine (digit_any c _).mono ?_
    rintro e w1 ⟨rfl, rfl⟩
    go_wp2_with fail
    go_ret
    exact ⟨rfl, rfl⟩
  · go_enter Tryz.func18, Tryz.ntmps18
    go_wp2_with fail
    refine (letter_any c _).mono ?_
    rintro e w1 ⟨rfl, rfl⟩
    rw [hl]
    go_wp2_with fail
    go_ret
    exact ⟨rfl, rfl⟩

theorem sv_size (s : Bt) : (ByteArray.mk s.toArray).size = s.length := by simp [ByteArray.size]
theorem sv_index (s : Bt) (k : Nat) (h : k < s.length) : (ByteArray.mk s.toArray)[k]'(by rw [sv_size]; exact h) = s[k] := by simp [ByteArray.getElem_eq_getElem_data]

set_option maxHeartbeats 400000 in
theorem row_blank (s : Bt) (w : World) (hs : s.length ≤ 281474976710656) : Calls Tryz.prog 17 #[sv s, .func (.func 23) #[] #[]] w fun e w' => e = .returned (.int .i64 (rowL blankB s : Nat)) ∧ w' = w := by
  have hsz := sv_size s
  go_enter Tryz.func17, Tryz.ntmps17
  go_wp2_with fail
  go_loop [5, 8] (fun v5 v8 => ∃ k : Nat, v8 = .int .i64 k ∧ k ≤ s.length ∧ ∀ j (hj : j < s.length), j < k → blankB s[j] = true) (fun _ v8 => s.length - (intOf v8).toNat)
  case atStart => exact ⟨0, rfl, by omega, fun j hj h => by omega⟩
  case round =>
    obtain ⟨k, rfl, hk, hall⟩ := hrel
    by_cases hlt : k < s.length
    · have hix := sv_index s k hlt
      have hrow := fun hn => rowL_at (p := blankB) hlt (fun j hj => hall j (by omega) hj) hn
      have hnext : blankB s[k] = true → ∀ j (hj : j < s.length), j < k + 1 → blankB s[j] = true := by
        intro h j hj hjk
        rcases Nat.lt_or_ge j k with h1 | h1
        · exact hall j hj h1
        · obtain rfl : j = k := by omega
          exact h
      have HROW := hid hrow
      have HNEXT := hid hnext
      clear hall hrow hnext
      generalize hX : s[k] = X at *
      cases hq : blankB X
      · have hres := HROW.out hq
        go_wp2_with fail
        refine (blank_any X _).mono ?_
        rintro e w1 ⟨rfl, rfl⟩
        rw [hq]
        go_wp2_with fail
        go_ret
        exact ⟨by rw [hres]; rfl, rfl⟩
      · have hall := HNEXT.out hq
        have HALL := hid hall
        clear hall
        go_wp2_with fail
        refine (blank_any X _).mono ?_
        rintro e w1 ⟨rfl, rfl⟩
        rw [hq]
        go_wp2_with fail
        go_round
        case rel => exact ⟨k + 1, rfl, by omega, HALL.out⟩
        case measure => simp [intOf]; omega
    · obtain rfl : k = s.length := by omega
      have hres := rowL_all (p := blankB) (s := s) (fun j hj => hall j hj hj)
      clear hall
      go_wp2_with fail
      go_ret
      first | exact ⟨rfl, rfl⟩ | exact ⟨by rw [hres]; rfl, rfl⟩

set_option maxHeartbeats 400000 in
theorem row_inner (s : Bt) (w : World) (hs : s.length ≤ 281474976710656) : Calls Tryz.prog 17 #[sv s, .func (.func 18) #[] #[]] w fun e w' => e = .returned (.int .i64 (rowL innerB s : Nat)) ∧ w' = w := by
  have hsz := sv_size s
  go_enter Tryz.func17, Tryz.ntmps17
  go_wp2_with fail
  go_loop [5, 8] (fun v5 v8 => ∃ k : Nat, v8 = .int .i64 k ∧ k ≤ s.length ∧ ∀ j (hj : j < s.length), j < k → innerB s[j] = true) (fun _ v8 => s.length - (intOf v8).toNat)
  case atStart => exact ⟨0, rfl, by omega, fun j hj h => by omega⟩
  case round =>
    obtain ⟨k, rfl, hk, hall⟩ := hrel
    by_cases hlt : k < s.length
    · have hix := sv_index s k hlt
      have hrow := fun hn => rowL_at (p := innerB) hlt (fun j hj => hall j (by omega) hj) hn
      have hnext : innerB s[k] = true → ∀ j (hj : j < s.length), j < k + 1 → innerB s[j] = true := by
        intro h j hj hjk
        rcases Nat.lt_or_ge j k with h1 | h1
        · exact hall j hj h1
        · obtain rfl : j = k := by omega
          exact h
      have HROW := hid hrow
      have HNEXT := hid hnext
      clear hall hrow hnext
      generalize hX : s[k] = X at *
      cases hq : innerB X
      · have hres := HROW.out hq
        go_wp2_with fail
        refine (inner_any X _).mono ?_
        rintro e w1 ⟨rfl, rfl⟩
        rw [hq]
        go_wp2_with fail
        go_ret
        exact ⟨by rw [hres]; rfl, rfl⟩
      · have hall := HNEXT.out hq
        have HALL := hid hall
        clear hall
        go_wp2_with fail
        refine (inner_any X _).mono ?_
        rintro e w1 ⟨rfl, rfl⟩
        rw [hq]
        go_wp2_with fail
        go_round
        case rel => exact ⟨k + 1, rfl, by omega, HALL.out⟩
        case measure => simp [intOf]; omega
    · obtain rfl : k = s.length := by omega
      have hres := rowL_all (p := innerB) (s := s) (fun j hj => hall j hj hj)
      clear hall
      go_wp2_with fail
      go_ret
      first | exact ⟨rfl, rfl⟩ | exact ⟨by rw [hres]; rfl, rfl⟩

set_option maxHeartbeats 400000 in
theorem row_digit (s : Bt) (w : World) (hs : s.length ≤ 281474976710656) : Calls Tryz.prog 17 #[sv s, .func (.func 26) #[] #[]] w fun e w' => e = .returned (.int .i64 (rowL digitB s : Nat)) ∧ w' = w := by
  have hsz := sv_size s
  go_enter Tryz.func17, Tryz.ntmps17
  go_wp2_with fail
  go_loop [5, 8] (fun v5 v8 => ∃ k : Nat, v8 = .int .i64 k ∧ k ≤ s.length ∧ ∀ j (hj : j < s.length), j < k → digitB s[j] = true) (fun _ v8 => s.length - (intOf v8).toNat)
  case atStart => exact ⟨0, rfl, by omega, fun j hj h => by omega⟩
  case round =>
    obtain ⟨k, rfl, hk, hall⟩ := hrel
    by_cases hlt : k < s.length
    · have hix := sv_index s k hlt
      have hrow := fun hn => rowL_at (p := digitB) hlt (fun j hj => hall j (by omega) hj) hn
      have hnext : digitB s[k] = true → ∀ j (hj : j < s.length), j < k + 1 → digitB s[j] = true := by
        intro h j hj hjk
        rcases Nat.lt_or_ge j k with h1 | h1
        · exact hall j hj h1
        · obtain rfl : j = k := by omega
          exact h
      have HROW := hid hrow
      have HNEXT := hid hnext
      clear hall hrow hnext
      generalize hX : s[k] = X at *
      cases hq : digitB X
      · have hres := HROW.out hq
        go_wp2_with fail
        refine (digit_any X _).mono ?_
        rintro e w1 ⟨rfl, rfl⟩
        rw [hq]
        go_wp2_with fail
        go_ret
        exact ⟨by rw [hres]; rfl, rfl⟩
      · have hall := HNEXT.out hq
        have HALL := hid hall
        clear hall
        go_wp2_with fail
        refine (digit_any X _).mono ?_
        rintro e w1 ⟨rfl, rfl⟩
        rw [hq]
        go_wp2_with fail
        go_round
        case rel => exact ⟨k + 1, rfl, by omega, HALL.out⟩
        case measure => simp [intOf]; omega
    · obtain rfl : k = s.length := by omega
      have hres := rowL_all (p := digitB) (s := s) (fun j hj => hall j hj hj)
      clear hall
      go_wp2_with fail
      go_ret
      first | exact ⟨rfl, rfl⟩ | exact ⟨by rw [hres]; rfl, rfl⟩

set_option maxHeartbeats 400000 in
theorem row_notline (s : Bt) (w : World) (hs : s.length ≤ 281474976710656) : Calls Tryz.prog 17 #[sv s, .func (.func 24) #[] #[]] w fun e w' => e = .returned (.int .i64 (rowL notLine s : Nat)) ∧ w' = w := by
  have hsz := sv_size s
  go_enter Tryz.func17, Tryz.ntmps17
  go_wp2_with fail
  go_loop [5, 8] (fun v5 v8 => ∃ k : Nat, v8 = .int .i64 k ∧ k ≤ s.length ∧ ∀ j (hj : j < s.length), j < k → notLine s[j] = true) (fun _ v8 => s.length - (intOf v8).toNat)
  case atStart => exact ⟨0, rfl, by omega, fun j hj h => by omega⟩
  case round =>
    obtain ⟨k, rfl, hk, hall⟩ := hrel
    by_cases hlt : k < s.length
    · have hix := sv_index s k hlt
      have hrow := fun hn => rowL_at (p := notLine) hlt (fun j hj => hall j (by omega) hj) hn
      have hnext : notLine s[k] = true → ∀ j (hj : j < s.length), j < k + 1 → notLine s[j] = true := by
        intro h j hj hjk
        rcases Nat.lt_or_ge j k with h1 | h1
        · exact hall j hj h1
        · obtain rfl : j = k := by omega
          exact h
      have HROW := hid hrow
      have HNEXT := hid hnext
      clear hall hrow hnext
      generalize hX : s[k] = X at *
      cases hq : notLine X
      · have hres := HROW.out hq
        go_wp2_with fail
        refine (notline_any X _).mono ?_
        rintro e w1 ⟨rfl, rfl⟩
        rw [hq]
        go_wp2_with fail
        go_ret
        exact ⟨by rw [hres]; rfl, rfl⟩
      · have hall := HNEXT.out hq
        have HALL := hid hall
        clear hall
        go_wp2_with fail
        refine (notline_any X _).mono ?_
        rintro e w1 ⟨rfl, rfl⟩
        rw [hq]
        go_wp2_with fail
        go_round
        case rel => exact ⟨k + 1, rfl, by omega, HALL.out⟩
        case measure => simp [intOf]; omega
    · obtain rfl : k = s.length := by omega
      have hres := rowL_all (p := notLine) (s := s) (fun j hj => hall j hj hj)
      clear hall
      go_wp2_with fail
      go_ret
      first | exact ⟨rfl, rfl⟩ | exact ⟨by rw [hres]; rfl, rfl⟩
end Go.Proofs.YtpgngegdflbahaaGreatDoor
