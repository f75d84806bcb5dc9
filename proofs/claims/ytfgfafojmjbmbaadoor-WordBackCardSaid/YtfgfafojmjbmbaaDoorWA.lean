/- The contracts of word's Bin and what it calls: what each returns, for every two numbers of 64 bits. -/
import Derived.Test.YtfgfafojmjbmbaaDoorRows
import Derived.Test.YtfgfafojmjbmbaaDoorPW
import Derived.WalkKit
import Derived.WalkSpells
import Derived.WalkLawsBesides
import Derived.RegionTactic
import Derived.Deep.QuietTactic
import Derived.BigQuiet
set_option linter.unusedVariables false
namespace Go.Proofs.YtfgfafojmjbmbaaDoor
open Go.RowKit

theorem ret_int1 {a c : Int} (h : a = c) : Ending.returned (.int .i64 a) = .returned (.int .i64 c) := by rw [h]
theorem ret2 {a b c d : Int} (h : (a, b) = (c, d)) : Ending.returned (.tuple #[.int .i64 a, .int .i64 b]) = .returned (.tuple #[.int .i64 c, .int .i64 d]) := by
  cases h; rfl

set_option maxHeartbeats 400000 in
theorem bit_any (b : Bool) (w : World) :
    Calls Tryd.prog 29 #[.bool b] w fun e w' => e = .returned (.int .i64 (if b then 1 else 0)) ∧ ∃ n, w' = w.drewN n := by
  cases b <;>
  · go_enter Tryd.func29, Tryd.ntmps29
    go_wp2
    go_ret
    exact ⟨rfl, 0, rfl⟩

set_option maxHeartbeats 400000 in
theorem divided_any (a b : Int) (w : World) :
    Calls Tryd.prog 28 #[.int .i64 a, .int .i64 b] w fun e w' => e = .returned (.tuple #[.int .i64 (if b = 0 then 0 else if b = -1 then wrap64 (-a) else wrap64 (a.tdiv b)), .int .i64 (if b = 0 then 0 else if b = -1 then 0 else a.tmod b), .int .i64 (if b = 0 then 23 else 0)]) ∧ ∃ n, w' = w.drewN n := by
  by_cases h0 : b = 0
  · subst h0
    go_enter Tryd.func28, Tryd.ntmps28
    go_wp2
    go_ret3
    exact ⟨rfl, 0, rfl⟩
  by_cases h1 : b = -1
  · subst h1
    go_enter Tryd.func28, Tryd.ntmps28
    go_wp2
    go_ret3
    exact ⟨rfl, 0, rfl⟩
  rw [if_neg h0, if_neg h0, if_neg h0, if_neg h1, if_neg h1]
  have h2 : (b == 0) = false := by simpa using h0
  have h3 : (b == -1) = false := by simpa using h1
  go_enter Tryd.func28, Tryd.ntmps28
  go_wp2
  go_quiet (fail)
  go_wp2
  go_ret3
  exact ⟨rfl, _, rfl⟩

set_option maxHeartbeats 1000000 in
theorem bin_any (op a b : Int) (w : World) :
    Calls Tryd.prog 15 #[.int .i64 op, .int .i64 a, .int .i64 b] w fun e w' => e = .returned (.tuple #[.int .i64 (binV op a b).1, .int .i64 (binV op a b).2]) ∧ ∃ n, w' = w.drewN n := by
  have hs := u64_mod64 b
  have hs0 : 0 ≤ b % 64 := by omega
  have hv := shl_value a b
  rw [min_mod64, i64_wrap] at hv
  go_enter Tryd.func15, Tryd.ntmps15
  go_wp2_with (first | (go_at_call 28; refine (divided_any _ _ _).mono ?_; rintro e w' ⟨rfl, nq, rfl⟩) | (go_at_call 29; refine (bit_any _ _).mono ?_; rintro e w' ⟨rfl, nq, rfl⟩))
  all_goals go_ret2
  all_goals (first | refine ⟨ret2 ?_, 0, rfl⟩ | refine ⟨ret2 ?_, _, rfl⟩)
  all_goals (simp only [beq_iff_eq, beq_eq_false_iff_ne] at *; first | (simp [binV, *]; done) | skip)

theorem and63u (b : Int) : IntKind.u64.wrap (b % 64) = b % 64 := by rw [u64_wrap]; omega

set_option maxHeartbeats 1000000 in
theorem refbin_any (op a b : Int) (w : World) :
    Calls Tryd.prog 16 #[.int .i64 op, .int .i64 a, .int .i64 b] w fun e w' => e = .returned (.tuple #[.int .i64 (binV op a b).1, .int .i64 (binV op a b).2]) ∧ ∃ n, w' = w.drewN n := by
  have hs := and63 b
  have hs1 := and63u b
  have hs0 : 0 ≤ b % 64 := by omega
  go_enter Tryd.func16, Tryd.ntmps16
  go_wp2
  all_goals (first | (exfalso; simp_all; done) | skip)
  all_goals go_ret2
  all_goals (first | refine ⟨ret2 ?_, 0, rfl⟩ | refine ⟨ret2 ?_, _, rfl⟩)
  all_goals (simp only [beq_iff_eq, beq_eq_false_iff_ne] at *; first | (simp [binV, *]; done) | skip)
end Go.Proofs.YtfgfafojmjbmbaaDoor
