/- The law of divisions walked. -/
import Derived.Test.YtfgfafojmjbmbaaDoorWN
set_option linter.unusedVariables false
namespace Go.Proofs.YtfgfafojmjbmbaaDoor
open Go.RowKit

theorem bv3 (a b : Int) (h : b ≠ 0) : (binV 3 a b).1 = if b = -1 then wrap64 (-a) else wrap64 (a.tdiv b) := by
  unfold binV; simp [h]; split <;> rfl
theorem bv4 (a b : Int) (h : b ≠ 0) : (binV 4 a b).1 = if b = -1 then 0 else a.tmod b := by
  unfold binV; simp [h]; split <;> rfl
theorem be3 (a b : Int) (h : b ≠ 0) : (binV 3 a b).2 = 0 := by unfold binV; simp [h]; split <;> rfl
theorem be4 (a b : Int) (h : b ≠ 0) : (binV 4 a b).2 = 0 := by unfold binV; simp [h]; split <;> rfl
theorem be2 (a b : Int) : (binV 2 a b).2 = 0 := by unfold binV; simp
theorem be0 (a b : Int) : (binV 0 a b).2 = 0 := by unfold binV; simp
theorem div_back (a b : Int) (ha : In64 a) (h : b ≠ 0) : (binV 0 (binV 2 (binV 3 a b).1 b).1 (binV 4 a b).1).1 = a := by
  rw [bv0, bv2, bv3 a b h, bv4 a b h]
  by_cases h1 : b = -1
  · rw [if_pos h1, if_pos h1, wrap_mul_l, wrap_add_l, h1]
    rw [show -a * -1 + 0 = a from by omega]
    exact wrap64_id ha
  · rw [if_neg h1, if_neg h1, wrap_mul_l, wrap_add_l, Int.mul_comm, Int.mul_tdiv_add_tmod]
    exact wrap64_id ha
/-- What is left of a division. -/
theorem mod_facts (a b : Int) (h : b ≠ 0) (hm : (binV 4 a b).1 ≠ 0) : (((binV 4 a b).1 < 0 ∧ a < 0) ∨ (0 < (binV 4 a b).1 ∧ 0 < a)) ∧ (0 < b → (binV 4 a b).1 < b ∧ -b < (binV 4 a b).1) ∧ (b < 0 → b < (binV 4 a b).1 ∧ (binV 4 a b).1 < -b) := by
  rw [bv4 a b h] at hm ⊢
  by_cases h1 : b = -1
  · rw [if_pos h1] at hm; exact absurd rfl hm
  · rw [if_neg h1] at hm ⊢
    have hn : (a.tmod b).natAbs < b.natAbs := by rw [Int.natAbs_tmod]; exact Nat.mod_lt _ (by omega)
    refine ⟨?_, fun h2 => by omega, fun h2 => by omega⟩
    rcases Int.lt_or_le a 0 with h0 | h0
    · have := Int.tmod_nonneg (a := -a) b (by omega)
      rw [Int.neg_tmod] at this
      exact .inl ⟨by omega, h0⟩
    · have := Int.tmod_nonneg (a := a) b h0
      refine .inr ⟨by omega, ?_⟩
      rcases Int.lt_or_le 0 a with h3 | h3
      · exact h3
      · have : a = 0 := by omega
        subst this
        rw [Int.zero_tmod] at hm; exact absurd rfl hm

set_option maxRecDepth 100000 in
set_option maxHeartbeats 1000000 in
theorem wordDivides_any (a b : Int) (w : World) (ha : In64 a) (hb : In64 b) (hL : LaidW w) :
    Calls Tryd.prog 4 #[.int .i64 a, .int .i64 b] w fun e w' => e = .returned (.bool true) ∧ Below w.heap.size w w' := by
  by_cases h0 : b = 0
  · subst h0
    go_enter Tryd.func4, Tryd.ntmps4
    go_wp2_with fail
    refine (awake_any _ hL).mono ?_
    rintro e w1 ⟨rfl, hb1⟩
    go_wp2_with fail
    go_ret
    exact ⟨rfl, hb1⟩
  have hb0 : (b == 0) = false := by rw [beq_eq_false_iff_ne]; exact h0
  have e3 := be3 a b h0
  have e4 := be4 a b h0
  have e2 := be2 (binV 3 a b).1 b
  have e0 := be0 (binV 2 (binV 3 a b).1 b).1 (binV 4 a b).1
  have hd := div_back a b ha h0
  have hb64 : -9223372036854775808 ≤ b ∧ b ≤ 9223372036854775807 := hb
  have hcase : ((binV 4 a b).1 == 0) = true ∨ (((binV 4 a b).1 == 0) = false ∧ ((0 < b ∧ (((binV 4 a b).1 < 0 ∧ a < 0) ∨ (0 < (binV 4 a b).1 ∧ 0 < a)) ∧ (binV 4 a b).1 < b ∧ -b < (binV 4 a b).1) ∨ (b < 0 ∧ (((binV 4 a b).1 < 0 ∧ a < 0) ∨ (0 < (binV 4 a b).1 ∧ 0 < a)) ∧ b < (binV 4 a b).1 ∧ (binV 4 a b).1 < -b))) := by
    by_cases hm : (binV 4 a b).1 = 0
    · exact .inl (by rw [hm]; rfl)
    · obtain ⟨f1, f2, f3⟩ := mod_facts a b h0 hm
      refine .inr ⟨by rw [beq_eq_false_iff_ne]; exact hm, ?_⟩
      rcases Int.lt_or_le 0 b with h | h
      · exact .inl ⟨h, f1, f2 h⟩
      · exact .inr ⟨by omega, f1, f3 (by omega)⟩
  have hm64 := in64_binV 4 a b ha hb
  have hm64' : -9223372036854775808 ≤ (binV 4 a b).1 ∧ (binV 4 a b).1 ≤ 9223372036854775807 := hm64
  obtain ⟨m, hm⟩ : ∃ m, (binV 4 a b).1 = m := ⟨_, rfl⟩
  rw [hm] at hcase hm64' e0 hd
  clear h0 ha hb hm64
  obtain ⟨hb1, hb2⟩ := hb64
  obtain ⟨hm1, hm2⟩ := hm64'
  rcases hcase with hz | ⟨hz, ⟨g1, ⟨g2, g3⟩ | ⟨g2, g3⟩, g4, g5⟩ | ⟨g1, ⟨g2, g3⟩ | ⟨g2, g3⟩, g4, g5⟩⟩
  all_goals
    go_enter Tryd.func4, Tryd.ntmps4
    go_wp2_with fail
    refine (awake_any _ hL).mono ?_
    rintro e w1 ⟨rfl, hb1⟩
    have HB := hid hb1
    clear hb1
    iterate 4
      go_wp2_with fail
      refine (bin_b _ _ _ _).mono ?_
      rintro e w2 ⟨rfl, hb2⟩
      have HB := hid (bthen HB.out hb2)
      clear hb2
    go_wp2_with fail
    go_ret
    refine ⟨?_, HB.out⟩
    first
    | rfl
    | (have h9 : decide (b < -m) = true := by rw [decide_eq_true_eq]; omega
       exact congrArg (fun x => Ending.returned (Value.bool x)) h9)
end Go.Proofs.YtfgfafojmjbmbaaDoor
