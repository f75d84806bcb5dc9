/- How much longer a string is, written, than what it says. -/
import Derived.Test.YtpgngegdflbahaaGreatDoorQB
import Derived.Test.YtpgngegdflbahaaGreatDoorPA
set_option linter.unusedVariables false
namespace Go.Proofs.YtpgngegdflbahaaGreatDoor

theorem escP_at (c : UInt8) : (escP.lookup c = none ∧ escW c = [c] ∧ c.toNat ≠ 9 ∧ c.toNat ≠ 10 ∧ c.toNat ≠ 34 ∧ c.toNat ≠ 92) ∨ (∃ a b, escP.lookup c = some [a, b] ∧ escW c = [a, b] ∧ (c = 9 ∨ c = 10 ∨ c = 34 ∨ c = 92)) := by
  by_cases h1 : c = 9
  · subst h1; exact .inr ⟨92, 116, rfl, rfl, .inl rfl⟩
  · by_cases h2 : c = 10
    · subst h2; exact .inr ⟨92, 110, rfl, rfl, .inr (.inl rfl)⟩
    · by_cases h3 : c = 34
      · subst h3; exact .inr ⟨92, 34, rfl, rfl, .inr (.inr (.inl rfl))⟩
      · by_cases h4 : c = 92
        · subst h4; exact .inr ⟨92, 92, rfl, rfl, .inr (.inr (.inr rfl))⟩
        · have e1 : c.toNat ≠ 9 := fun h => h1 (UInt8.toNat_inj.1 h)
          have e2 : c.toNat ≠ 10 := fun h => h2 (UInt8.toNat_inj.1 h)
          have e3 : c.toNat ≠ 34 := fun h => h3 (UInt8.toNat_inj.1 h)
          have e4 : c.toNat ≠ 92 := fun h => h4 (UInt8.toNat_inj.1 h)
          refine .inl ⟨?_, ?_, e1, e2, e3, e4⟩
          · simp [escP, List.lookup, beq_eq_false_iff_ne.2 h1, beq_eq_false_iff_ne.2 h2, beq_eq_false_iff_ne.2 h3, beq_eq_false_iff_ne.2 h4]
          · unfold escW; rw [if_neg e4, if_neg e3, if_neg e2, if_neg e1]
/-- How many bytes of a text are written as two. -/
def escN (s : Bt) : Nat := (s.map fun c => if (escP.lookup c).isSome then 1 else 0).sum
theorem escN_cons (c : UInt8) (s : Bt) : escN (c :: s) = (if (escP.lookup c).isSome then 1 else 0) + escN s := rfl
theorem escN_snoc (c : UInt8) (s : Bt) : escN (s ++ [c]) = escN s + (if (escP.lookup c).isSome then 1 else 0) := by
  unfold escN; rw [List.map_append, List.sum_append]; simp
theorem escN_le (s : Bt) : escN s ≤ s.length := by
  induction s with
  | nil => simp [escN]
  | cons c s ih => rw [escN_cons, List.length_cons]; split <;> omega
theorem esc_len (s : Bt) : (s.flatMap escW).length = s.length + escN s := by
  induction s with
  | nil => rfl
  | cons c s ih =>
    rw [List.flatMap_cons, List.length_append, ih, escN_cons, List.length_cons]
    rcases escP_at c with ⟨h1, h2, _⟩ | ⟨a, b, h1, h2, _⟩
    · rw [h1, h2]; simp; omega
    · rw [h1, h2]; simp; omega
theorem esc_same (s : Bt) (h : escN s = 0) : s.flatMap escW = s := by
  induction s with
  | nil => rfl
  | cons c s ih =>
    rw [escN_cons] at h
    rw [List.flatMap_cons, ih (by omega)]
    rcases escP_at c with ⟨h1, h2, _⟩ | ⟨a, b, h1, h2, _⟩
    · rw [h2]; rfl
    · rw [h1] at h; simp at h
def escK (s : Bt) (k : Nat) : Nat := ((escP.take k).map fun p => Lib.countByte s p.1).sum
theorem escK_four (s : Bt) : escK s 4 = escN s := by
  induction s with
  | nil => rfl
  | cons c s ih =>
    rw [escN_cons, ← ih]
    have hc : ∀ d : UInt8, Lib.countByte (c :: s) d = Lib.countByte s d + (if c = d then 1 else 0) := by
      intro d
      unfold Lib.countByte
      rw [List.count_cons]
      by_cases h : c = d
      · rw [if_pos h, if_pos (by rw [beq_iff_eq]; exact h)]
      · rw [if_neg h, if_neg (by rw [beq_iff_eq]; exact h)]
    have h4 : ∀ x, escK x 4 = Lib.countByte x 9 + (Lib.countByte x 10 + (Lib.countByte x 34 + Lib.countByte x 92)) := fun x => rfl
    rw [h4, h4, hc, hc, hc, hc]
    rcases escP_at c with ⟨h1, h2, e1, e2, e3, e4⟩ | ⟨a, b, h1, h2, h3⟩
    · have q1 : ¬ c = 9 := fun h => e1 (by rw [h]; rfl)
      have q2 : ¬ c = 10 := fun h => e2 (by rw [h]; rfl)
      have q3 : ¬ c = 34 := fun h => e3 (by rw [h]; rfl)
      have q4 : ¬ c = 92 := fun h => e4 (by rw [h]; rfl)
      rw [h1, if_neg q1, if_neg q2, if_neg q3, if_neg q4]; simp
    · rw [h1]
      rcases h3 with rfl | rfl | rfl | rfl <;> simp <;> omega
theorem escK_le (s : Bt) (k : Nat) (hk : k ≤ 4) : escK s k ≤ s.length := by
  have h4 := escK_four s
  have hle := escN_le s
  have h : ∀ k, k < 4 → escK s k ≤ escK s (k + 1) := by
    intro k hk
    unfold escK
    rw [List.take_succ_eq_append_getElem (show k < escP.length from hk), List.map_append, List.sum_append]
    omega
  have h0 : escK s 0 ≤ escK s 1 := h 0 (by omega)
  have h1 : escK s 1 ≤ escK s 2 := h 1 (by omega)
  have h2 : escK s 2 ≤ escK s 3 := h 2 (by omega)
  have h3 : escK s 3 ≤ escK s 4 := h 3 (by omega)
  have : k = 0 ∨ k = 1 ∨ k = 2 ∨ k = 3 ∨ k = 4 := by omega
  rcases this with rfl | rfl | rfl | rfl | rfl <;> omega
end Go.Proofs.YtpgngegdflbahaaGreatDoor
