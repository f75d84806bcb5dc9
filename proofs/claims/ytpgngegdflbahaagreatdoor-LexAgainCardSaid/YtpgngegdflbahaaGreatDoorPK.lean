/- What a text's tokens are, kind by kind. -/
import Derived.Test.YtpgngegdflbahaaGreatDoorPY
set_option linter.unusedVariables false
namespace Go.Proofs.YtpgngegdflbahaaGreatDoor

theorem rowL_take (p : UInt8 → Bool) (s : Bt) : rowL p (s.take (rowL p s)) = rowL p s := by
  induction s with
  | nil => rfl
  | cons c r ih =>
    rw [rowL_cons]
    by_cases h : p c = true
    · rw [if_pos h, List.take_succ_cons, rowL_cons, if_pos h, ih]
    · rw [if_neg h]; rfl
/-- A token is what its kind says. -/
def KindOk (kd : Int) (t : Bt) : Prop :=
  1 ≤ kd ∧ kd ≤ 5 ∧ (kd = 2 → t ∈ wordsL) ∧ (kd = 1 → nameL t = true) ∧ (kd = 3 → ∃ c r, t = c :: r ∧ digitB c = true) ∧ (kd = 5 → 1 ≤ t.length ∧ t.length ≤ 2)
theorem nextT_kind {s : Bt} {kd : Int} {t : Bt} {n : Nat} (h : nextT s = .inr (kd, t, n)) : KindOk kd t := by
  cases s with
  | nil => simp [nextT] at h
  | cons c r =>
    rw [nextT] at h
    have hle := rowL_le innerB (c :: r)
    have htk := rowL_take innerB (c :: r)
    by_cases hl : letterB c = true
    · rw [if_pos hl] at h
      have hi : innerB c = true := by unfold innerB; rw [hl]; rfl
      have hpos := rowL_pos (s := r) hi
      by_cases h32 : 32 < rowL innerB (c :: r)
      · rw [if_pos h32] at h; cases h
      · rw [if_neg h32] at h
        by_cases hw : (c :: r).take (rowL innerB (c :: r)) ∈ wordsL
        · rw [if_pos hw] at h
          injection h with h
          simp only [Prod.mk.injEq] at h
          obtain ⟨rfl, rfl, _⟩ := h
          exact ⟨by omega, by omega, fun _ => hw, fun h => by omega, fun h => by omega, fun h => by omega⟩
        · rw [if_neg hw] at h
          injection h with h
          simp only [Prod.mk.injEq] at h
          obtain ⟨rfl, rfl, _⟩ := h
          refine ⟨by omega, by omega, fun h => by omega, fun _ => ?_, fun h => by omega, fun h => by omega⟩
          have hlen : ((c :: r).take (rowL innerB (c :: r))).length = rowL innerB (c :: r) := by rw [List.length_take]; omega
          generalize hn : rowL innerB (c :: r) = m at *
          obtain ⟨m', rfl⟩ : ∃ m', m = m' + 1 := ⟨m - 1, by omega⟩
          rw [List.take_succ_cons] at htk hw hlen ⊢
          unfold nameL
          simp only [Bool.and_eq_true, decide_eq_true_eq, Bool.not_eq_true', decide_eq_false_iff_not]
          exact ⟨⟨⟨by rw [hlen]; omega, hl⟩, by rw [htk, hlen]⟩, hw⟩
    · rw [if_neg hl] at h
      by_cases hd : digitB c = true
      · rw [if_pos hd] at h
        have hpos := rowL_pos (s := r) hd
        split at h
        · injection h with h
          simp only [Prod.mk.injEq] at h
          obtain ⟨rfl, rfl, _⟩ := h
          refine ⟨by omega, by omega, fun h => by omega, fun h => by omega, fun _ => ?_, fun h => by omega⟩
          obtain ⟨m', hm⟩ : ∃ m', rowL digitB (c :: r) = m' + 1 := ⟨rowL digitB (c :: r) - 1, by omega⟩
          rw [hm, List.take_succ_cons]
          exact ⟨_, _, rfl, hd⟩
        · cases h
      · rw [if_neg hd] at h
        split at h
        · split at h
          · cases h
          · split at h
            · cases h
            · injection h with h
              simp only [Prod.mk.injEq] at h
              obtain ⟨rfl, rfl, _⟩ := h
              exact ⟨by omega, by omega, fun h => by omega, fun h => by omega, fun h => by omega, fun h => by omega⟩
        · split at h
          · rename_i hp
            injection h with h
            simp only [Prod.mk.injEq] at h
            obtain ⟨rfl, rfl, _⟩ := h
            have hall : ∀ m ∈ pairsL, m.length = 2 := by decide
            have := hall _ hp
            exact ⟨by omega, by omega, fun h => by omega, fun h => by omega, fun h => by omega, fun _ => by omega⟩
          · split at h
            · injection h with h
              simp only [Prod.mk.injEq] at h
              obtain ⟨rfl, rfl, _⟩ := h
              exact ⟨by omega, by omega, fun h => by omega, fun h => by omega, fun h => by omega, fun _ => ⟨by simp, by simp⟩⟩
            · cases h
/-- The tokens that come behind those at hand: each is what its kind says; the last one alone is the end. -/
theorem lexF_kinds : ∀ (f : Nat) (s : Bt) (p : Nat × Nat) (out : List TokD), (lexF f s p out).1 = [] ∨ ∃ (l : List TokD) (e : TokD), (lexF f s p out).1 = out ++ l ++ [e] ∧ e.kind = 0 ∧ e.text = [] ∧ ∀ t ∈ l, KindOk t.kind t.text
  | 0, s, p, out => .inl rfl
  | f + 1, s, p, out => by
    rw [lexF]
    split
    · exact .inr ⟨[], ⟨0, [], (advL p (s.take (skipL s))).1, (advL p (s.take (skipL s))).2⟩, by simp, rfl, rfl, by simp⟩
    · split
      · exact .inl rfl
      · rename_i kd t n hn
        split
        · exact .inl rfl
        · rcases lexF_kinds f ((s.drop (skipL s)).drop n) (advL (advL p (s.take (skipL s))) ((s.drop (skipL s)).take n)) (out ++ [⟨kd, t, (advL p (s.take (skipL s))).1, (advL p (s.take (skipL s))).2⟩]) with h | ⟨l, e, h1, h2, h3, h4⟩
          · exact .inl h
          · refine .inr ⟨⟨kd, t, (advL p (s.take (skipL s))).1, (advL p (s.take (skipL s))).2⟩ :: l, e, by rw [h1]; simp, h2, h3, fun x hx => ?_⟩
            rcases List.mem_cons.1 hx with rfl | hx
            · exact nextT_kind hn
            · exact h4 x hx
end Go.Proofs.YtpgngegdflbahaaGreatDoor
