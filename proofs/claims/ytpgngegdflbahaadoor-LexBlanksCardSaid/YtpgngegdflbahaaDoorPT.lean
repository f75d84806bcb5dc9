/- The steps by which the reference reads blanks and strings, in plain Lean. -/
import Derived.Test.YtpgngegdflbahaaDoorPY
set_option linter.unusedVariables false
namespace Go.Proofs.YtpgngegdflbahaaDoor

theorem skip_end (q : Bool) (s : Bt) : skipG q (s.drop s.length) = 0 := by
  rw [List.drop_length]; cases q <;> rfl
theorem skip_step {s : Bt} {i : Nat} (h : i < s.length) :
    (blankB s[i] = true → skipG false (s.drop i) = 1 + skipG false (s.drop (i + 1))) ∧
    (s[i].toNat = 35 → skipG false (s.drop i) = skipG true (s.drop i)) ∧
    (s[i].toNat = 10 → skipG true (s.drop i) = skipG false (s.drop i)) ∧
    (s[i].toNat ≠ 10 → skipG true (s.drop i) = 1 + skipG true (s.drop (i + 1))) ∧
    (blankB s[i] = false → s[i].toNat ≠ 35 → skipG false (s.drop i) = 0) := by
  rw [List.drop_eq_getElem_cons h]
  generalize s[i] = c
  generalize s.drop (i + 1) = r
  refine ⟨fun h => ?_, fun h => ?_, fun h => ?_, fun h => ?_, fun h1 h2 => ?_⟩
  · rw [skipG, if_pos h]; omega
  · have hb : ¬ blankB c = true := by unfold blankB; simp; omega
    rw [skipG, skipG, if_neg hb, if_pos h, if_neg (by omega)]
  · have hb : blankB c = true := by unfold blankB; simp; omega
    rw [skipG, skipG, if_pos hb, if_pos h]
  · rw [skipG, if_neg h]; omega
  · rw [skipG, if_neg (by simp [h1]), if_neg h2]
theorem quote_step {s : Bt} {i : Nat} (h : i < s.length) (out : Bt) (j : Nat) :
    (s[i].toNat = 34 → quoteG false out j (s.drop i) = some (out, j + 2)) ∧
    (s[i].toNat < 32 → quoteG false out j (s.drop i) = none) ∧
    (32 ≤ s[i].toNat → s[i].toNat ≠ 34 → s[i].toNat ≠ 92 → quoteG false out j (s.drop i) = quoteG false (out ++ [s[i]]) (j + 1) (s.drop (i + 1))) ∧
    (s[i].toNat = 92 → quoteG false out j (s.drop i) = quoteG true out (j + 1) (s.drop (i + 1))) ∧
    (∀ e, escB s[i] = some e → quoteG true out j (s.drop i) = quoteG false (out ++ [e]) (j + 1) (s.drop (i + 1))) ∧
    (escB s[i] = none → quoteG true out j (s.drop i) = none) := by
  rw [List.drop_eq_getElem_cons h]
  generalize s[i] = c
  generalize s.drop (i + 1) = r
  refine ⟨fun h => ?_, fun h => ?_, fun h1 h2 h3 => ?_, fun h => ?_, fun e he => ?_, fun he => ?_⟩
  · rw [quoteG, if_neg (by omega), if_neg (by simp), if_neg (by omega), if_pos h]
  · rw [quoteG, if_pos h]
  · rw [quoteG, if_neg (by omega), if_neg (by simp), if_neg h3, if_neg h2]
  · rw [quoteG, if_neg (by omega), if_neg (by simp), if_pos h]
  · have h32 : ¬ c.toNat < 32 := by
      unfold escB at he
      intro hl
      rw [if_neg (by omega), if_neg (by omega), if_neg (by omega), if_neg (by omega)] at he
      cases he
    rw [quoteG, if_neg h32, if_pos rfl, he]
  · rw [quoteG, if_pos rfl, he]
    split <;> rfl
theorem quote_end (q : Bool) (out : Bt) (j : Nat) (s : Bt) : quoteG q out j (s.drop s.length) = none := by
  rw [List.drop_length]; cases q <;> rfl
theorem escB_cases (c : UInt8) : (c.toNat = 92 ∧ escB c = some 92) ∨ (c.toNat = 34 ∧ escB c = some 34) ∨ (c.toNat = 110 ∧ escB c = some 10) ∨ (c.toNat = 116 ∧ escB c = some 9) ∨
    ((c.toNat ≠ 92 ∧ c.toNat ≠ 34 ∧ c.toNat ≠ 110 ∧ c.toNat ≠ 116) ∧ escB c = none) := by
  unfold escB
  by_cases h1 : c.toNat = 92
  · exact .inl ⟨h1, by rw [if_pos h1]⟩
  · by_cases h2 : c.toNat = 34
    · exact .inr (.inl ⟨h2, by rw [if_neg h1, if_pos h2]⟩)
    · by_cases h3 : c.toNat = 110
      · exact .inr (.inr (.inl ⟨h3, by rw [if_neg h1, if_neg h2, if_pos h3]⟩))
      · by_cases h4 : c.toNat = 116
        · exact .inr (.inr (.inr (.inl ⟨h4, by rw [if_neg h1, if_neg h2, if_neg h3, if_pos h4]⟩)))
        · exact .inr (.inr (.inr (.inr ⟨⟨h1, h2, h3, h4⟩, by rw [if_neg h1, if_neg h2, if_neg h3, if_neg h4]⟩)))
/-- The kinds of a byte between which the reference parts, at the beginning of a token. -/
theorem row_own (p : UInt8 → Bool) (s : Bt) (k : Nat) (hk : k ≤ s.length) (h : ∀ j (hj : j < s.length), j < k → p s[j] = true) (hn : k = s.length ∨ ∃ hk : k < s.length, p s[k] = false) : rowL p s = k := by
  rcases hn with rfl | ⟨hk, hf⟩
  · exact rowL_all (fun j hj => h j hj hj)
  · exact rowL_at hk (fun j hj => h j (by omega) hj) hf
theorem not_take_succ {α : Type} {l : List α} {x : α} {k : Nat} (hk : k < l.length) (h : x ∉ l.take k) (hx : x ≠ l[k]) : x ∉ l.take (k + 1) := by
  intro hm
  rw [List.take_succ_eq_append_getElem hk, List.mem_append] at hm
  rcases hm with hm | hm
  · exact h hm
  · exact hx (by simpa using hm)
/-- No line ends within a token. -/
def NoLine (s : Bt) : Prop := ∀ c ∈ s, c.toNat ≠ 10
theorem row_noline {p : UInt8 → Bool} (hp : ∀ c, p c = true → c.toNat ≠ 10) (s : Bt) : NoLine (s.take (rowL p s)) := by
  induction s with
  | nil => intro c hc; simp at hc
  | cons a s ih =>
    rw [rowL_cons]
    by_cases h : p a = true
    · rw [if_pos h, List.take_succ_cons]
      intro c hc
      rcases List.mem_cons.1 hc with rfl | hc
      · exact hp _ h
      · exact ih c hc
    · rw [if_neg h]; intro c hc; simp at hc
theorem quoteG_noline {back : Bool} {out : Bt} {i : Nat} {s t : Bt} {n : Nat} (h : quoteG back out i s = some (t, n)) : NoLine (s.take (n - i - 1)) := by
  induction s generalizing back out i with
  | nil => cases back <;> simp [quoteG] at h
  | cons c s ih =>
    have hle := quoteG_le h
    simp only at hle
    rw [quoteG] at h
    obtain ⟨k, hk⟩ : ∃ k, n - i - 1 = k + 1 := ⟨n - i - 2, by omega⟩
    have hk' : n - (i + 1) - 1 = k := by omega
    rw [hk, List.take_succ_cons]
    split at h
    · cases h
    · rename_i h32
      have more : (∀ o b, quoteG b o (i + 1) s = some (t, n) → NoLine (c :: s.take k)) := by
        intro o b hq x hx
        rcases List.mem_cons.1 hx with rfl | hx
        · omega
        · have := ih hq
          rw [hk'] at this
          exact this x hx
      cases back with
      | true =>
        rw [if_pos rfl] at h
        split at h
        · exact more _ _ h
        · cases h
      | false =>
        rw [if_neg (by simp)] at h
        split at h
        · exact more _ _ h
        · split at h
          · injection h with h
            simp only [Prod.mk.injEq] at h
            obtain ⟨_, rfl⟩ := h
            obtain rfl : k = 0 := by omega
            intro x hx
            simp at hx
            subst hx
            omega
          · exact more _ _ h
theorem letter_noline (c : UInt8) (h : innerB c = true) : c.toNat ≠ 10 := by
  unfold innerB letterB digitB at h
  simp only [Bool.or_eq_true, Bool.and_eq_true, decide_eq_true_eq] at h
  omega
theorem digit_noline (c : UInt8) (h : digitB c = true) : c.toNat ≠ 10 := by
  unfold digitB at h
  simp only [Bool.and_eq_true, decide_eq_true_eq] at h
  omega
theorem nextT_noline {s : Bt} {kd : Int} {t : Bt} {n : Nat} (h : nextT s = .inr (kd, t, n)) : NoLine (s.take n) := by
  cases s with
  | nil => simp [nextT] at h
  | cons c r =>
    have hi := row_noline letter_noline (c :: r)
    have hd := row_noline digit_noline (c :: r)
    rw [nextT] at h
    split at h
    · repeat' split at h
      all_goals first | cases h; done | (injection h with h; simp only [Prod.mk.injEq] at h; rw [← h.2.2]; exact hi)
    · split at h
      · repeat' split at h
        all_goals first | cases h; done | (injection h with h; simp only [Prod.mk.injEq] at h; rw [← h.2.2]; exact hd)
      · split at h
        · rename_i h34
          split at h
          · cases h
          · rename_i t' n' hq
            split at h
            · cases h
            · injection h with h
              simp only [Prod.mk.injEq] at h
              obtain ⟨_, _, rfl⟩ := h
              unfold quoteL at hq
              rw [List.drop_succ_cons, List.drop_zero] at hq
              have hle := quoteG_le hq
              simp only at hle
              have hn := quoteG_noline hq
              obtain ⟨m, rfl⟩ : ∃ m, n' = m + 1 := ⟨n' - 1, by omega⟩
              rw [List.take_succ_cons]
              intro x hx
              rcases List.mem_cons.1 hx with rfl | hx
              · omega
              · exact hn x (by simpa using hx)
        · split at h
          · rename_i hp
            injection h with h
            simp only [Prod.mk.injEq] at h
            rw [← h.2.2]
            have hall : (pairsL.all fun m => m.all fun c => decide (c.toNat ≠ 10)) = true := by decide
            rw [List.all_eq_true] at hall
            have := hall _ hp
            rw [List.all_eq_true] at this
            intro x hx
            exact of_decide_eq_true (this x hx)
          · split at h
            · rename_i hs
              injection h with h
              simp only [Prod.mk.injEq] at h
              rw [← h.2.2]
              have hall : (singlesL.all fun c => decide (c.toNat ≠ 10)) = true := by decide
              rw [List.all_eq_true] at hall
              intro x hx
              simp at hx
              subst hx
              exact of_decide_eq_true (hall _ hs)
            · cases h
theorem advL_noline (p : Nat × Nat) {s : Bt} (h : NoLine s) : advL p s = (p.1, p.2 + s.length) := by
  induction s generalizing p with
  | nil => rfl
  | cons c s ih =>
    have h0 : advL p (c :: s) = advL (advB p c) s := rfl
    rw [h0, ih _ (fun x hx => h x (by simp [hx]))]
    unfold advB
    rw [if_neg (h c (by simp))]
    simp only [List.length_cons, Prod.mk.injEq, true_and]
    omega
theorem lexF_len : ∀ (f : Nat) (s : Bt) (p : Nat × Nat) (out : List TokD), out.length ≤ 8192 → (lexF f s p out).1.length ≤ 8193
  | 0, s, p, out, h => by simp [lexF]
  | f + 1, s, p, out, h => by
    rw [lexF]
    split
    · simp; omega
    · split
      · simp
      · split
        · simp
        · rename_i h8
          exact lexF_len f _ _ _ (by simp; omega)
theorem lexL_len (s : Bt) : (lexL s).1.length ≤ 8193 := by
  unfold lexL
  split
  · simp
  · exact lexF_len _ _ _ _ (by simp)
end Go.Proofs.YtpgngegdflbahaaDoor
