/- Texts put together: what is read of a text, whatever blank stands behind it. -/
import Derived.Test.YtpgngegdflbahaaGreatDoorPP
import Derived.Test.YtpgngegdflbahaaGreatDoorPK
set_option linter.unusedVariables false
namespace Go.Proofs.YtpgngegdflbahaaGreatDoor

theorem rowL_stop {p : UInt8 → Bool} {c : UInt8} (hp : p c = false) (s r : Bt) : rowL p (s ++ c :: r) = rowL p s := by
  induction s with
  | nil => rw [List.nil_append, rowL_cons, if_neg (by simp [hp])]; rfl
  | cons d s ih =>
    rw [List.cons_append, rowL_cons, rowL_cons]
    by_cases h : p d = true
    · rw [if_pos h, if_pos h, ih]
    · rw [if_neg h, if_neg h]
theorem blank_inner {c : UInt8} (h : blankB c = true) : innerB c = false ∧ digitB c = false ∧ letterB c = false := by
  unfold blankB at h
  simp only [Bool.or_eq_true, decide_eq_true_eq] at h
  unfold innerB letterB digitB
  simp only [Bool.or_eq_false_iff, Bool.and_eq_false_iff, decide_eq_false_iff_not]
  omega
theorem quoteG_more {back : Bool} {out : Bt} {i : Nat} {s : Bt} {r : Bt × Nat} (h : quoteG back out i s = some r) (x : Bt) : quoteG back out i (s ++ x) = some r := by
  induction s generalizing back out i with
  | nil => cases back <;> simp [quoteG] at h
  | cons c s ih =>
    rw [quoteG] at h
    rw [List.cons_append, quoteG]
    split at h
    · cases h
    · rename_i h32
      rw [if_neg h32]
      split at h
      · rename_i hb
        rw [if_pos hb]
        split at h
        · exact ih h
        · cases h
      · rename_i hb
        rw [if_neg hb]
        split at h
        · rename_i h92
          rw [if_pos h92]
          exact ih h
        · rename_i h92
          rw [if_neg h92]
          split at h
          · rename_i h34
            rw [if_pos h34]; exact h
          · rename_i h34
            rw [if_neg h34]; exact ih h
theorem pairs_two : ∀ m ∈ pairsL, m.length = 2 := by decide
theorem pairs_blank (c d : UInt8) (hd : blankB d = true) : [c, d] ∉ pairsL := by
  intro h
  have hall : (pairsL.all fun m => !blankB (m.getD 1 0)) = true := by decide
  have := List.all_eq_true.1 hall _ h
  simp [hd] at this
/-- A token is read as it is, whatever stands behind a blank behind it. -/
theorem nextT_stop {s : Bt} {kd : Int} {t : Bt} {n : Nat} {d : UInt8} (x : Bt) (hd : blankB d = true) (h : nextT s = .inr (kd, t, n)) : nextT (s ++ d :: x) = .inr (kd, t, n) := by
  obtain ⟨hi, hdg, _⟩ := blank_inner hd
  cases s with
  | nil => simp [nextT] at h
  | cons c r =>
    have hri := rowL_le innerB (c :: r)
    have hrd := rowL_le digitB (c :: r)
    rw [nextT] at h
    rw [List.cons_append, nextT, ← List.cons_append, rowL_stop hi, rowL_stop hdg, List.take_append_of_le_length hri, List.take_append_of_le_length hrd]
    split at h
    · rename_i hl
      rw [if_pos hl]; exact h
    · rename_i hl
      rw [if_neg hl]
      split at h
      · rename_i hg
        rw [if_pos hg]; exact h
      · rename_i hg
        rw [if_neg hg]
        split at h
        · rename_i h34
          rw [if_pos h34]
          split at h
          · cases h
          · rename_i t' n' hq
            have hq' : quoteL (c :: r ++ d :: x) = some (t', n') := by
              unfold quoteL at hq ⊢
              simp only [List.cons_append, List.drop_succ_cons, List.drop_zero] at hq ⊢
              exact quoteG_more hq _
            rw [hq']
            exact h
        · rename_i h34
          rw [if_neg h34]
          cases r with
          | nil =>
            have h2 : ¬ [c] ∈ pairsL := fun hm => by have := pairs_two _ hm; simp at this
            rw [if_neg (by simpa using h2)] at h
            rw [if_neg (show ¬ (([c] ++ d :: x : Bt).take 2 ∈ pairsL) from pairs_blank c d hd)]
            exact h
          | cons e r => exact h
/-- It is read of its own bytes alone. -/
theorem quoteG_own {back : Bool} {out : Bt} {i : Nat} {s t : Bt} {n : Nat} (h : quoteG back out i s = some (t, n)) : quoteG back out i (s.take (n - i - 1)) = some (t, n) := by
  induction s generalizing back out i with
  | nil => cases back <;> simp [quoteG] at h
  | cons c s ih =>
    have hle := quoteG_le h
    simp only at hle
    rw [quoteG] at h
    obtain ⟨k, hk⟩ : ∃ k, n - i - 1 = k + 1 := ⟨n - i - 2, by omega⟩
    rw [hk, List.take_succ_cons, quoteG]
    have hk' : k = n - (i + 1) - 1 := by omega
    split at h
    · cases h
    · rename_i h32
      rw [if_neg h32]
      split at h
      · rename_i hb
        rw [if_pos hb]
        split at h
        · rw [hk']; exact ih h
        · cases h
      · rename_i hb
        rw [if_neg hb]
        split at h
        · rename_i h92
          rw [if_pos h92, hk']
          exact ih h
        · rename_i h92
          rw [if_neg h92]
          split at h
          · rename_i h34
            rw [if_pos h34]; exact h
          · rename_i h34
            rw [if_neg h34, hk']; exact ih h
theorem nextT_own {s : Bt} {kd : Int} {t : Bt} {n : Nat} (h : nextT s = .inr (kd, t, n)) : nextT (s.take n) = .inr (kd, t, n) := by
  cases s with
  | nil => simp [nextT] at h
  | cons c r =>
    have hle := (nextT_le h).1
    obtain ⟨m, rfl⟩ : ∃ m, n = m + 1 := ⟨n - 1, by omega⟩
    have hi := rowL_take innerB (c :: r)
    have hd := rowL_take digitB (c :: r)
    rw [nextT] at h
    rw [List.take_succ_cons, nextT, ← List.take_succ_cons]
    split at h
    · rename_i hl
      rw [if_pos hl]
      have hn : rowL innerB (c :: r) = m + 1 := by
        repeat' split at h
        all_goals first | cases h; done | (injection h with h; simp only [Prod.mk.injEq] at h; exact h.2.2)
      rw [hn] at hi h
      rw [hi, List.take_take, Nat.min_self]
      exact h
    · rename_i hl
      rw [if_neg hl]
      split at h
      · rename_i hg
        rw [if_pos hg]
        have hn : rowL digitB (c :: r) = m + 1 := by
          repeat' split at h
          all_goals first | cases h; done | (injection h with h; simp only [Prod.mk.injEq] at h; exact h.2.2)
        rw [hn] at hd h
        rw [hd, List.take_take, Nat.min_self]
        exact h
      · rename_i hg
        rw [if_neg hg]
        split at h
        · rename_i h34
          rw [if_pos h34]
          split at h
          · cases h
          · rename_i t' n' hq
            have hn : n' = m + 1 := by
              split at h
              · cases h
              · injection h with h; simp only [Prod.mk.injEq] at h; exact h.2.2
            subst hn
            have hq' : quoteL ((c :: r).take (m + 1)) = some (t', m + 1) := by
              unfold quoteL at hq ⊢
              simp only [List.take_succ_cons, List.drop_succ_cons, List.drop_zero] at hq ⊢
              have := quoteG_own hq
              simpa using this
            rw [hq']
            exact h
        · rename_i h34
          rw [if_neg h34]
          split at h
          · rename_i hp
            injection h with h; simp only [Prod.mk.injEq] at h
            obtain ⟨rfl, rfl, h2⟩ := h
            obtain rfl : m = 1 := by omega
            rw [List.take_take, Nat.min_self, if_pos hp]
          · rename_i hp
            split at h
            · rename_i hs
              injection h with h; simp only [Prod.mk.injEq] at h
              obtain ⟨rfl, rfl, h2⟩ := h
              obtain rfl : m = 0 := by omega
              have h2 : ¬ [c] ∈ pairsL := fun hm => by have := pairs_two _ hm; simp at this
              rw [if_neg (by simpa using h2), if_pos hs]
            · cases h
/-- What a token begins with is passed over by nobody. -/
theorem nextT_head {c : UInt8} {r : Bt} {kd : Int} {t : Bt} {n : Nat} (h : nextT (c :: r) = .inr (kd, t, n)) : blankB c = false ∧ c.toNat ≠ 35 := by
  have hall : ((pairsL.all fun m => !blankB (m.headD 0) && decide ((m.headD 0).toNat ≠ 35)) && singlesL.all fun c => !blankB c && decide (c.toNat ≠ 35)) = true := by decide
  rw [Bool.and_eq_true, List.all_eq_true, List.all_eq_true] at hall
  rw [nextT] at h
  have hle : (letterB c = true ∨ digitB c = true ∨ c.toNat = 34) ∨ (c :: r).take 2 ∈ pairsL ∨ c ∈ singlesL := by
    by_cases hp : (c :: r).take 2 ∈ pairsL
    · exact .inr (.inl hp)
    · by_cases hs : c ∈ singlesL
      · exact .inr (.inr hs)
      · by_cases h1 : letterB c = true
        · exact .inl (.inl h1)
        · by_cases h2 : digitB c = true
          · exact .inl (.inr (.inl h2))
          · by_cases h3 : c.toNat = 34
            · exact .inl (.inr (.inr h3))
            · rw [if_neg h1, if_neg h2, if_neg h3, if_neg hp, if_neg hs] at h; cases h
  rcases hle with h1 | h1 | h1
  · unfold letterB digitB at h1
    unfold blankB
    simp only [Bool.or_eq_true, Bool.and_eq_true, decide_eq_true_eq] at h1
    simp only [Bool.or_eq_false_iff, decide_eq_false_iff_not]
    omega
  · have := hall.1 _ h1
    rw [List.take_succ_cons] at this
    simpa using this
  · have := hall.2 _ h1
    simpa using this

theorem skipG_stop {q : Bool} {s : Bt} (h : skipG q s < s.length) (x : Bt) : skipG q (s ++ x) = skipG q s := by
  induction s generalizing q with
  | nil => simp at h
  | cons c s ih =>
    rw [List.cons_append]
    cases q with
    | false =>
      rw [skipG] at h ⊢
      rw [skipG]
      by_cases hb : blankB c = true
      · rw [if_pos hb] at h ⊢
        rw [if_pos hb, ih (by simpa using h)]
      · rw [if_neg hb] at h ⊢
        rw [if_neg hb]
        by_cases h35 : c.toNat = 35
        · rw [if_pos h35] at h ⊢
          rw [if_pos h35, ih (by simpa using h)]
        · rw [if_neg h35, if_neg h35]
    | true =>
      rw [skipG] at h ⊢
      rw [skipG]
      by_cases h10 : c.toNat = 10
      · rw [if_pos h10] at h ⊢
        rw [if_pos h10, ih (by simpa using h)]
      · rw [if_neg h10] at h ⊢
        rw [if_neg h10, ih (by simpa using h)]
theorem skipG_all {q : Bool} {s : Bt} (h : s.length ≤ skipG q s) (d : UInt8) (hd : d.toNat = 10) (x : Bt) : skipG q (s ++ d :: x) = s.length + 1 + skipL x := by
  have hb : blankB d = true := by unfold blankB; simp [hd]
  induction s generalizing q with
  | nil =>
    rw [List.nil_append]
    unfold skipL
    cases q with
    | false => rw [skipG, if_pos hb]; simp; omega
    | true => rw [skipG, if_pos hd]; simp; omega
  | cons c s ih =>
    rw [List.cons_append]
    cases q with
    | false =>
      rw [skipG] at h ⊢
      by_cases hb : blankB c = true
      · rw [if_pos hb] at h ⊢
        rw [ih (by simpa using h)]; simp; omega
      · rw [if_neg hb] at h ⊢
        by_cases h35 : c.toNat = 35
        · rw [if_pos h35] at h ⊢
          rw [ih (by simpa using h)]; simp; omega
        · rw [if_neg h35] at h; simp at h
    | true =>
      rw [skipG] at h ⊢
      by_cases h10 : c.toNat = 10
      · rw [if_pos h10] at h ⊢
        rw [ih (by simpa using h)]; simp; omega
      · rw [if_neg h10] at h ⊢
        rw [ih (by simpa using h)]; simp; omega

/-- A text that is read whole, a new line and another text: first the one's tokens, then those of the other. -/
theorem lexF_join : ∀ (f : Nat) (s : Bt) (p : Nat × Nat) (out : List TokD), s.length < f → (lexF f s p out).2.2.2 = 0 →
    ∃ m e, lexF f s p out = (out ++ m ++ [e], (0, 0, 0)) ∧ e.kind = 0 ∧ e.text = [] ∧ m.length ≤ s.length ∧ (∀ t ∈ m, KindOk t.kind t.text) ∧
      ∀ (d : UInt8) (r : Bt) (F : Nat), d.toNat = 10 → s.length + 1 + r.length < F → ∃ F' q, r.length < F' ∧ lexF F (s ++ d :: r) p out = lexF F' r q (out ++ m)
  | 0, s, p, out, hf, _ => by omega
  | f + 1, s, p, out, hf, hok => by
    have hsk : skipL s ≤ s.length := skipG_le false s
    rw [lexF] at hok ⊢
    by_cases hnil : s.drop (skipL s) = []
    · rw [if_pos hnil] at hok ⊢
      refine ⟨[], _, by rw [List.append_nil], rfl, rfl, by simp, by simp, fun d r F hd hF => ⟨F, advL p (s ++ [d]), by omega, ?_⟩⟩
      have hall : s.length ≤ skipL s := by simpa using hnil
      have e1 : skipL (s ++ d :: r) = s.length + 1 + skipL r := skipG_all hall d hd r
      obtain ⟨F0, rfl⟩ : ∃ F0, F = F0 + 1 := ⟨F - 1, by omega⟩
      have e2 : (s ++ d :: r).drop (s.length + 1 + skipL r) = r.drop (skipL r) := by
        rw [List.append_cons, ← List.drop_drop, show s.length + 1 = (s ++ [d]).length by simp, List.drop_left]
      have e3 : (s ++ d :: r).take (s.length + 1 + skipL r) = (s ++ [d]) ++ r.take (skipL r) := by
        rw [List.append_cons, List.take_add, show s.length + 1 = (s ++ [d]).length by simp, List.take_left, List.drop_left]
      rw [lexF, lexF, e1, e2, e3, advL_append, List.append_nil]
    · rw [if_neg hnil] at hok ⊢
      have hlt : skipL s < s.length := by
        rcases Nat.lt_or_ge (skipL s) s.length with h | h
        · exact h
        · exact absurd (List.drop_eq_nil_of_le h) hnil
      cases hn : nextT (s.drop (skipL s)) with
      | inl e => rw [hn] at hok; exact absurd hok (nextT_err hn)
      | inr x =>
        obtain ⟨kd, t, n⟩ := x
        rw [hn] at hok
        simp only at hok ⊢
        by_cases h8 : out.length = 8192
        · rw [if_pos h8] at hok; exact absurd (show (19 : Int) = 0 from hok) (by decide)
        · rw [if_neg h8] at hok ⊢
          obtain ⟨n1, n2⟩ := nextT_le hn
          obtain ⟨m, e, h1, h2, h3, h4, h4', h5⟩ := lexF_join f _ _ _ (by simp only [List.length_drop] at n2 ⊢; omega) hok
          rw [h1]
          refine ⟨_ :: m, e, by rw [List.append_assoc, List.append_assoc, List.singleton_append, List.append_assoc, List.cons_append], h2, h3, ?_, ?_, fun d r F hd hF => ?_⟩
          · simp only [List.length_drop, List.length_cons] at n2 h4 ⊢; omega
          · intro x hx
            rcases List.mem_cons.1 hx with rfl | hx
            · exact nextT_kind hn
            · exact h4' x hx
          · obtain ⟨F0, rfl⟩ : ∃ F0, F = F0 + 1 := ⟨F - 1, by omega⟩
            have hb : blankB d = true := by unfold blankB; simp [hd]
            obtain ⟨F', q, hF', h6⟩ := h5 d r F0 hd (by simp only [List.length_drop] at n2 ⊢; omega)
            refine ⟨F', q, hF', ?_⟩
            have e1 : skipL (s ++ d :: r) = skipL s := skipG_stop hlt _
            rw [lexF, e1, List.drop_append_of_le_length hsk, List.take_append_of_le_length hsk, if_neg (by simp), nextT_stop r hb hn]
            simp only
            rw [if_neg h8, List.drop_append_of_le_length n2, List.take_append_of_le_length n2, h6, List.append_assoc, List.singleton_append]

/-- The tokens without places; none: a fault. -/
def lexK : Nat → Bt → Option (List (Int × Bt))
  | 0, _ => none
  | f + 1, s =>
    if s.drop (skipL s) = [] then some [] else
    match nextT (s.drop (skipL s)) with
    | .inl _ => none
    | .inr (kd, t, n) => (lexK f ((s.drop (skipL s)).drop n)).map ((kd, t) :: ·)
def ktOf (t : TokD) : Int × Bt := (t.kind, t.text)
theorem lexK_of : ∀ (f : Nat) (s : Bt) (p : Nat × Nat) (out : List TokD), s.length < f → out.length + s.length ≤ 8192 →
    (lexK f s = none ∧ (lexF f s p out).1 = [] ∧ (lexF f s p out).2.2.2 ≠ 0) ∨
    (∃ m e, lexK f s = some (m.map ktOf) ∧ lexF f s p out = (out ++ m ++ [e], (0, 0, 0)) ∧ ktOf e = (0, []))
  | 0, s, p, out, hf, _ => by omega
  | f + 1, s, p, out, hf, h8 => by
    have hsk : skipL s ≤ s.length := skipG_le false s
    rw [lexF, lexK]
    by_cases hnil : s.drop (skipL s) = []
    · rw [if_pos hnil, if_pos hnil]
      exact .inr ⟨[], _, rfl, by rw [List.append_nil], rfl⟩
    · rw [if_neg hnil, if_neg hnil]
      cases hn : nextT (s.drop (skipL s)) with
      | inl e => exact .inl ⟨rfl, rfl, nextT_err hn⟩
      | inr x =>
        obtain ⟨kd, t, n⟩ := x
        obtain ⟨n1, n2⟩ := nextT_le hn
        have hl : 1 ≤ s.length - skipL s := by rw [List.length_drop] at n2; omega
        simp only
        rw [if_neg (by omega)]
        rcases lexK_of f ((s.drop (skipL s)).drop n) (advL (advL p (s.take (skipL s))) ((s.drop (skipL s)).take n)) (out ++ [⟨kd, t, (advL p (s.take (skipL s))).1, (advL p (s.take (skipL s))).2⟩])
            (by simp only [List.length_drop] at n2 ⊢; omega) (by simp only [List.length_drop, List.length_append, List.length_cons, List.length_nil] at n2 ⊢; omega) with ⟨h1, h2, h3⟩ | ⟨m, e, h1, h2, h3⟩
        · exact .inl ⟨by rw [h1]; rfl, h2, h3⟩
        · exact .inr ⟨⟨kd, t, (advL p (s.take (skipL s))).1, (advL p (s.take (skipL s))).2⟩ :: m, e, by rw [h1]; rfl, by rw [h2]; simp, h3⟩
theorem lexK_fuel : ∀ (f g : Nat) (s : Bt), s.length < f → s.length < g → lexK f s = lexK g s
  | 0, _, s, hf, _ => by omega
  | _ + 1, 0, s, _, hg => by omega
  | f + 1, g + 1, s, hf, hg => by
    rw [lexK, lexK]
    by_cases hnil : s.drop (skipL s) = []
    · rw [if_pos hnil, if_pos hnil]
    · rw [if_neg hnil, if_neg hnil]
      cases hn : nextT (s.drop (skipL s)) with
      | inl e => rfl
      | inr x =>
        obtain ⟨kd, t, n⟩ := x
        obtain ⟨n1, n2⟩ := nextT_le hn
        simp only
        rw [lexK_fuel f g _ (by simp only [List.length_drop] at n2 ⊢; omega) (by simp only [List.length_drop] at n2 ⊢; omega)]
/-- What is passed over at the beginning changes no token. -/
theorem lexK_skip (f : Nat) (x s : Bt) (h : skipL (x ++ s) = x.length + skipL s) : lexK (f + 1) (x ++ s) = lexK (f + 1) s := by
  have e : (x ++ s).drop (x.length + skipL s) = s.drop (skipL s) := by rw [← List.drop_drop, List.drop_left]
  rw [lexK, lexK, h, e]
def remarkL : Bt := [32, 35, 32, 97, 32, 114, 101, 109, 97, 114, 107, 32, 10, 9, 13, 32]
theorem remark_skip (s : Bt) : skipL (remarkL ++ s) = remarkL.length + skipL s := by
  unfold skipL remarkL
  simp [skipG, blankB]
  omega
theorem lexL_F (s : Bt) (h : s.length ≤ 65536) : lexL s = lexF (s.length + 1) s (1, 1) [] := by unfold lexL; rw [if_neg (by omega)]
theorem blanks_law (a b : Bt) (ha : a.length ≤ 2000) (hb : b.length ≤ 2000) :
    (((lexL a).1 = [] ∧ (lexL a).2.2.2 ≠ 0) ∨ ∃ x ea, lexL a = (x ++ [ea], (0, 0, 0))) ∧ (((lexL b).1 = [] ∧ (lexL b).2.2.2 ≠ 0) ∨ ∃ y eb, lexL b = (y ++ [eb], (0, 0, 0))) ∧
    ∀ x ea y eb, lexL a = (x ++ [ea], (0, 0, 0)) → lexL b = (y ++ [eb], (0, 0, 0)) → ∃ z, lexL (a ++ 10 :: (remarkL ++ b)) = (x ++ z, (0, 0, 0)) ∧ z.map ktOf = (y ++ [eb]).map ktOf := by
  have key : ∀ s : Bt, s.length ≤ 2000 → (((lexL s).1 = [] ∧ (lexL s).2.2.2 ≠ 0) ∨ ∃ x ea, lexL s = (x ++ [ea], (0, 0, 0))) := by
    intro s hs
    rw [lexL_F s (by omega)]
    rcases lexK_of (s.length + 1) s (1, 1) [] (by omega) (by simp; omega) with ⟨_, h1, h2⟩ | ⟨m, e, _, h2, _⟩
    · exact .inl ⟨h1, h2⟩
    · exact .inr ⟨m, e, by rw [h2]; simp⟩
  refine ⟨key a ha, key b hb, fun x ea y eb hx hy => ?_⟩
  rw [lexL_F _ (by omega)] at hx hy
  have hrl : remarkL.length = 16 := rfl
  obtain ⟨m, e, h1, _, _, h4, _, h5⟩ := lexF_join (a.length + 1) a (1, 1) [] (by omega) (by rw [hx])
  rw [hx, List.nil_append] at h1
  have h1 := (Prod.mk.inj h1).1
  obtain ⟨rfl, _⟩ : x = m ∧ ea = e := by
    have := List.append_inj' h1 rfl
    exact ⟨this.1, by simpa using this.2⟩
  have hlen : (a ++ 10 :: (remarkL ++ b)).length = a.length + 17 + b.length := by simp [hrl]; omega
  rw [lexL_F _ (by omega), hlen]
  obtain ⟨F', q, hF', h6⟩ := h5 10 (remarkL ++ b) (a.length + 17 + b.length + 1) rfl (by simp [hrl]; omega)
  rw [h6, List.nil_append]
  obtain ⟨F0, rfl⟩ : ∃ F0, F' = F0 + 1 := ⟨F' - 1, by omega⟩
  have hFb : b.length < F0 + 1 := by simp [hrl] at hF'; omega
  have e1 : lexK (F0 + 1) (remarkL ++ b) = lexK (b.length + 1) b := by rw [lexK_skip F0 _ _ (remark_skip b)]; exact lexK_fuel _ _ _ hFb (by omega)
  rcases lexK_of (F0 + 1) (remarkL ++ b) q x hF' (by simp [hrl]; omega) with ⟨k1, k2, k3⟩ | ⟨m2, e2, k1, k2, k3⟩
  · exfalso
    rcases lexK_of (b.length + 1) b (1, 1) [] (by omega) (by simp; omega) with ⟨_, _, j3⟩ | ⟨_, _, j1, _, _⟩
    · exact j3 (by rw [hy])
    · rw [e1, j1] at k1; cases k1
  · rcases lexK_of (b.length + 1) b (1, 1) [] (by omega) (by simp; omega) with ⟨_, _, j3⟩ | ⟨m3, e3, j1, j2, j3⟩
    · exact absurd (by rw [hy]) j3
    · rw [hy, List.nil_append] at j2
      have j2 := (Prod.mk.inj j2).1
      rw [e1, j1] at k1
      injection k1 with k1
      refine ⟨m2 ++ [e2], by rw [k2, List.append_assoc], ?_⟩
      rw [j2, List.map_append, List.map_append, k1]
      simp [k3, j3]
end Go.Proofs.YtpgngegdflbahaaGreatDoor
