/- Texts as tokens, in plain Lean. -/
import Derived.Test.YtpgngegdflbahaaGreatDoorPN
set_option linter.unusedVariables false
namespace Go.Proofs.YtpgngegdflbahaaGreatDoor

abbrev Bt := List UInt8
def letterB (c : UInt8) : Bool := (decide (97 ≤ c.toNat) && decide (c.toNat ≤ 122)) || (decide (65 ≤ c.toNat) && decide (c.toNat ≤ 90)) || decide (c.toNat = 95)
def digitB (c : UInt8) : Bool := decide (48 ≤ c.toNat) && decide (c.toNat ≤ 57)
def innerB (c : UInt8) : Bool := letterB c || digitB c
def blankB (c : UInt8) : Bool := decide (c.toNat = 32) || decide (c.toNat = 9) || decide (c.toNat = 10) || decide (c.toNat = 13)
def notLine (c : UInt8) : Bool := !decide (c.toNat = 10)
/-- How many bytes at the beginning are of a sort. -/
def rowL (p : UInt8 → Bool) (s : Bt) : Nat := (s.takeWhile p).length
theorem rowL_le (p : UInt8 → Bool) (s : Bt) : rowL p s ≤ s.length := by
  unfold rowL
  exact (List.takeWhile_sublist p).length_le
theorem rowL_nil (p : UInt8 → Bool) : rowL p [] = 0 := rfl
theorem rowL_cons (p : UInt8 → Bool) (c : UInt8) (s : Bt) : rowL p (c :: s) = if p c then rowL p s + 1 else 0 := by
  unfold rowL
  rw [List.takeWhile_cons]
  split <;> simp
/-- The row goes on to just the first byte that is not of the sort. -/
theorem rowL_at {p : UInt8 → Bool} {s : Bt} {k : Nat} (hk : k < s.length) (h : ∀ j (hj : j < k), p (s[j]'(by omega)) = true) (hn : p s[k] = false) : rowL p s = k := by
  induction s generalizing k with
  | nil => simp at hk
  | cons c s ih =>
    rw [rowL_cons]
    rcases k with _ | k
    · rw [if_neg (by simpa using hn)]
    · have h0 := h 0 (by omega)
      simp only [List.getElem_cons_zero] at h0
      rw [if_pos h0, ih (by simpa using hk) (fun j hj => by simpa using h (j + 1) (by omega)) (by simpa using hn)]
theorem rowL_all {p : UInt8 → Bool} {s : Bt} (h : ∀ j (hj : j < s.length), p s[j] = true) : rowL p s = s.length := by
  induction s with
  | nil => rfl
  | cons c s ih =>
    have h0 := h 0 (by simp)
    simp only [List.getElem_cons_zero] at h0
    rw [rowL_cons, if_pos h0, ih (fun j hj => by have h1 := h (j + 1) (by simpa using hj); rw [List.getElem_cons_succ] at h1; exact h1)]
    rfl

/-- How many bytes are passed over; q: within a remark. -/
def skipG : Bool → Bt → Nat
  | _, [] => 0
  | false, c :: s => if blankB c then skipG false s + 1 else if c.toNat = 35 then skipG true s + 1 else 0
  | true, c :: s => if c.toNat = 10 then skipG false s + 1 else skipG true s + 1
def skipL (s : Bt) : Nat := skipG false s
/-- One round of it, as the program goes. -/
def skipOne (s : Bt) : Nat :=
  rowL blankB s + (if ((s.drop (rowL blankB s)).head?).map UInt8.toNat = some 35 then rowL notLine (s.drop (rowL blankB s)) else 0)
theorem skipG_le (q : Bool) (s : Bt) : skipG q s ≤ s.length := by
  induction s generalizing q with
  | nil => cases q <;> simp [skipG]
  | cons c s ih =>
    cases q with
    | false =>
      rw [skipG]
      split
      · have := ih false; simp; exact this
      · split
        · have := ih true; simp; exact this
        · simp
    | true =>
      rw [skipG]
      split
      · have := ih false; simp; exact this
      · have := ih true; simp; exact this
theorem skip_blank (s : Bt) : skipG false s = rowL blankB s + skipG false (s.drop (rowL blankB s)) := by
  induction s with
  | nil => rfl
  | cons c s ih =>
    rw [rowL_cons]
    by_cases h : blankB c = true
    · rw [if_pos h, skipG, if_pos h, ih, List.drop_succ_cons]; omega
    · rw [if_neg h]; simp
theorem skip_line (s : Bt) : skipG true s = rowL notLine s + skipG false (s.drop (rowL notLine s)) := by
  induction s with
  | nil => rfl
  | cons c s ih =>
    rw [rowL_cons]
    by_cases h : c.toNat = 10
    · have hn : notLine c = false := by unfold notLine; simp [h]
      have hb : blankB c = true := by unfold blankB; simp [h]
      rw [if_neg (by simp [hn]), skipG, if_pos h]
      show skipG false s + 1 = 0 + skipG false (c :: s)
      rw [skipG, if_pos hb]; omega
    · have hn : notLine c = true := by unfold notLine; simp [h]
      rw [if_pos hn, skipG, if_neg h, ih, List.drop_succ_cons]; omega
theorem skip_one (s : Bt) : skipL s = skipOne s + skipL (s.drop (skipOne s)) := by
  unfold skipL skipOne
  rw [skip_blank]
  generalize hr : s.drop (rowL blankB s) = r
  cases r with
  | nil => simp [skipG, hr]
  | cons c t =>
    simp only [List.head?_cons, Option.map_some, Option.some.injEq]
    by_cases h : c.toNat = 35
    · rw [if_pos h]
      have hb : blankB c = false := by unfold blankB; simp [h]
      have hn : notLine c = true := by unfold notLine; simp [h]
      rw [← List.drop_drop, hr, skipG, if_neg (by simp [hb]), if_pos h, skip_line, rowL_cons, if_pos hn, List.drop_succ_cons]; omega
    · rw [if_neg h, Nat.add_zero, hr]
theorem skip_zero {s : Bt} (h : skipOne s = 0) : skipL s = 0 := by
  have h1 : rowL blankB s = 0 := by unfold skipOne at h; omega
  unfold skipOne at h
  rw [h1] at h
  cases s with
  | nil => rfl
  | cons c t =>
    rw [rowL_cons] at h1
    have hb : ¬ blankB c = true := by
      intro hb; rw [if_pos hb] at h1; omega
    unfold skipL
    rw [skipG, if_neg hb]
    simp only [List.drop_zero, List.head?_cons, Option.map_some, Option.some.injEq] at h
    by_cases h35 : c.toNat = 35
    · rw [if_pos h35, rowL_cons, if_pos (by unfold notLine; simp [h35])] at h; omega
    · rw [if_neg h35]

/-- Where one stands behind a byte. -/
def advB (p : Nat × Nat) (c : UInt8) : Nat × Nat := if c.toNat = 10 then (p.1 + 1, 1) else (p.1, p.2 + 1)
def advL (p : Nat × Nat) (s : Bt) : Nat × Nat := s.foldl advB p
theorem advL_append (p : Nat × Nat) (a b : Bt) : advL p (a ++ b) = advL (advL p a) b := by unfold advL; rw [List.foldl_append]
theorem advL_take {p : Nat × Nat} {s : Bt} {k : Nat} (h : k < s.length) : advL p (s.take (k + 1)) = advB (advL p (s.take k)) s[k] := by
  rw [List.take_succ_eq_append_getElem h, advL_append]; rfl

def escB (c : UInt8) : Option UInt8 := if c.toNat = 92 then some 92 else if c.toNat = 34 then some 34 else if c.toNat = 110 then some 10 else if c.toNat = 116 then some 9 else none
/-- A string's bytes, read from behind its first quote: what it says, how long it is with both quotes; back: behind a backslash. -/
def quoteG : Bool → Bt → Nat → Bt → Option (Bt × Nat)
  | _, _, _, [] => none
  | back, out, i, c :: s =>
    if c.toNat < 32 then none else
    if back then (match escB c with | some e => quoteG false (out ++ [e]) (i + 1) s | none => none) else
    if c.toNat = 92 then quoteG true out (i + 1) s else
    if c.toNat = 34 then some (out, i + 2) else quoteG false (out ++ [c]) (i + 1) s
def quoteL (s : Bt) : Option (Bt × Nat) := quoteG false [] 0 (s.drop 1)
theorem quoteG_le {back : Bool} {out : Bt} {i : Nat} {s : Bt} {r : Bt × Nat} (h : quoteG back out i s = some r) : i + 2 ≤ r.2 ∧ r.2 ≤ i + s.length + 1 ∧ r.1.length ≤ out.length + s.length := by
  induction s generalizing back out i with
  | nil => cases back <;> simp [quoteG] at h
  | cons c s ih =>
    rw [quoteG] at h
    split at h
    · cases h
    · split at h
      · split at h
        · obtain ⟨a, b, d⟩ := ih h
          simp only [List.length_append, List.length_cons, List.length_nil] at *; omega
        · cases h
      · split at h
        · obtain ⟨a, b, d⟩ := ih h
          simp only [List.length_append, List.length_cons, List.length_nil] at *; omega
        · split at h
          · injection h with h; subst h; simp only [List.length_cons]; omega
          · obtain ⟨a, b, d⟩ := ih h
            simp only [List.length_append, List.length_cons, List.length_nil] at *; omega
end Go.Proofs.YtpgngegdflbahaaGreatDoor
