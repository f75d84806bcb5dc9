/- Texts that belong together: PX, PY, PK, PP, PQ, PA. -/
import Derived.Test.YtbpedjkebemhnaaGreatDoorGA
/- Texts as tokens, in plain Lean. -/
set_option linter.unusedVariables false
namespace Go.Proofs.YtbpedjkebemhnaaGreatDoor

abbrev Bt := List UInt8
def letterB (c : UInt8) : Bool := (decide (97 ≤ c.toNat) && decide (c.toNat ≤ 122)) || (decide (65 ≤ c.toNat) && decide (c.toNat ≤ 90)) || decide (c.toNat = 95)
def digitB (c : UInt8) : Bool := decide (48 ≤ c.toNat) && decide (c.toNat ≤ 57)
def innerB (c : UInt8) : Bool := letterB c || digitB c
def blankB (c : UInt8) : Bool := decide (c.toNat = 32) || decide (c.toNat = 9) || decide (c.toNat = 10) || decide (c.toNat = 13)
def notLine (c : UInt8) : Bool := !decide (c.toNat = 10)
/-- How many bytes at the beginning are of a sort. -/
def rowL (p : UInt8 → Bool) (s : Bt) : Nat := (s.takeWhile p).length
theorem rowL_le (p : UInt8 → Bool) (s : Bt) : rowL p s ≤ s.length := by
  unfold rowL
  exact (List.takeWhile_sublist p).length_le
theorem rowL_nil (p : UInt8 → Bool) : rowL p [] = 0 := rfl
theorem rowL_cons (p : UInt8 → Bool) (c : UInt8) (s : Bt) : rowL p (c :: s) = if p c then rowL p s + 1 else 0 := by
  unfold rowL
  rw [List.takeWhile_cons]
  split <;> simp
/-- The row goes on to just the first byte that is not of the sort. -/
theorem rowL_at {p : UInt8 → Bool} {s : Bt} {k : Nat} (hk : k < s.length) (h : ∀ j (hj : j < k), p (s[j]'(by omega)) = true) (hn : p s[k] = false) : rowL p s = k := by
  induction s generalizing k with
  | nil => simp at hk
  | cons c s ih =>
    rw [rowL_cons]
    rcases k with _ | k
    · rw [if_neg (by simpa using hn)]
    · have h0 := h 0 (by omega)
      simp only [List.getElem_cons_zero] at h0
      rw [if_pos h0, ih (by simpa using hk) (fun j hj => by simpa using h (j + 1) (by omega)) (by simpa using hn)]
theorem rowL_all {p : UInt8 → Bool} {s : Bt} (h : ∀ j (hj : j < s.length), p s[j] = true) : rowL p s = s.length := by
  induction s with
  | nil => rfl
  | cons c s ih =>
    have h0 := h 0 (by simp)
    simp only [List.getElem_cons_zero] at h0
    rw [rowL_cons, if_pos h0, ih (fun j hj => by have h1 := h (j + 1) (by simpa using hj); rw [List.getElem_cons_succ] at h1; exact h1)]
    rfl

/-- How many bytes are passed over; q: within a remark. -/
def skipG : Bool → Bt → Nat
  | _, [] => 0
  | false, c :: s => if blankB c then skipG false s + 1 else if c.toNat = 35 then skipG true s + 1 else 0
  | true, c :: s => if c.toNat = 10 then skipG false s + 1 else skipG true s + 1
def skipL (s : Bt) : Nat := skipG false s
/-- One round of it, as the program goes. -/
def skipOne (s : Bt) : Nat :=
  rowL blankB s + (if ((s.drop (rowL blankB s)).head?).map UInt8.toNat = some 35 then rowL notLine (s.drop (rowL blankB s)) else 0)
theorem skipG_le (q : Bool) (s : Bt) : skipG q s ≤ s.length := by
  induction s generalizing q with
  | nil => cases q <;> simp [skipG]
  | cons c s ih =>
    cases q with
    | false =>
      rw [skipG]
      split
      · have := ih false; simp; exact this
      · split
        · have := ih true; simp; exact this
        · simp
    | true =>
      rw [skipG]
      split
      · have := ih false; simp; exact this
      · have := ih true; simp; exact this
theorem skip_blank (s : Bt) : skipG false s = rowL blankB s + skipG false (s.drop (rowL blankB s)) := by
  induction s with
  | nil => rfl
  | cons c s ih =>
    rw [rowL_cons]
    by_cases h : blankB c = true
    · rw [if_pos h, skipG, if_pos h, ih, List.drop_succ_cons]; omega
    · rw [if_neg h]; simp
theorem skip_line (s : Bt) : skipG true s = rowL notLine s + skipG false (s.drop (rowL notLine s)) := by
  induction s with
  | nil => rfl
  | cons c s ih =>
    rw [rowL_cons]
    by_cases h : c.toNat = 10
    · have hn : notLine c = false := by unfold notLine; simp [h]
      have hb : blankB c = true := by unfold blankB; simp [h]
      rw [if_neg (by simp [hn]), skipG, if_pos h]
      show skipG false s + 1 = 0 + skipG false (c :: s)
      rw [skipG, if_pos hb]; omega
    · have hn : notLine c = true := by unfold notLine; simp [h]
      rw [if_pos hn, skipG, if_neg h, ih, List.drop_succ_cons]; omega
theorem skip_one (s : Bt) : skipL s = skipOne s + skipL (s.drop (skipOne s)) := by
  unfold skipL skipOne
  rw [skip_blank]
  generalize hr : s.drop (rowL blankB s) = r
  cases r with
  | nil => simp [skipG, hr]
  | cons c t =>
    simp only [List.head?_cons, Option.map_some, Option.some.injEq]
    by_cases h : c.toNat = 35
    · rw [if_pos h]
      have hb : blankB c = false := by unfold blankB; simp [h]
      have hn : notLine c = true := by unfold notLine; simp [h]
      rw [← List.drop_drop, hr, skipG, if_neg (by simp [hb]), if_pos h, skip_line, rowL_cons, if_pos hn, List.drop_succ_cons]; omega
    · rw [if_neg h, Nat.add_zero, hr]
theorem skip_zero {s : Bt} (h : skipOne s = 0) : skipL s = 0 := by
  have h1 : rowL blankB s = 0 := by unfold skipOne at h; omega
  unfold skipOne at h
  rw [h1] at h
  cases s with
  | nil => rfl
  | cons c t =>
    rw [rowL_cons] at h1
    have hb : ¬ blankB c = true := by
      intro hb; rw [if_pos hb] at h1; omega
    unfold skipL
    rw [skipG, if_neg hb]
    simp only [List.drop_zero, List.head?_cons, Option.map_some, Option.some.injEq] at h
    by_cases h35 : c.toNat = 35
    · rw [if_pos h35, rowL_cons, if_pos (by unfold notLine; simp [h35])] at h; omega
    · rw [if_neg h35]

/-- Where one stands behind a byte. -/
def advB (p : Nat × Nat) (c : UInt8) : Nat × Nat := if c.toNat = 10 then (p.1 + 1, 1) else (p.1, p.2 + 1)
def advL (p : Nat × Nat) (s : Bt) : Nat × Nat := s.foldl advB p
theorem advL_append (p : Nat × Nat) (a b : Bt) : advL p (a ++ b) = advL (advL p a) b := by unfold advL; rw [List.foldl_append]
theorem advL_take {p : Nat × Nat} {s : Bt} {k : Nat} (h : k < s.length) : advL p (s.take (k + 1)) = advB (advL p (s.take k)) s[k] := by
  rw [List.take_succ_eq_append_getElem h, advL_append]; rfl

def escB (c : UInt8) : Option UInt8 := if c.toNat = 92 then some 92 else if c.toNat = 34 then some 34 else if c.toNat = 110 then some 10 else if c.toNat = 116 then some 9 else none
/-- A string's bytes, read from behind its first quote: what it says, how long it is with both quotes; back: behind a backslash. -/
def quoteG : Bool → Bt → Nat → Bt → Option (Bt × Nat)
  | _, _, _, [] => none
  | back, out, i, c :: s =>
    if c.toNat < 32 then none else
    if back then (match escB c with | some e => quoteG false (out ++ [e]) (i + 1) s | none => none) else
    if c.toNat = 92 then quoteG true out (i + 1) s else
    if c.toNat = 34 then some (out, i + 2) else quoteG false (out ++ [c]) (i + 1) s
def quoteL (s : Bt) : Option (Bt × Nat) := quoteG false [] 0 (s.drop 1)
theorem quoteG_le {back : Bool} {out : Bt} {i : Nat} {s : Bt} {r : Bt × Nat} (h : quoteG back out i s = some r) : i + 2 ≤ r.2 ∧ r.2 ≤ i + s.length + 1 ∧ r.1.length ≤ out.length + s.length := by
  induction s generalizing back out i with
  | nil => cases back <;> simp [quoteG] at h
  | cons c s ih =>
    rw [quoteG] at h
    split at h
    · cases h
    · split at h
      · split at h
        · obtain ⟨a, b, d⟩ := ih h
          simp only [List.length_append, List.length_cons, List.length_nil] at *; omega
        · cases h
      · split at h
        · obtain ⟨a, b, d⟩ := ih h
          simp only [List.length_append, List.length_cons, List.length_nil] at *; omega
        · split at h
          · injection h with h; subst h; simp only [List.length_cons]; omega
          · obtain ⟨a, b, d⟩ := ih h
            simp only [List.length_append, List.length_cons, List.length_nil] at *; omega
end Go.Proofs.YtbpedjkebemhnaaGreatDoor

/- Tokens, in plain Lean: what stands at the beginning of a text, and a text's tokens. -/
set_option linter.unusedVariables false
namespace Go.Proofs.YtbpedjkebemhnaaGreatDoor

def wordsL : List Bt := [[97, 110, 100],
  [97, 110, 121],
  [97, 115],
  [98, 111, 111, 108],
  [101, 108, 115, 101],
  [101, 120, 112, 111, 114, 116],
  [102, 97, 108, 115, 101],
  [102, 110],
  [102, 117, 110, 99, 116, 105, 111, 110],
  [105, 102],
  [105, 109, 112, 111, 114, 116],
  [105, 110],
  [105, 110, 116],
  [105, 115],
  [108, 101, 116],
  [110, 111, 116],
  [110, 117, 108, 108],
  [111, 114],
  [112, 114, 105, 110, 116],
  [114, 101, 97, 100],
  [114, 101, 99, 111, 114, 100],
  [115, 116, 114],
  [116, 104, 101, 110],
  [116, 114, 117, 101],
  [119, 105, 116, 104]]
def pairsL : List Bt := [[45, 62], [61, 62], [60, 58], [60, 60], [60, 61], [62, 62], [61, 61], [43, 43]]
def singlesL : Bt := [40, 41, 123, 125, 91, 93, 44, 58, 59, 61, 43, 45, 42, 47, 37, 38, 94, 60, 124, 46]
/-- What may be a name. -/
def nameL (s : Bt) : Bool := match s with
  | [] => false
  | c :: r => decide ((c :: r).length ≤ 32) && letterB c && decide (rowL innerB (c :: r) = (c :: r).length) && !decide ((c :: r) ∈ wordsL)
/-- The token that a text begins with: an error, or its kind, its text, how long it is. -/
def nextT (s : Bt) : Int ⊕ (Int × Bt × Nat) :=
  match s with
  | [] => .inl 5
  | c :: r =>
    if letterB c then
      (if 32 < rowL innerB (c :: r) then .inl 2 else if (c :: r).take (rowL innerB (c :: r)) ∈ wordsL then .inr (2, (c :: r).take (rowL innerB (c :: r)), rowL innerB (c :: r)) else .inr (1, (c :: r).take (rowL innerB (c :: r)), rowL innerB (c :: r)))
    else if digitB c then
      (if (parseV ((c :: r).take (rowL digitB (c :: r)))).2 then .inr (3, (c :: r).take (rowL digitB (c :: r)), rowL digitB (c :: r)) else .inl 3)
    else if c.toNat = 34 then
      (match quoteL (c :: r) with
        | none => .inl 4
        | some (t, n) => if 256 < t.length then .inl 2 else .inr (4, t, n))
    else if (c :: r).take 2 ∈ pairsL then .inr (5, (c :: r).take 2, 2)
    else if c ∈ singlesL then .inr (5, [c], 1) else .inl 5
structure TokD where
  kind : Int
  text : Bt
  line : Nat
  col : Nat
/-- The tokens from some place on, or the fault. -/
def lexF : Nat → Bt → Nat × Nat → List TokD → List TokD × (Nat × Nat × Int)
  | 0, _, _, _ => ([], (0, 0, 0))
  | f + 1, s, p, out =>
    if s.drop (skipL s) = [] then (out ++ [⟨0, [], (advL p (s.take (skipL s))).1, (advL p (s.take (skipL s))).2⟩], (0, 0, 0)) else
    match nextT (s.drop (skipL s)) with
    | .inl e => ([], ((advL p (s.take (skipL s))).1, (advL p (s.take (skipL s))).2, e))
    | .inr (kd, t, n) =>
      if out.length = 8192 then ([], ((advL p (s.take (skipL s))).1, (advL p (s.take (skipL s))).2, 19)) else
      lexF f ((s.drop (skipL s)).drop n) (advL (advL p (s.take (skipL s))) ((s.drop (skipL s)).take n)) (out ++ [⟨kd, t, (advL p (s.take (skipL s))).1, (advL p (s.take (skipL s))).2⟩])
def lexL (s : Bt) : List TokD × (Nat × Nat × Int) := if 65536 < s.length then ([], (1, 1, 2)) else lexF (s.length + 1) s (1, 1) []
theorem rowL_pos {p : UInt8 → Bool} {c : UInt8} {s : Bt} (h : p c = true) : 1 ≤ rowL p (c :: s) := by
  rw [rowL_cons, if_pos h]; omega
/-- A token has a byte at least, and no more than there are. -/
theorem nextT_le {s : Bt} {kd : Int} {t : Bt} {n : Nat} (h : nextT s = .inr (kd, t, n)) : 1 ≤ n ∧ n ≤ s.length := by
  cases s with
  | nil => simp [nextT] at h
  | cons c r =>
    rw [nextT] at h
    split at h
    · rename_i hl
      have hi : innerB c = true := by unfold innerB; rw [hl]; rfl
      have h1 := rowL_pos (s := r) hi
      have h2 := rowL_le innerB (c :: r)
      split at h
      · cases h
      · split at h
        · injection h with h; simp only [Prod.mk.injEq] at h; omega
        · injection h with h; simp only [Prod.mk.injEq] at h; omega
    · split at h
      · rename_i hd
        have h1 := rowL_pos (s := r) hd
        have h2 := rowL_le digitB (c :: r)
        split at h
        · injection h with h; simp only [Prod.mk.injEq] at h; omega
        · cases h
      · split at h
        · split at h
          · cases h
          · rename_i t' n' hq
            have := quoteG_le hq
            split at h
            · cases h
            · injection h with h; simp only [Prod.mk.injEq] at h
              simp only [List.drop_succ_cons, List.drop_zero] at this
              simp only [List.length_cons]; omega
        · split at h
          · rename_i hp
            injection h with h; simp only [Prod.mk.injEq] at h
            have h2 : ((c :: r).take 2).length = 2 := by
              have hall : ∀ m ∈ pairsL, m.length = 2 := by decide
              exact hall _ hp
            rw [List.length_take] at h2
            simp only [List.length_cons] at h2 ⊢; omega
          · split at h
            · injection h with h; simp only [Prod.mk.injEq] at h
              simp only [List.length_cons]; omega
            · cases h
theorem nextT_err {s : Bt} {e : Int} (h : nextT s = .inl e) : e ≠ 0 := by
  cases s with
  | nil => simp [nextT] at h; omega
  | cons c r =>
    rw [nextT] at h
    repeat' split at h
    all_goals first | (injection h with h; omega) | cases h
end Go.Proofs.YtbpedjkebemhnaaGreatDoor

/- What a text's tokens are, kind by kind. -/
set_option linter.unusedVariables false
namespace Go.Proofs.YtbpedjkebemhnaaGreatDoor

theorem rowL_take (p : UInt8 → Bool) (s : Bt) : rowL p (s.take (rowL p s)) = rowL p s := by
  induction s with
  | nil => rfl
  | cons c r ih =>
    rw [rowL_cons]
    by_cases h : p c = true
    · rw [if_pos h, List.take_succ_cons, rowL_cons, if_pos h, ih]
    · rw [if_neg h]; rfl
/-- A token is what its kind says. -/
def KindOk (kd : Int) (t : Bt) : Prop :=
  1 ≤ kd ∧ kd ≤ 5 ∧ (kd = 2 → t ∈ wordsL) ∧ (kd = 1 → nameL t = true) ∧ (kd = 3 → ∃ c r, t = c :: r ∧ digitB c = true) ∧ (kd = 5 → 1 ≤ t.length ∧ t.length ≤ 2)
theorem nextT_kind {s : Bt} {kd : Int} {t : Bt} {n : Nat} (h : nextT s = .inr (kd, t, n)) : KindOk kd t := by
  cases s with
  | nil => simp [nextT] at h
  | cons c r =>
    rw [nextT] at h
    have hle := rowL_le innerB (c :: r)
    have htk := rowL_take innerB (c :: r)
    by_cases hl : letterB c = true
    · rw [if_pos hl] at h
      have hi : innerB c = true := by unfold innerB; rw [hl]; rfl
      have hpos := rowL_pos (s := r) hi
      by_cases h32 : 32 < rowL innerB (c :: r)
      · rw [if_pos h32] at h; cases h
      · rw [if_neg h32] at h
        by_cases hw : (c :: r).take (rowL innerB (c :: r)) ∈ wordsL
        · rw [if_pos hw] at h
          injection h with h
          simp only [Prod.mk.injEq] at h
          obtain ⟨rfl, rfl, _⟩ := h
          exact ⟨by omega, by omega, fun _ => hw, fun h => by omega, fun h => by omega, fun h => by omega⟩
        · rw [if_neg hw] at h
          injection h with h
          simp only [Prod.mk.injEq] at h
          obtain ⟨rfl, rfl, _⟩ := h
          refine ⟨by omega, by omega, fun h => by omega, fun _ => ?_, fun h => by omega, fun h => by omega⟩
          have hlen : ((c :: r).take (rowL innerB (c :: r))).length = rowL innerB (c :: r) := by rw [List.length_take]; omega
          generalize hn : rowL innerB (c :: r) = m at *
          obtain ⟨m', rfl⟩ : ∃ m', m = m' + 1 := ⟨m - 1, by omega⟩
          rw [List.take_succ_cons] at htk hw hlen ⊢
          unfold nameL
          simp only [Bool.and_eq_true, decide_eq_true_eq, Bool.not_eq_true', decide_eq_false_iff_not]
          exact ⟨⟨⟨by rw [hlen]; omega, hl⟩, by rw [htk, hlen]⟩, hw⟩
    · rw [if_neg hl] at h
      by_cases hd : digitB c = true
      · rw [if_pos hd] at h
        have hpos := rowL_pos (s := r) hd
        split at h
        · injection h with h
          simp only [Prod.mk.injEq] at h
          obtain ⟨rfl, rfl, _⟩ := h
          refine ⟨by omega, by omega, fun h => by omega, fun h => by omega, fun _ => ?_, fun h => by omega⟩
          obtain ⟨m', hm⟩ : ∃ m', rowL digitB (c :: r) = m' + 1 := ⟨rowL digitB (c :: r) - 1, by omega⟩
          rw [hm, List.take_succ_cons]
          exact ⟨_, _, rfl, hd⟩
        · cases h
      · rw [if_neg hd] at h
        split at h
        · split at h
          · cases h
          · split at h
            · cases h
            · injection h with h
              simp only [Prod.mk.injEq] at h
              obtain ⟨rfl, rfl, _⟩ := h
              exact ⟨by omega, by omega, fun h => by omega, fun h => by omega, fun h => by omega, fun h => by omega⟩
        · split at h
          · rename_i hp
            injection h with h
            simp only [Prod.mk.injEq] at h
            obtain ⟨rfl, rfl, _⟩ := h
            have hall : ∀ m ∈ pairsL, m.length = 2 := by decide
            have := hall _ hp
            exact ⟨by omega, by omega, fun h => by omega, fun h => by omega, fun h => by omega, fun _ => by omega⟩
          · split at h
            · injection h with h
              simp only [Prod.mk.injEq] at h
              obtain ⟨rfl, rfl, _⟩ := h
              exact ⟨by omega, by omega, fun h => by omega, fun h => by omega, fun h => by omega, fun _ => ⟨by simp, by simp⟩⟩
            · cases h
/-- The tokens that come behind those at hand: each is what its kind says; the last one alone is the end. -/
theorem lexF_kinds : ∀ (f : Nat) (s : Bt) (p : Nat × Nat) (out : List TokD), (lexF f s p out).1 = [] ∨ ∃ (l : List TokD) (e : TokD), (lexF f s p out).1 = out ++ l ++ [e] ∧ e.kind = 0 ∧ e.text = [] ∧ ∀ t ∈ l, KindOk t.kind t.text
  | 0, s, p, out => .inl rfl
  | f + 1, s, p, out => by
    rw [lexF]
    split
    · exact .inr ⟨[], ⟨0, [], (advL p (s.take (skipL s))).1, (advL p (s.take (skipL s))).2⟩, by simp, rfl, rfl, by simp⟩
    · split
      · exact .inl rfl
      · rename_i kd t n hn
        split
        · exact .inl rfl
        · rcases lexF_kinds f ((s.drop (skipL s)).drop n) (advL (advL p (s.take (skipL s))) ((s.drop (skipL s)).take n)) (out ++ [⟨kd, t, (advL p (s.take (skipL s))).1, (advL p (s.take (skipL s))).2⟩]) with h | ⟨l, e, h1, h2, h3, h4⟩
          · exact .inl h
          · refine .inr ⟨⟨kd, t, (advL p (s.take (skipL s))).1, (advL p (s.take (skipL s))).2⟩ :: l, e, by rw [h1]; simp, h2, h3, fun x hx => ?_⟩
            rcases List.mem_cons.1 hx with rfl | hx
            · exact nextT_kind hn
            · exact h4 x hx
end Go.Proofs.YtbpedjkebemhnaaGreatDoor

/- Where a text's tokens stand. -/
set_option linter.unusedVariables false
namespace Go.Proofs.YtbpedjkebemhnaaGreatDoor

/-- Where one stands behind so many bytes of a text. -/
def posL (text : Bt) (a : Nat) : Nat × Nat := advL (1, 1) (text.take a)
theorem posL_add (text : Bt) (a k : Nat) : posL text (a + k) = advL (posL text a) ((text.drop a).take k) := by
  unfold posL
  rw [List.take_add, advL_append]
/-- Each token but a string stands in the text at its place. -/
inductive Placed (text : Bt) : Nat → List TokD → Prop where
  | done (a : Nat) : a ≤ text.length → Placed text a [⟨0, [], (posL text text.length).1, (posL text text.length).2⟩]
  | next (a b n : Nat) (t : TokD) (l : List TokD) : a ≤ b → posL text b = (t.line, t.col) → (t.kind ≠ 4 → t.text = (text.drop b).take n) → t.kind ≠ 0 → 1 ≤ n → b + n ≤ text.length → Placed text (b + n) l → Placed text a (t :: l)
theorem nextT_text {s : Bt} {kd : Int} {t : Bt} {n : Nat} (h : nextT s = .inr (kd, t, n)) : (kd ≠ 4 → t = s.take n) ∧ kd ≠ 0 := by
  cases s with
  | nil => simp [nextT] at h
  | cons c r =>
    rw [nextT] at h
    repeat' split at h
    all_goals cases h
    all_goals first | exact ⟨fun _ => rfl, by decide⟩ | exact ⟨fun hk => absurd rfl hk, by decide⟩
theorem lexF_places (text : Bt) : ∀ (f : Nat) (a : Nat) (out : List TokD), a ≤ text.length → (lexF f (text.drop a) (posL text a) out).1 = [] ∨ ∃ l, (lexF f (text.drop a) (posL text a) out).1 = out ++ l ∧ Placed text a l
  | 0, a, out, ha => .inl rfl
  | f + 1, a, out, ha => by
    have hsk := skipG_le false (text.drop a)
    have hsk' : skipL (text.drop a) ≤ text.length - a := by rw [List.length_drop] at hsk; exact hsk
    rw [lexF, ← posL_add, List.drop_drop]
    generalize hk : skipL (text.drop a) = k at *
    split
    · rename_i hnil
      have hle : text.length ≤ a + k := by simpa using hnil
      have he : a + k = text.length := by omega
      rw [he]
      exact .inr ⟨_, rfl, .done a ha⟩
    · split
      · exact .inl rfl
      · rename_i kd t n hn
        split
        · exact .inl rfl
        · obtain ⟨n1, n2⟩ := nextT_le hn
          obtain ⟨e1, e2⟩ := nextT_text hn
          rw [List.length_drop] at n2
          rw [List.drop_drop, ← posL_add]
          rcases lexF_places text f (a + k + n) (out ++ [⟨kd, t, (posL text (a + k)).1, (posL text (a + k)).2⟩]) (by omega) with h | ⟨l, h1, h2⟩
          · exact .inl h
          · exact .inr ⟨⟨kd, t, (posL text (a + k)).1, (posL text (a + k)).2⟩ :: l, by rw [h1]; simp, .next a (a + k) n _ l (by omega) rfl e1 e2 n1 (by omega) h2⟩
/-- With fuel enough: a fault, or tokens that stand in the text. -/
theorem lexF_sure (text : Bt) : ∀ (f : Nat) (a : Nat) (out : List TokD), a ≤ text.length → text.length - a < f → ((lexF f (text.drop a) (posL text a) out).1 = [] ∧ (lexF f (text.drop a) (posL text a) out).2.2.2 ≠ 0) ∨
    ∃ l, lexF f (text.drop a) (posL text a) out = (out ++ l, (0, 0, 0)) ∧ Placed text a l
  | 0, a, out, ha, hf => by omega
  | f + 1, a, out, ha, hf => by
    have hsk := skipG_le false (text.drop a)
    have hsk' : skipL (text.drop a) ≤ text.length - a := by rw [List.length_drop] at hsk; exact hsk
    rw [lexF, ← posL_add, List.drop_drop]
    generalize hk : skipL (text.drop a) = k at *
    split
    · rename_i hnil
      have hle : text.length ≤ a + k := by simpa using hnil
      have he : a + k = text.length := by omega
      rw [he]
      exact .inr ⟨_, rfl, .done a ha⟩
    · split
      · rename_i e hn
        exact .inl ⟨rfl, nextT_err hn⟩
      · rename_i kd t n hn
        split
        · exact .inl ⟨rfl, by show (19 : Int) ≠ 0; decide⟩
        · obtain ⟨n1, n2⟩ := nextT_le hn
          obtain ⟨e1, e2⟩ := nextT_text hn
          rw [List.length_drop] at n2
          rw [List.drop_drop, ← posL_add]
          rcases lexF_sure text f (a + k + n) (out ++ [⟨kd, t, (posL text (a + k)).1, (posL text (a + k)).2⟩]) (by omega) (by omega) with h | ⟨l, h1, h2⟩
          · exact .inl h
          · exact .inr ⟨⟨kd, t, (posL text (a + k)).1, (posL text (a + k)).2⟩ :: l, by rw [h1]; simp, .next a (a + k) n _ l (by omega) rfl e1 e2 n1 (by omega) h2⟩
/-- Places rise. -/
def before (p q : Nat × Nat) : Prop := p.1 < q.1 ∨ (p.1 = q.1 ∧ p.2 < q.2)
theorem before_adv (p : Nat × Nat) (c : UInt8) : before p (advB p c) := by
  unfold before advB
  split
  · left; show p.1 < p.1 + 1; omega
  · right; exact ⟨rfl, by show p.2 < p.2 + 1; omega⟩
theorem before_trans {p q r : Nat × Nat} (h1 : before p q) (h2 : before q r) : before p r := by
  unfold before at *; omega
theorem posL_rises (text : Bt) {a b : Nat} (h : a < b) (hb : b ≤ text.length) : before (posL text a) (posL text b) := by
  induction b with
  | zero => omega
  | succ b ih =>
    have hlt : b < text.length := by omega
    have e : posL text (b + 1) = advB (posL text b) text[b] := advL_take hlt
    rw [e]
    rcases Nat.lt_or_ge a b with h1 | h1
    · exact before_trans (ih h1 (by omega)) (before_adv _ _)
    · obtain rfl : a = b := by omega
      exact before_adv _ _
end Go.Proofs.YtbpedjkebemhnaaGreatDoor

/- Texts put together: what is read of a text, whatever blank stands behind it. -/
set_option linter.unusedVariables false
namespace Go.Proofs.YtbpedjkebemhnaaGreatDoor

theorem rowL_stop {p : UInt8 → Bool} {c : UInt8} (hp : p c = false) (s r : Bt) : rowL p (s ++ c :: r) = rowL p s := by
  induction s with
  | nil => rw [List.nil_append, rowL_cons, if_neg (by simp [hp])]; rfl
  | cons d s ih =>
    rw [List.cons_append, rowL_cons, rowL_cons]
    by_cases h : p d = true
    · rw [if_pos h, if_pos h, ih]
    · rw [if_neg h, if_neg h]
theorem blank_inner {c : UInt8} (h : blankB c = true) : innerB c = false ∧ digitB c = false ∧ letterB c = false := by
  unfold blankB at h
  simp only [Bool.or_eq_true, decide_eq_true_eq] at h
  unfold innerB letterB digitB
  simp only [Bool.or_eq_false_iff, Bool.and_eq_false_iff, decide_eq_false_iff_not]
  omega
theorem quoteG_more {back : Bool} {out : Bt} {i : Nat} {s : Bt} {r : Bt × Nat} (h : quoteG back out i s = some r) (x : Bt) : quoteG back out i (s ++ x) = some r := by
  induction s generalizing back out i with
  | nil => cases back <;> simp [quoteG] at h
  | cons c s ih =>
    rw [quoteG] at h
    rw [List.cons_append, quoteG]
    split at h
    · cases h
    · rename_i h32
      rw [if_neg h32]
      split at h
      · rename_i hb
        rw [if_pos hb]
        split at h
        · exact ih h
        · cases h
      · rename_i hb
        rw [if_neg hb]
        split at h
        · rename_i h92
          rw [if_pos h92]
          exact ih h
        · rename_i h92
          rw [if_neg h92]
          split at h
          · rename_i h34
            rw [if_pos h34]; exact h
          · rename_i h34
            rw [if_neg h34]; exact ih h
theorem pairs_two : ∀ m ∈ pairsL, m.length = 2 := by decide
theorem pairs_blank (c d : UInt8) (hd : blankB d = true) : [c, d] ∉ pairsL := by
  intro h
  have hall : (pairsL.all fun m => !blankB (m.getD 1 0)) = true := by decide
  have := List.all_eq_true.1 hall _ h
  simp [hd] at this
/-- A token is read as it is, whatever stands behind a blank behind it. -/
theorem nextT_stop {s : Bt} {kd : Int} {t : Bt} {n : Nat} {d : UInt8} (x : Bt) (hd : blankB d = true) (h : nextT s = .inr (kd, t, n)) : nextT (s ++ d :: x) = .inr (kd, t, n) := by
  obtain ⟨hi, hdg, _⟩ := blank_inner hd
  cases s with
  | nil => simp [nextT] at h
  | cons c r =>
    have hri := rowL_le innerB (c :: r)
    have hrd := rowL_le digitB (c :: r)
    rw [nextT] at h
    rw [List.cons_append, nextT, ← List.cons_append, rowL_stop hi, rowL_stop hdg, List.take_append_of_le_length hri, List.take_append_of_le_length hrd]
    split at h
    · rename_i hl
      rw [if_pos hl]; exact h
    · rename_i hl
      rw [if_neg hl]
      split at h
      · rename_i hg
        rw [if_pos hg]; exact h
      · rename_i hg
        rw [if_neg hg]
        split at h
        · rename_i h34
          rw [if_pos h34]
          split at h
          · cases h
          · rename_i t' n' hq
            have hq' : quoteL (c :: r ++ d :: x) = some (t', n') := by
              unfold quoteL at hq ⊢
              simp only [List.cons_append, List.drop_succ_cons, List.drop_zero] at hq ⊢
              exact quoteG_more hq _
            rw [hq']
            exact h
        · rename_i h34
          rw [if_neg h34]
          cases r with
          | nil =>
            have h2 : ¬ [c] ∈ pairsL := fun hm => by have := pairs_two _ hm; simp at this
            rw [if_neg (by simpa using h2)] at h
            rw [if_neg (show ¬ (([c] ++ d :: x : Bt).take 2 ∈ pairsL) from pairs_blank c d hd)]
            exact h
          | cons e r => exact h
/-- It is read of its own bytes alone. -/
theorem quoteG_own {back : Bool} {out : Bt} {i : Nat} {s t : Bt} {n : Nat} (h : quoteG back out i s = some (t, n)) : quoteG back out i (s.take (n - i - 1)) = some (t, n) := by
  induction s generalizing back out i with
  | nil => cases back <;> simp [quoteG] at h
  | cons c s ih =>
    have hle := quoteG_le h
    simp only at hle
    rw [quoteG] at h
    obtain ⟨k, hk⟩ : ∃ k, n - i - 1 = k + 1 := ⟨n - i - 2, by omega⟩
    rw [hk, List.take_succ_cons, quoteG]
    have hk' : k = n - (i + 1) - 1 := by omega
    split at h
    · cases h
    · rename_i h32
      rw [if_neg h32]
      split at h
      · rename_i hb
        rw [if_pos hb]
        split at h
        · rw [hk']; exact ih h
        · cases h
      · rename_i hb
        rw [if_neg hb]
        split at h
        · rename_i h92
          rw [if_pos h92, hk']
          exact ih h
        · rename_i h92
          rw [if_neg h92]
          split at h
          · rename_i h34
            rw [if_pos h34]; exact h
          · rename_i h34
            rw [if_neg h34, hk']; exact ih h
theorem nextT_own {s : Bt} {kd : Int} {t : Bt} {n : Nat} (h : nextT s = .inr (kd, t, n)) : nextT (s.take n) = .inr (kd, t, n) := by
  cases s with
  | nil => simp [nextT] at h
  | cons c r =>
    have hle := (nextT_le h).1
    obtain ⟨m, rfl⟩ : ∃ m, n = m + 1 := ⟨n - 1, by omega⟩
    have hi := rowL_take innerB (c :: r)
    have hd := rowL_take digitB (c :: r)
    rw [nextT] at h
    rw [List.take_succ_cons, nextT, ← List.take_succ_cons]
    split at h
    · rename_i hl
      rw [if_pos hl]
      have hn : rowL innerB (c :: r) = m + 1 := by
        repeat' split at h
        all_goals first | cases h; done | (injection h with h; simp only [Prod.mk.injEq] at h; exact h.2.2)
      rw [hn] at hi h
      rw [hi, List.take_take, Nat.min_self]
      exact h
    · rename_i hl
      rw [if_neg hl]
      split at h
      · rename_i hg
        rw [if_pos hg]
        have hn : rowL digitB (c :: r) = m + 1 := by
          repeat' split at h
          all_goals first | cases h; done | (injection h with h; simp only [Prod.mk.injEq] at h; exact h.2.2)
        rw [hn] at hd h
        rw [hd, List.take_take, Nat.min_self]
        exact h
      · rename_i hg
        rw [if_neg hg]
        split at h
        · rename_i h34
          rw [if_pos h34]
          split at h
          · cases h
          · rename_i t' n' hq
            have hn : n' = m + 1 := by
              split at h
              · cases h
              · injection h with h; simp only [Prod.mk.injEq] at h; exact h.2.2
            subst hn
            have hq' : quoteL ((c :: r).take (m + 1)) = some (t', m + 1) := by
              unfold quoteL at hq ⊢
              simp only [List.take_succ_cons, List.drop_succ_cons, List.drop_zero] at hq ⊢
              have := quoteG_own hq
              simpa using this
            rw [hq']
            exact h
        · rename_i h34
          rw [if_neg h34]
          split at h
          · rename_i hp
            injection h with h; simp only [Prod.mk.injEq] at h
            obtain ⟨rfl, rfl, h2⟩ := h
            obtain rfl : m = 1 := by omega
            rw [List.take_take, Nat.min_self, if_pos hp]
          · rename_i hp
            split at h
            · rename_i hs
              injection h with h; simp only [Prod.mk.injEq] at h
              obtain ⟨rfl, rfl, h2⟩ := h
              obtain rfl : m = 0 := by omega
              have h2 : ¬ [c] ∈ pairsL := fun hm => by have := pairs_two _ hm; simp at this
              rw [if_neg (by simpa using h2), if_pos hs]
            · cases h
/-- What a token begins with is passed over by nobody. -/
theorem nextT_head {c : UInt8} {r : Bt} {kd : Int} {t : Bt} {n : Nat} (h : nextT (c :: r) = .inr (kd, t, n)) : blankB c = false ∧ c.toNat ≠ 35 := by
  have hall : ((pairsL.all fun m => !blankB (m.headD 0) && decide ((m.headD 0).toNat ≠ 35)) && singlesL.all fun c => !blankB c && decide (c.toNat ≠ 35)) = true := by decide
  rw [Bool.and_eq_true, List.all_eq_true, List.all_eq_true] at hall
  rw [nextT] at h
  have hle : (letterB c = true ∨ digitB c = true ∨ c.toNat = 34) ∨ (c :: r).take 2 ∈ pairsL ∨ c ∈ singlesL := by
    by_cases hp : (c :: r).take 2 ∈ pairsL
    · exact .inr (.inl hp)
    · by_cases hs : c ∈ singlesL
      · exact .inr (.inr hs)
      · by_cases h1 : letterB c = true
        · exact .inl (.inl h1)
        · by_cases h2 : digitB c = true
          · exact .inl (.inr (.inl h2))
          · by_cases h3 : c.toNat = 34
            · exact .inl (.inr (.inr h3))
            · rw [if_neg h1, if_neg h2, if_neg h3, if_neg hp, if_neg hs] at h; cases h
  rcases hle with h1 | h1 | h1
  · unfold letterB digitB at h1
    unfold blankB
    simp only [Bool.or_eq_true, Bool.and_eq_true, decide_eq_true_eq] at h1
    simp only [Bool.or_eq_false_iff, decide_eq_false_iff_not]
    omega
  · have := hall.1 _ h1
    rw [List.take_succ_cons] at this
    simpa using this
  · have := hall.2 _ h1
    simpa using this

theorem skipG_stop {q : Bool} {s : Bt} (h : skipG q s < s.length) (x : Bt) : skipG q (s ++ x) = skipG q s := by
  induction s generalizing q with
  | nil => simp at h
  | cons c s ih =>
    rw [List.cons_append]
    cases q with
    | false =>
      rw [skipG] at h ⊢
      rw [skipG]
      by_cases hb : blankB c = true
      · rw [if_pos hb] at h ⊢
        rw [if_pos hb, ih (by simpa using h)]
      · rw [if_neg hb] at h ⊢
        rw [if_neg hb]
        by_cases h35 : c.toNat = 35
        · rw [if_pos h35] at h ⊢
          rw [if_pos h35, ih (by simpa using h)]
        · rw [if_neg h35, if_neg h35]
    | true =>
      rw [skipG] at h ⊢
      rw [skipG]
      by_cases h10 : c.toNat = 10
      · rw [if_pos h10] at h ⊢
        rw [if_pos h10, ih (by simpa using h)]
      · rw [if_neg h10] at h ⊢
        rw [if_neg h10, ih (by simpa using h)]
theorem skipG_all {q : Bool} {s : Bt} (h : s.length ≤ skipG q s) (d : UInt8) (hd : d.toNat = 10) (x : Bt) : skipG q (s ++ d :: x) = s.length + 1 + skipL x := by
  have hb : blankB d = true := by unfold blankB; simp [hd]
  induction s generalizing q with
  | nil =>
    rw [List.nil_append]
    unfold skipL
    cases q with
    | false => rw [skipG, if_pos hb]; simp; omega
    | true => rw [skipG, if_pos hd]; simp; omega
  | cons c s ih =>
    rw [List.cons_append]
    cases q with
    | false =>
      rw [skipG] at h ⊢
      by_cases hb : blankB c = true
      · rw [if_pos hb] at h ⊢
        rw [ih (by simpa using h)]; simp; omega
      · rw [if_neg hb] at h ⊢
        by_cases h35 : c.toNat = 35
        · rw [if_pos h35] at h ⊢
          rw [ih (by simpa using h)]; simp; omega
        · rw [if_neg h35] at h; simp at h
    | true =>
      rw [skipG] at h ⊢
      by_cases h10 : c.toNat = 10
      · rw [if_pos h10] at h ⊢
        rw [ih (by simpa using h)]; simp; omega
      · rw [if_neg h10] at h ⊢
        rw [ih (by simpa using h)]; simp; omega

/-- A text that is read whole, a new line and another text: first the one's tokens, then those of the other. -/
theorem lexF_join : ∀ (f : Nat) (s : Bt) (p : Nat × Nat) (out : List TokD), s.length < f → (lexF f s p out).2.2.2 = 0 →
    ∃ m e, lexF f s p out = (out ++ m ++ [e], (0, 0, 0)) ∧ e.kind = 0 ∧ e.text = [] ∧ m.length ≤ s.length ∧ (∀ t ∈ m, KindOk t.kind t.text) ∧
      ∀ (d : UInt8) (r : Bt) (F : Nat), d.toNat = 10 → s.length + 1 + r.length < F → ∃ F' q, r.length < F' ∧ lexF F (s ++ d :: r) p out = lexF F' r q (out ++ m)
  | 0, s, p, out, hf, _ => by omega
  | f + 1, s, p, out, hf, hok => by
    have hsk : skipL s ≤ s.length := skipG_le false s
    rw [lexF] at hok ⊢
    by_cases hnil : s.drop (skipL s) = []
    · rw [if_pos hnil] at hok ⊢
      refine ⟨[], _, by rw [List.append_nil], rfl, rfl, by simp, by simp, fun d r F hd hF => ⟨F, advL p (s ++ [d]), by omega, ?_⟩⟩
      have hall : s.length ≤ skipL s := by simpa using hnil
      have e1 : skipL (s ++ d :: r) = s.length + 1 + skipL r := skipG_all hall d hd r
      obtain ⟨F0, rfl⟩ : ∃ F0, F = F0 + 1 := ⟨F - 1, by omega⟩
      have e2 : (s ++ d :: r).drop (s.length + 1 + skipL r) = r.drop (skipL r) := by
        rw [List.append_cons, ← List.drop_drop, show s.length + 1 = (s ++ [d]).length by simp, List.drop_left]
      have e3 : (s ++ d :: r).take (s.length + 1 + skipL r) = (s ++ [d]) ++ r.take (skipL r) := by
        rw [List.append_cons, List.take_add, show s.length + 1 = (s ++ [d]).length by simp, List.take_left, List.drop_left]
      rw [lexF, lexF, e1, e2, e3, advL_append, List.append_nil]
    · rw [if_neg hnil] at hok ⊢
      have hlt : skipL s < s.length := by
        rcases Nat.lt_or_ge (skipL s) s.length with h | h
        · exact h
        · exact absurd (List.drop_eq_nil_of_le h) hnil
      cases hn : nextT (s.drop (skipL s)) with
      | inl e => rw [hn] at hok; exact absurd hok (nextT_err hn)
      | inr x =>
        obtain ⟨kd, t, n⟩ := x
        rw [hn] at hok
        simp only at hok ⊢
        by_cases h8 : out.length = 8192
        · rw [if_pos h8] at hok; exact absurd (show (19 : Int) = 0 from hok) (by decide)
        · rw [if_neg h8] at hok ⊢
          obtain ⟨n1, n2⟩ := nextT_le hn
          obtain ⟨m, e, h1, h2, h3, h4, h4', h5⟩ := lexF_join f _ _ _ (by simp only [List.length_drop] at n2 ⊢; omega) hok
          rw [h1]
          refine ⟨_ :: m, e, by rw [List.append_assoc, List.append_assoc, List.singleton_append, List.append_assoc, List.cons_append], h2, h3, ?_, ?_, fun d r F hd hF => ?_⟩
          · simp only [List.length_drop, List.length_cons] at n2 h4 ⊢; omega
          · intro x hx
            rcases List.mem_cons.1 hx with rfl | hx
            · exact nextT_kind hn
            · exact h4' x hx
          · obtain ⟨F0, rfl⟩ : ∃ F0, F = F0 + 1 := ⟨F - 1, by omega⟩
            have hb : blankB d = true := by unfold blankB; simp [hd]
            obtain ⟨F', q, hF', h6⟩ := h5 d r F0 hd (by simp only [List.length_drop] at n2 ⊢; omega)
            refine ⟨F', q, hF', ?_⟩
            have e1 : skipL (s ++ d :: r) = skipL s := skipG_stop hlt _
            rw [lexF, e1, List.drop_append_of_le_length hsk, List.take_append_of_le_length hsk, if_neg (by simp), nextT_stop r hb hn]
            simp only
            rw [if_neg h8, List.drop_append_of_le_length n2, List.take_append_of_le_length n2, h6, List.append_assoc, List.singleton_append]

/-- The tokens without places; none: a fault. -/
def lexK : Nat → Bt → Option (List (Int × Bt))
  | 0, _ => none
  | f + 1, s =>
    if s.drop (skipL s) = [] then some [] else
    match nextT (s.drop (skipL s)) with
    | .inl _ => none
    | .inr (kd, t, n) => (lexK f ((s.drop (skipL s)).drop n)).map ((kd, t) :: ·)
def ktOf (t : TokD) : Int × Bt := (t.kind, t.text)
theorem lexK_of : ∀ (f : Nat) (s : Bt) (p : Nat × Nat) (out : List TokD), s.length < f → out.length + s.length ≤ 8192 →
    (lexK f s = none ∧ (lexF f s p out).1 = [] ∧ (lexF f s p out).2.2.2 ≠ 0) ∨
    (∃ m e, lexK f s = some (m.map ktOf) ∧ lexF f s p out = (out ++ m ++ [e], (0, 0, 0)) ∧ ktOf e = (0, []))
  | 0, s, p, out, hf, _ => by omega
  | f + 1, s, p, out, hf, h8 => by
    have hsk : skipL s ≤ s.length := skipG_le false s
    rw [lexF, lexK]
    by_cases hnil : s.drop (skipL s) = []
    · rw [if_pos hnil, if_pos hnil]
      exact .inr ⟨[], _, rfl, by rw [List.append_nil], rfl⟩
    · rw [if_neg hnil, if_neg hnil]
      cases hn : nextT (s.drop (skipL s)) with
      | inl e => exact .inl ⟨rfl, rfl, nextT_err hn⟩
      | inr x =>
        obtain ⟨kd, t, n⟩ := x
        obtain ⟨n1, n2⟩ := nextT_le hn
        have hl : 1 ≤ s.length - skipL s := by rw [List.length_drop] at n2; omega
        simp only
        rw [if_neg (by omega)]
        rcases lexK_of f ((s.drop (skipL s)).drop n) (advL (advL p (s.take (skipL s))) ((s.drop (skipL s)).take n)) (out ++ [⟨kd, t, (advL p (s.take (skipL s))).1, (advL p (s.take (skipL s))).2⟩])
            (by simp only [List.length_drop] at n2 ⊢; omega) (by simp only [List.length_drop, List.length_append, List.length_cons, List.length_nil] at n2 ⊢; omega) with ⟨h1, h2, h3⟩ | ⟨m, e, h1, h2, h3⟩
        · exact .inl ⟨by rw [h1]; rfl, h2, h3⟩
        · exact .inr ⟨⟨kd, t, (advL p (s.take (skipL s))).1, (advL p (s.take (skipL s))).2⟩ :: m, e, by rw [h1]; rfl, by rw [h2]; simp, h3⟩
theorem lexK_fuel : ∀ (f g : Nat) (s : Bt), s.length < f → s.length < g → lexK f s = lexK g s
  | 0, _, s, hf, _ => by omega
  | _ + 1, 0, s, _, hg => by omega
  | f + 1, g + 1, s, hf, hg => by
    rw [lexK, lexK]
    by_cases hnil : s.drop (skipL s) = []
    · rw [if_pos hnil, if_pos hnil]
    · rw [if_neg hnil, if_neg hnil]
      cases hn : nextT (s.drop (skipL s)) with
      | inl e => rfl
      | inr x =>
        obtain ⟨kd, t, n⟩ := x
        obtain ⟨n1, n2⟩ := nextT_le hn
        simp only
        rw [lexK_fuel f g _ (by simp only [List.length_drop] at n2 ⊢; omega) (by simp only [List.length_drop] at n2 ⊢; omega)]
/-- What is passed over at the beginning changes no token. -/
theorem lexK_skip (f : Nat) (x s : Bt) (h : skipL (x ++ s) = x.length + skipL s) : lexK (f + 1) (x ++ s) = lexK (f + 1) s := by
  have e : (x ++ s).drop (x.length + skipL s) = s.drop (skipL s) := by rw [← List.drop_drop, List.drop_left]
  rw [lexK, lexK, h, e]
def remarkL : Bt := [32, 35, 32, 97, 32, 114, 101, 109, 97, 114, 107, 32, 10, 9, 13, 32]
theorem remark_skip (s : Bt) : skipL (remarkL ++ s) = remarkL.length + skipL s := by
  unfold skipL remarkL
  simp [skipG, blankB]
  omega
theorem lexL_F (s : Bt) (h : s.length ≤ 65536) : lexL s = lexF (s.length + 1) s (1, 1) [] := by unfold lexL; rw [if_neg (by omega)]
theorem blanks_law (a b : Bt) (ha : a.length ≤ 2000) (hb : b.length ≤ 2000) :
    (((lexL a).1 = [] ∧ (lexL a).2.2.2 ≠ 0) ∨ ∃ x ea, lexL a = (x ++ [ea], (0, 0, 0))) ∧ (((lexL b).1 = [] ∧ (lexL b).2.2.2 ≠ 0) ∨ ∃ y eb, lexL b = (y ++ [eb], (0, 0, 0))) ∧
    ∀ x ea y eb, lexL a = (x ++ [ea], (0, 0, 0)) → lexL b = (y ++ [eb], (0, 0, 0)) → ∃ z, lexL (a ++ 10 :: (remarkL ++ b)) = (x ++ z, (0, 0, 0)) ∧ z.map ktOf = (y ++ [eb]).map ktOf := by
  have key : ∀ s : Bt, s.length ≤ 2000 → (((lexL s).1 = [] ∧ (lexL s).2.2.2 ≠ 0) ∨ ∃ x ea, lexL s = (x ++ [ea], (0, 0, 0))) := by
    intro s hs
    rw [lexL_F s (by omega)]
    rcases lexK_of (s.length + 1) s (1, 1) [] (by omega) (by simp; omega) with ⟨_, h1, h2⟩ | ⟨m, e, _, h2, _⟩
    · exact .inl ⟨h1, h2⟩
    · exact .inr ⟨m, e, by rw [h2]; simp⟩
  refine ⟨key a ha, key b hb, fun x ea y eb hx hy => ?_⟩
  rw [lexL_F _ (by omega)] at hx hy
  have hrl : remarkL.length = 16 := rfl
  obtain ⟨m, e, h1, _, _, h4, _, h5⟩ := lexF_join (a.length + 1) a (1, 1) [] (by omega) (by rw [hx])
  rw [hx, List.nil_append] at h1
  have h1 := (Prod.mk.inj h1).1
  obtain ⟨rfl, _⟩ : x = m ∧ ea = e := by
    have := List.append_inj' h1 rfl
    exact ⟨this.1, by simpa using this.2⟩
  have hlen : (a ++ 10 :: (remarkL ++ b)).length = a.length + 17 + b.length := by simp [hrl]; omega
  rw [lexL_F _ (by omega), hlen]
  obtain ⟨F', q, hF', h6⟩ := h5 10 (remarkL ++ b) (a.length + 17 + b.length + 1) rfl (by simp [hrl]; omega)
  rw [h6, List.nil_append]
  obtain ⟨F0, rfl⟩ : ∃ F0, F' = F0 + 1 := ⟨F' - 1, by omega⟩
  have hFb : b.length < F0 + 1 := by simp [hrl] at hF'; omega
  have e1 : lexK (F0 + 1) (remarkL ++ b) = lexK (b.length + 1) b := by rw [lexK_skip F0 _ _ (remark_skip b)]; exact lexK_fuel _ _ _ hFb (by omega)
  rcases lexK_of (F0 + 1) (remarkL ++ b) q x hF' (by simp [hrl]; omega) with ⟨k1, k2, k3⟩ | ⟨m2, e2, k1, k2, k3⟩
  · exfalso
    rcases lexK_of (b.length + 1) b (1, 1) [] (by omega) (by simp; omega) with ⟨_, _, j3⟩ | ⟨_, _, j1, _, _⟩
    · exact j3 (by rw [hy])
    · rw [e1, j1] at k1; cases k1
  · rcases lexK_of (b.length + 1) b (1, 1) [] (by omega) (by simp; omega) with ⟨_, _, j3⟩ | ⟨m3, e3, j1, j2, j3⟩
    · exact absurd (by rw [hy]) j3
    · rw [hy, List.nil_append] at j2
      have j2 := (Prod.mk.inj j2).1
      rw [e1, j1] at k1
      injection k1 with k1
      refine ⟨m2 ++ [e2], by rw [k2, List.append_assoc], ?_⟩
      rw [j2, List.map_append, List.map_append, k1]
      simp [k3, j3]
end Go.Proofs.YtbpedjkebemhnaaGreatDoor

/- Strings as they are written, and tokens written one behind the other. -/
set_option linter.unusedVariables false
namespace Go.Proofs.YtbpedjkebemhnaaGreatDoor

def escW (c : UInt8) : Bt := if c.toNat = 92 then [92, 92] else if c.toNat = 34 then [92, 34] else if c.toNat = 10 then [92, 110] else if c.toNat = 9 then [92, 116] else [c]
/-- A string as it is written. -/
def quoteW (t : Bt) : Bt := 34 :: (t.flatMap escW ++ [34])
theorem u8_eq {c : UInt8} {n : Nat} (hn : n < 256) (h : c.toNat = n) : c = UInt8.ofNat n := by
  apply UInt8.toNat_inj.1
  rw [UInt8.toNat_ofNat', h]; omega
theorem escB_W {c e : UInt8} (h : escB c = some e) : escW e = [92, c] := by
  unfold escB at h
  split at h
  · rename_i h1
    injection h with h; subst h
    rw [u8_eq (by omega) h1]; rfl
  · split at h
    · rename_i h1
      injection h with h; subst h
      rw [u8_eq (by omega) h1]; rfl
    · split at h
      · rename_i h1
        injection h with h; subst h
        rw [u8_eq (by omega) h1]; rfl
      · split at h
        · rename_i h1
          injection h with h; subst h
          rw [u8_eq (by omega) h1]; rfl
        · cases h
theorem quoteG_text {back : Bool} {out : Bt} {i : Nat} {s t : Bt} {n : Nat} (h : quoteG back out i s = some (t, n)) :
    ∃ u, t = out ++ u ∧ (if back then 92 :: s.take (n - i - 1) else s.take (n - i - 1)) = u.flatMap escW ++ [34] := by
  induction s generalizing back out i with
  | nil => cases back <;> simp [quoteG] at h
  | cons c s ih =>
    have hle := quoteG_le h
    simp only at hle
    rw [quoteG] at h
    obtain ⟨k, hk⟩ : ∃ k, n - i - 1 = k + 1 := ⟨n - i - 2, by omega⟩
    have hk' : n - (i + 1) - 1 = k := by omega
    rw [hk, List.take_succ_cons]
    split at h
    · cases h
    · rename_i h32
      cases back with
      | true =>
        rw [if_pos rfl] at h
        split at h
        · rename_i e he
          obtain ⟨u, h1, h2⟩ := ih h
          rw [if_neg (by simp), hk'] at h2
          refine ⟨e :: u, by rw [h1]; simp, ?_⟩
          rw [if_pos rfl, h2, List.flatMap_cons, escB_W he]; rfl
        · cases h
      | false =>
        rw [if_neg (by simp)] at h
        rw [if_neg (by simp)]
        split at h
        · rename_i h92
          obtain ⟨u, h1, h2⟩ := ih h
          rw [if_pos rfl, hk'] at h2
          refine ⟨u, h1, ?_⟩
          rw [← h2, u8_eq (by omega) h92]; rfl
        · rename_i h92
          split at h
          · rename_i h34
            injection h with h
            simp only [Prod.mk.injEq] at h
            obtain ⟨rfl, rfl⟩ := h
            obtain rfl : k = 0 := by omega
            exact ⟨[], by simp, by rw [u8_eq (by omega) h34]; rfl⟩
          · rename_i h34
            obtain ⟨u, h1, h2⟩ := ih h
            rw [if_neg (by simp), hk'] at h2
            refine ⟨c :: u, by rw [h1]; simp, ?_⟩
            rw [h2, List.flatMap_cons]
            unfold escW
            rw [if_neg h92, if_neg h34, if_neg (by omega), if_neg (by omega)]; rfl
/-- A token as it is written. -/
def writeT (x : Int × Bt) : Bt := if x.1 = 4 then quoteW x.2 else x.2
theorem nextT_raw {s : Bt} {kd : Int} {t : Bt} {n : Nat} (h : nextT s = .inr (kd, t, n)) : s.take n = writeT (kd, t) := by
  by_cases hk : kd = 4
  · subst hk
    have hs := h
    cases s with
    | nil => simp [nextT] at h
    | cons c r =>
      rw [nextT] at h
      by_cases hl : letterB c = true
      · rw [if_pos hl] at h
        repeat' split at h
        all_goals first | cases h; done | (injection h with h; simp only [Prod.mk.injEq] at h; exact absurd h.1 (by decide))
      · rw [if_neg hl] at h
        by_cases hd : digitB c = true
        · rw [if_pos hd] at h
          repeat' split at h
          all_goals first | cases h; done | (injection h with h; simp only [Prod.mk.injEq] at h; exact absurd h.1 (by decide))
        · rw [if_neg hd] at h
          by_cases h34 : c.toNat = 34
          · rw [if_pos h34] at h
            split at h
            · cases h
            · rename_i t' n' hq
              split at h
              · cases h
              · injection h with h
                simp only [Prod.mk.injEq] at h
                obtain ⟨_, rfl, rfl⟩ := h
                unfold quoteL at hq
                rw [List.drop_succ_cons, List.drop_zero] at hq
                have hle := quoteG_le hq
                simp only at hle
                obtain ⟨u, h1, h2⟩ := quoteG_text hq
                rw [if_neg (by simp)] at h2
                obtain ⟨m, hm⟩ : ∃ m, n' = m + 1 := ⟨n' - 1, by omega⟩
                subst hm
                rw [List.nil_append] at h1
                subst h1
                rw [List.take_succ_cons, show m = m + 1 - 0 - 1 by omega, h2, u8_eq (by omega) h34]
                rfl
          · rw [if_neg h34] at h
            repeat' split at h
            all_goals first | cases h; done | (injection h with h; simp only [Prod.mk.injEq] at h; exact absurd h.1 (by decide))
  · unfold writeT
    rw [if_neg hk]
    exact ((nextT_text h).1 hk).symm
/-- A token that is read of what is written of it. -/
def Good (x : Int × Bt) : Prop := nextT (writeT x) = .inr (x.1, x.2, (writeT x).length)
theorem nextT_good {s : Bt} {kd : Int} {t : Bt} {n : Nat} (h : nextT s = .inr (kd, t, n)) : Good (kd, t) ∧ (writeT (kd, t)).length = n := by
  have h1 := nextT_own h
  have h2 := nextT_raw h
  have h3 : (s.take n).length = n := by rw [List.length_take]; have := (nextT_le h).2; omega
  unfold Good
  rw [← h2, h3]
  exact ⟨h1, rfl⟩
def widthT (l : List (Int × Bt)) : Nat := (l.map fun x => (writeT x).length).sum
theorem lexK_good : ∀ (f : Nat) (s : Bt) (l : List (Int × Bt)), lexK f s = some l → (∀ x ∈ l, Good x) ∧ widthT l ≤ s.length ∧ l.length ≤ s.length
  | 0, s, l, h => by simp [lexK] at h
  | f + 1, s, l, h => by
    rw [lexK] at h
    split at h
    · injection h with h; subst h; exact ⟨by simp, by simp [widthT], by simp⟩
    · split at h
      · cases h
      · rename_i kd t n hn
        rw [Option.map_eq_some_iff] at h
        obtain ⟨l', h1, rfl⟩ := h
        obtain ⟨a, b, c⟩ := lexK_good f _ l' h1
        obtain ⟨g1, g2⟩ := nextT_good hn
        obtain ⟨n1, n2⟩ := nextT_le hn
        simp only [List.length_drop] at b c n2
        refine ⟨fun x hx => ?_, ?_, ?_⟩
        · rcases List.mem_cons.1 hx with rfl | hx
          · exact g1
          · exact a x hx
        · unfold widthT at b ⊢
          rw [List.map_cons, List.sum_cons, g2]; omega
        · rw [List.length_cons]; omega
def joinT (l : List (Int × Bt)) : Bt := l.flatMap fun x => 32 :: writeT x
theorem joinT_length (l : List (Int × Bt)) : (joinT l).length = widthT l + l.length := by
  induction l with
  | nil => rfl
  | cons x l ih =>
    unfold joinT widthT at *
    rw [List.flatMap_cons, List.length_append, ih, List.map_cons, List.sum_cons, List.length_cons, List.length_cons]; omega
theorem joinT_more (l : List (Int × Bt)) : joinT l ++ [32] = [32] ∨ ∃ r, joinT l ++ [32] = 32 :: r := by
  cases l with
  | nil => exact .inl rfl
  | cons x l => exact .inr ⟨_, rfl⟩
theorem lexK_again : ∀ (l : List (Int × Bt)) (f : Nat), (∀ x ∈ l, Good x) → (joinT l ++ [32]).length < f → lexK f (joinT l ++ [32]) = some l
  | [], f, _, hf => by
    obtain ⟨f', rfl⟩ : ∃ f', f = f' + 1 := ⟨f - 1, by omega⟩
    rfl
  | x :: l, f, hg, hf => by
    obtain ⟨f', rfl⟩ : ∃ f', f = f' + 1 := ⟨f - 1, by omega⟩
    have hx : nextT (writeT x) = .inr (x.1, x.2, (writeT x).length) := hg x (by simp)
    have e : joinT (x :: l) ++ [32] = 32 :: (writeT x ++ (joinT l ++ [32])) := by unfold joinT; simp
    obtain ⟨c, r, hc⟩ : ∃ c r, writeT x = c :: r := by
      cases hw : writeT x with
      | nil => rw [hw] at hx; simp [nextT] at hx
      | cons c r => exact ⟨c, r, rfl⟩
    obtain ⟨b1, b2⟩ := nextT_head (by rw [← hc]; exact hx)
    have hs : skipL (writeT x ++ (joinT l ++ [32])) = 0 := by
      rw [hc, List.cons_append]
      unfold skipL
      rw [skipG, if_neg (by simp [b1]), if_neg b2]
    have hs1 : skipL (32 :: (writeT x ++ (joinT l ++ [32]))) = 1 := by
      unfold skipL at hs ⊢
      rw [skipG, if_pos (by decide), hs]
    have hn : nextT (writeT x ++ (joinT l ++ [32])) = .inr (x.1, x.2, (writeT x).length) := by
      rcases joinT_more l with h | ⟨r, h⟩
      · rw [h]; exact nextT_stop _ (by decide) hx
      · rw [h]; exact nextT_stop _ (by decide) hx
    rw [e] at hf ⊢
    rw [lexK, hs1, List.drop_succ_cons, List.drop_zero, if_neg (by rw [hc]; simp), hn]
    simp only
    rw [List.drop_left, lexK_again l f' (fun y hy => hg y (by simp [hy])) (by simp only [List.length_cons, List.length_append] at hf ⊢; omega)]
    rfl
theorem le_sum {l : List Nat} {n : Nat} (h : n ∈ l) : n ≤ l.sum := by
  induction l with
  | nil => simp at h
  | cons m l ih =>
    rw [List.sum_cons]
    rcases List.mem_cons.1 h with rfl | h
    · omega
    · have := ih h; omega
/-- The tokens of a text, written one behind the other, are the same ones. -/
theorem again_law (s : Bt) (hs : s.length ≤ 3000) (l : List TokD) (h : lexL s = (l, (0, 0, 0))) :
    l.length ≤ 3001 ∧ (joinT (l.map ktOf)).length ≤ 6001 ∧ (∀ t ∈ l, (writeT (ktOf t)).length ≤ 3000) ∧ ∃ m, lexL (joinT (l.map ktOf)) = (m, (0, 0, 0)) ∧ m.map ktOf = l.map ktOf := by
  rw [lexL_F s (by omega)] at h
  rcases lexK_of (s.length + 1) s (1, 1) [] (by omega) (by simp; omega) with ⟨_, _, k3⟩ | ⟨m, e, k1, k2, k3⟩
  · exact absurd (by rw [h]) k3
  · rw [h, List.nil_append] at k2
    obtain rfl : l = m ++ [e] := (Prod.mk.inj k2).1
    obtain ⟨g1, g2, g3⟩ := lexK_good _ _ _ k1
    rw [List.length_map] at g3
    have he : (writeT (ktOf e)).length = 0 := by rw [k3]; rfl
    have ej : joinT ((m ++ [e]).map ktOf) = joinT (m.map ktOf) ++ [32] := by
      rw [List.map_append]
      unfold joinT
      rw [List.flatMap_append]
      simp only [List.map_cons, List.map_nil, k3, List.flatMap_cons, List.flatMap_nil, List.append_nil]
      rfl
    have hl := joinT_length (m.map ktOf)
    rw [List.length_map] at hl
    refine ⟨by simp; omega, by rw [ej, List.length_append, hl]; simp; omega, fun t ht => ?_, ?_⟩
    · rcases List.mem_append.1 ht with ht | ht
      · have : (writeT (ktOf t)).length ≤ widthT (m.map ktOf) := by
          unfold widthT
          exact le_sum (List.mem_map.2 ⟨ktOf t, List.mem_map.2 ⟨t, ht, rfl⟩, rfl⟩)
        omega
      · obtain rfl : t = e := by simpa using ht
        omega
    · rw [ej, lexL_F _ (by rw [List.length_append, hl]; simp; omega)]
      have hk := lexK_again (m.map ktOf) ((joinT (m.map ktOf) ++ [32]).length + 1) g1 (by omega)
      rcases lexK_of ((joinT (m.map ktOf) ++ [32]).length + 1) (joinT (m.map ktOf) ++ [32]) (1, 1) [] (by omega) (by rw [List.length_append, hl]; simp; omega) with ⟨j1, _, _⟩ | ⟨m2, e2, j1, j2, j3⟩
      · rw [hk] at j1; cases j1
      · rw [hk] at j1
        injection j1 with j1
        exact ⟨m2 ++ [e2], by rw [j2]; simp, by rw [List.map_append, List.map_append, j1]; simp [k3, j3]⟩

theorem quoteG_back (s : Bt) : ∀ (out : Bt) (i : Nat) (x : Bt), (∀ c ∈ s, 32 ≤ c.toNat ∨ c.toNat = 9 ∨ c.toNat = 10) → quoteG false out i (s.flatMap escW ++ 34 :: x) = some (out ++ s, i + (s.flatMap escW).length + 2) := by
  induction s with
  | nil => intro out i x _; simp [quoteG]
  | cons c s ih =>
    intro out i x hc
    have hs : ∀ c ∈ s, 32 ≤ c.toNat ∨ c.toNat = 9 ∨ c.toNat = 10 := fun d hd => hc d (by simp [hd])
    have h0 := hc c (by simp)
    have two : ∀ (d e : UInt8), 32 ≤ d.toNat → escB d = some e → e = c → escW c = [92, d] → quoteG false out i (escW c ++ (s.flatMap escW ++ 34 :: x)) = some (out ++ c :: s, i + ((escW c).length + (s.flatMap escW).length) + 2) := by
      intro d e hd he hec hw
      subst hec
      rw [hw]
      show quoteG false out i (92 :: d :: (s.flatMap escW ++ 34 :: x)) = _
      rw [quoteG, if_neg (by decide), if_neg (by simp), if_pos (by decide), quoteG, if_neg (by omega), if_pos rfl, he]
      simp only
      rw [ih _ _ _ hs]
      simp; omega
    rw [List.flatMap_cons, List.append_assoc, List.length_append]
    by_cases h92 : c.toNat = 92
    · exact two 92 92 (by decide) rfl (u8_eq (by omega) h92).symm (by unfold escW; rw [if_pos h92])
    · by_cases h34 : c.toNat = 34
      · exact two 34 34 (by decide) rfl (u8_eq (by omega) h34).symm (by unfold escW; rw [if_neg h92, if_pos h34])
      · by_cases h10 : c.toNat = 10
        · exact two 110 10 (by decide) rfl (u8_eq (by omega) h10).symm (by unfold escW; rw [if_neg h92, if_neg h34, if_pos h10])
        · by_cases h9 : c.toNat = 9
          · exact two 116 9 (by decide) rfl (u8_eq (by omega) h9).symm (by unfold escW; rw [if_neg h92, if_neg h34, if_neg h10, if_pos h9])
          · have hw : escW c = [c] := by unfold escW; rw [if_neg h92, if_neg h34, if_neg h10, if_neg h9]
            rw [hw]
            show quoteG false out i (c :: (s.flatMap escW ++ 34 :: x)) = _
            rw [quoteG, if_neg (by omega), if_neg (by simp), if_neg h92, if_neg h34, ih _ _ _ hs]
            simp; omega
theorem escW_len (c : UInt8) : 1 ≤ (escW c).length ∧ (escW c).length ≤ 2 := by
  unfold escW
  repeat' split
  all_goals simp
theorem quoteW_len (s : Bt) : (quoteW s).length ≤ 2 * s.length + 2 := by
  unfold quoteW
  have : (s.flatMap escW).length ≤ 2 * s.length := by
    induction s with
    | nil => simp
    | cons c s ih => have := (escW_len c).2; rw [List.flatMap_cons, List.length_append, List.length_cons]; omega
  rw [List.length_cons, List.length_append, List.length_cons, List.length_nil]; omega
/-- A string without other control bytes than line feeds and tabs is read as it was. -/
theorem quote_law (s : Bt) (hs : s.length ≤ 5000) (hc : ∀ c ∈ s, 32 ≤ c.toNat ∨ c.toNat = 9 ∨ c.toNat = 10) :
    (256 < s.length → lexL (quoteW s) = ([], (1, 1, 2))) ∧ (s.length ≤ 256 → ∃ e, lexL (quoteW s) = ([⟨4, s, 1, 1⟩, e], (0, 0, 0))) := by
  have hl := quoteW_len s
  have hq : quoteL (quoteW s) = some (s, (quoteW s).length) := by
    unfold quoteL quoteW
    rw [List.drop_succ_cons, List.drop_zero, quoteG_back s [] 0 [] hc]
    simp only [List.nil_append, List.length_cons, List.length_append, List.length_nil, Option.some.injEq, Prod.mk.injEq, true_and]; omega
  have hsk : skipL (quoteW s) = 0 := by
    unfold skipL quoteW
    rw [skipG, if_neg (by decide), if_neg (by decide)]
  have hn : nextT (quoteW s) = if 256 < s.length then .inl 2 else .inr (4, s, (quoteW s).length) := by
    have : quoteW s = 34 :: (s.flatMap escW ++ [34]) := rfl
    rw [this, nextT, ← this, if_neg (by decide), if_neg (by decide), if_pos (by decide), hq]
  have hne : ¬ quoteW s = [] := by unfold quoteW; simp
  rw [lexL_F _ (by omega), lexF, hsk, List.drop_zero, List.take_zero, if_neg hne, hn]
  constructor
  · intro h
    rw [if_pos h]
    rfl
  · intro h
    rw [if_neg (by omega)]
    simp only
    rw [if_neg (by simp), List.drop_length]
    obtain ⟨k, hk⟩ : ∃ k, (quoteW s).length = k + 1 := ⟨(quoteW s).length - 1, by unfold quoteW; simp⟩
    rw [hk, lexF, if_pos (by simp)]
    exact ⟨_, rfl⟩
end Go.Proofs.YtbpedjkebemhnaaGreatDoor
