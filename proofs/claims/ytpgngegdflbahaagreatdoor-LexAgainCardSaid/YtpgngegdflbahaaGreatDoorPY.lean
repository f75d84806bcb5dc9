/- Tokens, in plain Lean: what stands at the beginning of a text, and a text's tokens. -/
import Derived.Test.YtpgngegdflbahaaGreatDoorPX
set_option linter.unusedVariables false
namespace Go.Proofs.YtpgngegdflbahaaGreatDoor

def wordsL : List Bt := [[97, 110, 100],
  [97, 110, 121],
  [97, 115],
  [98, 111, 111, 108],
  [101, 108, 115, 101],
  [101, 120, 112, 111, 114, 116],
  [102, 97, 108, 115, 101],
  [102, 110],
  [102, 117, 110, 99, 116, 105, 111, 110],
  [105, 102],
  [105, 109, 112, 111, 114, 116],
  [105, 110],
  [105, 110, 116],
  [105, 115],
  [108, 101, 116],
  [110, 111, 116],
  [110, 117, 108, 108],
  [111, 114],
  [112, 114, 105, 110, 116],
  [114, 101, 97, 100],
  [114, 101, 99, 111, 114, 100],
  [115, 116, 114],
  [116, 104, 101, 110],
  [116, 114, 117, 101],
  [119, 105, 116, 104]]
def pairsL : List Bt := [[45, 62], [61, 62], [60, 58], [60, 60], [60, 61], [62, 62], [61, 61], [43, 43]]
def singlesL : Bt := [40, 41, 123, 125, 91, 93, 44, 58, 59, 61, 43, 45, 42, 47, 37, 38, 94, 60, 124, 46]
/-- What may be a name. -/
def nameL (s : Bt) : Bool := match s with
  | [] => false
  | c :: r => decide ((c :: r).length ≤ 32) && letterB c && decide (rowL innerB (c :: r) = (c :: r).length) && !decide ((c :: r) ∈ wordsL)
/-- The token that a text begins with: an error, or its kind, its text, how long it is. -/
def nextT (s : Bt) : Int ⊕ (Int × Bt × Nat) :=
  match s with
  | [] => .inl 5
  | c :: r =>
    if letterB c then
      (if 32 < rowL innerB (c :: r) then .inl 2 else if (c :: r).take (rowL innerB (c :: r)) ∈ wordsL then .inr (2, (c :: r).take (rowL innerB (c :: r)), rowL innerB (c :: r)) else .inr (1, (c :: r).take (rowL innerB (c :: r)), rowL innerB (c :: r)))
    else if digitB c then
      (if (parseV ((c :: r).take (rowL digitB (c :: r)))).2 then .inr (3, (c :: r).take (rowL digitB (c :: r)), rowL digitB (c :: r)) else .inl 3)
    else if c.toNat = 34 then
      (match quoteL (c :: r) with
        | none => .inl 4
        | some (t, n) => if 256 < t.length then .inl 2 else .inr (4, t, n))
    else if (c :: r).take 2 ∈ pairsL then .inr (5, (c :: r).take 2, 2)
    else if c ∈ singlesL then .inr (5, [c], 1) else .inl 5
structure TokD where
  kind : Int
  text : Bt
  line : Nat
  col : Nat
/-- The tokens from some place on, or the fault. -/
def lexF : Nat → Bt → Nat × Nat → List TokD → List TokD × (Nat × Nat × Int)
  | 0, _, _, _ => ([], (0, 0, 0))
  | f + 1, s, p, out =>
    if s.drop (skipL s) = [] then (out ++ [⟨0, [], (advL p (s.take (skipL s))).1, (advL p (s.take (skipL s))).2⟩], (0, 0, 0)) else
    match nextT (s.drop (skipL s)) with
    | .inl e => ([], ((advL p (s.take (skipL s))).1, (advL p (s.take (skipL s))).2, e))
    | .inr (kd, t, n) =>
      if out.length = 8192 then ([], ((advL p (s.take (skipL s))).1, (advL p (s.take (skipL s))).2, 19)) else
      lexF f ((s.drop (skipL s)).drop n) (advL (advL p (s.take (skipL s))) ((s.drop (skipL s)).take n)) (out ++ [⟨kd, t, (advL p (s.take (skipL s))).1, (advL p (s.take (skipL s))).2⟩])
def lexL (s : Bt) : List TokD × (Nat × Nat × Int) := if 65536 < s.length then ([], (1, 1, 2)) else lexF (s.length + 1) s (1, 1) []
theorem rowL_pos {p : UInt8 → Bool} {c : UInt8} {s : Bt} (h : p c = true) : 1 ≤ rowL p (c :: s) := by
  rw [rowL_cons, if_pos h]; omega
/-- A token has a byte at least, and no more than there are. -/
theorem nextT_le {s : Bt} {kd : Int} {t : Bt} {n : Nat} (h : nextT s = .inr (kd, t, n)) : 1 ≤ n ∧ n ≤ s.length := by
  cases s with
  | nil => simp [nextT] at h
  | cons c r =>
    rw [nextT] at h
    split at h
    · rename_i hl
      have hi : innerB c = true := by unfold innerB; rw [hl]; rfl
      have h1 := rowL_pos (s := r) hi
      have h2 := rowL_le innerB (c :: r)
      split at h
      · cases h
      · split at h
        · injection h with h; simp only [Prod.mk.injEq] at h; omega
        · injection h with h; simp only [Prod.mk.injEq] at h; omega
    · split at h
      · rename_i hd
        have h1 := rowL_pos (s := r) hd
        have h2 := rowL_le digitB (c :: r)
        split at h
        · injection h with h; simp only [Prod.mk.injEq] at h; omega
        · cases h
      · split at h
        · split at h
          · cases h
          · rename_i t' n' hq
            have := quoteG_le hq
            split at h
            · cases h
            · injection h with h; simp only [Prod.mk.injEq] at h
              simp only [List.drop_succ_cons, List.drop_zero] at this
              simp only [List.length_cons]; omega
        · split at h
          · rename_i hp
            injection h with h; simp only [Prod.mk.injEq] at h
            have h2 : ((c :: r).take 2).length = 2 := by
              have hall : ∀ m ∈ pairsL, m.length = 2 := by decide
              exact hall _ hp
            rw [List.length_take] at h2
            simp only [List.length_cons] at h2 ⊢; omega
          · split at h
            · injection h with h; simp only [Prod.mk.injEq] at h
              simp only [List.length_cons]; omega
            · cases h
theorem nextT_err {s : Bt} {e : Int} (h : nextT s = .inl e) : e ≠ 0 := by
  cases s with
  | nil => simp [nextT] at h; omega
  | cons c r =>
    rw [nextT] at h
    repeat' split at h
    all_goals first | (injection h with h; omega) | cases h
end Go.Proofs.YtpgngegdflbahaaGreatDoor
