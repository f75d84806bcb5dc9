/- Lex's own state in memory, and what a round of it keeps. -/
import Derived.Test.YtpgngegdflbahaaGreatDoorXI
set_option linter.unusedVariables false
namespace Go.Proofs.YtpgngegdflbahaaGreatDoor
open Go.RowKit

def tokV (t : TokD) : List Value := [.int .i64 t.kind, sv t.text, .int .i64 (t.line : Nat), .int .i64 (t.col : Nat)]
def tokCells (l : List TokD) : List Value := l.flatMap tokV
theorem tokCells_length (l : List TokD) : (tokCells l).length = l.length * 4 := by
  induction l with
  | nil => rfl
  | cons t l ih =>
    have h : tokCells (t :: l) = tokV t ++ tokCells l := rfl
    rw [h, List.length_append, ih, List.length_cons]
    have : (tokV t).length = 4 := rfl
    omega
theorem tokCells_snoc (l : List TokD) (t : TokD) : tokCells (l ++ [t]) = tokCells l ++ tokV t := by
  unfold tokCells; rw [List.flatMap_append]; simp
theorem el_tok : ElemIs Tryz.prog 24 31 (.agg #[.int .i64 0, sv [], .int .i64 0, .int .i64 0]) 4 40 := ⟨Tryz.underlying24, by kernel_rfl, rfl, by decide⟩
/-- The tokens from behind the blanks on. -/
def lexB (f : Nat) (s1 : Bt) (p1 : Nat × Nat) (out : List TokD) : List TokD × (Nat × Nat × Int) :=
  if s1 = [] then (out ++ [⟨0, [], p1.1, p1.2⟩], (0, 0, 0)) else
  match nextT s1 with
  | .inl e => ([], (p1.1, p1.2, e))
  | .inr (kd, t, n) => if out.length = 8192 then ([], (p1.1, p1.2, 19)) else lexF f (s1.drop n) (advL p1 (s1.take n)) (out ++ [⟨kd, t, p1.1, p1.2⟩])
theorem lexF_succ (f : Nat) (s : Bt) (p : Nat × Nat) (out : List TokD) : lexF (f + 1) s p out = lexB f (s.drop (skipL s)) (advL p (s.take (skipL s))) out := rfl
/-- What a round keeps: where all lies, and that the tokens to come with those at hand are the answer. -/
structure LexR (base bd bl bp N : Nat) (ans : List TokD × (Nat × Nat × Int)) (wr : World) (f : Nat) (s1 : Bt) (p1 : Nat × Nat) (outv : Value) (out : List TokD) : Prop where
  diag : wr.heap[bd]? = some (.cells #[.int .i64 0, .int .i64 0, .int .i64 0, .int .i64 0] 27 (0, 0))
  lex : LexAt wr bl bp s1 p1 outv
  pairs : PairsAt wr bp pairsL
  row : wr.ownsRow 0 31 4 outv out.length (tokCells out)
  fuel : s1.length ≤ f
  eq : lexB f s1 p1 out = ans
  b1 : p1.1 + s1.length ≤ N
  b2 : p1.2 + s1.length ≤ N
  b3 : 1 ≤ p1.2
  outl : out.length ≤ 8192
  hd : base ≤ bd
  hl : base ≤ bl
  hp : base ≤ bp
  dl : bd ≠ bl
  dp : bd ≠ bp
  lp : bl ≠ bp
  fo : ∀ g, outv.ownBlock = some g → base ≤ g ∧ g ≠ bd ∧ g ≠ bl ∧ g ≠ bp
theorem LexR.below {base bd bl bp N : Nat} {ans : List TokD × (Nat × Nat × Int)} {w w' : World} {f : Nat} {s1 : Bt} {p1 : Nat × Nat} {outv : Value} {out : List TokD} (h : LexR base bd bl bp N ans w f s1 p1 outv out) (hb : Below w.heap.size w w') : LexR base bd bl bp N ans w' f s1 p1 outv out :=
  { h with
    diag := block_turn h.diag (Turn.of_below (F := fun _ => False) hb) id
    lex := h.lex.turn (Turn.of_below (F := fun _ => False) hb) id
    pairs := h.pairs.turn (Turn.of_below (F := fun _ => False) hb) id
    row := own_below h.row hb }
/-- A token has been put behind the others, the bytes of it passed over, and the blanks behind it. -/
theorem LexR.next {base bd bl bp N : Nat} {ans : List TokD × (Nat × Nat × Int)} {w w' : World} {f : Nat} {s1 : Bt} {p1 : Nat × Nat} {outv outv' : Value} {out : List TokD} (h : LexR base bd bl bp N ans w f s1 p1 outv out)
    {kd : Int} {t : Bt} {n : Nat} (hn : nextT s1 = .inr (kd, t, n)) (ho : out.length ≠ 8192)
    (hrow : w'.ownsRow 0 31 4 outv' (out.length + 1) (tokCells out ++ tokV ⟨kd, t, p1.1, p1.2⟩)) (hfo : ∀ g, outv'.ownBlock = some g → base ≤ g ∧ g ≠ bd ∧ g ≠ bl ∧ g ≠ bp)
    (hdiag : w'.heap[bd]? = some (.cells #[.int .i64 0, .int .i64 0, .int .i64 0, .int .i64 0] 27 (0, 0))) (hpairs : PairsAt w' bp pairsL)
    (hlex : LexAt w' bl bp ((s1.drop n).drop (skipL (s1.drop n))) (advL (advL p1 (s1.take n)) ((s1.drop n).take (skipL (s1.drop n)))) outv') :
    ∃ f' s2 p2 out', LexR base bd bl bp N ans w' f' s2 p2 outv' out' ∧ s2.length < s1.length := by
  obtain ⟨n1, n2⟩ := nextT_le hn
  have hne : s1 ≠ [] := by intro e; subst e; simp at n2; omega
  have hf := h.fuel
  obtain ⟨f', rfl⟩ : ∃ f', f = f' + 1 := ⟨f - 1, by omega⟩
  have heq := h.eq
  unfold lexB at heq
  rw [if_neg hne, hn] at heq
  simp only at heq
  rw [if_neg ho, lexF_succ] at heq
  have l1 := advL_le2 (s1.take n) h.b3
  rw [List.length_take, Nat.min_eq_left n2] at l1
  have hsk := skipG_le false (s1.drop n)
  have hsk' : skipL (s1.drop n) ≤ s1.length - n := by rw [List.length_drop] at hsk; exact hsk
  have l2 := advL_le2 ((s1.drop n).take (skipL (s1.drop n))) l1.2.2
  have hb1 := h.b1
  have hb2 := h.b2
  have hol := h.outl
  have ht : ((s1.drop n).take (skipL (s1.drop n))).length = skipL (s1.drop n) := by rw [List.length_take, List.length_drop]; omega
  rw [ht] at l2
  have hlen : ((s1.drop n).drop (skipL (s1.drop n))).length = s1.length - n - skipL (s1.drop n) := by rw [List.length_drop, List.length_drop]
  refine ⟨f', _, _, out ++ [⟨kd, t, p1.1, p1.2⟩], ⟨hdiag, hlex, hpairs, ?_, by rw [hlen]; omega, heq, by rw [hlen]; omega, by rw [hlen]; omega, l2.2.2, by simp; omega, h.hd, h.hl, h.hp, h.dl, h.dp, h.lp, hfo⟩, by rw [hlen]; omega⟩
  rw [tokCells_snoc, List.length_append]
  exact hrow
end Go.Proofs.YtpgngegdflbahaaGreatDoor
