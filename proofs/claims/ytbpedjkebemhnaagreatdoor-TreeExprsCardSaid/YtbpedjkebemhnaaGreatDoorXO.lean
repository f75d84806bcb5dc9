/- The cells of a row of tokens (these lemmas stand in XP and XU as well, for the seats that were handed in before). -/
import Derived.Test.YtbpedjkebemhnaaGreatDoorGG
import Derived.Test.YtbpedjkebemhnaaGreatDoorGB
set_option linter.unusedVariables false
namespace Go.Proofs.YtbpedjkebemhnaaGreatDoor
open Go.RowKit

theorem tok_cells {w : World} {base n : Nat} {g c : Nat} {l : List TokD} (h : w.ownsRow base 55 4 (.slice (some ⟨g, 0, none⟩) n c) n (tokCells l)) {i : Nat} (hi : i < l.length) :
    w.cell? ⟨g, i * 4, none⟩ = some (.int .i64 l[i].kind) ∧ w.cell? ⟨g, i * 4 + 1, none⟩ = some (sv l[i].text) ∧ w.cell? ⟨g, i * 4 + 2, none⟩ = some (.int .i64 (l[i].line : Nat)) ∧ w.cell? ⟨g, i * 4 + 3, none⟩ = some (.int .i64 (l[i].col : Nat)) := by
  have hc := h.cells (g := g) rfl
  have key : ∀ (l : List TokD) (i : Nat) (hi : i < l.length), (tokCells l)[i * 4]? = some (.int .i64 l[i].kind) ∧ (tokCells l)[i * 4 + 1]? = some (sv l[i].text) ∧ (tokCells l)[i * 4 + 2]? = some (.int .i64 (l[i].line : Nat)) ∧ (tokCells l)[i * 4 + 3]? = some (.int .i64 (l[i].col : Nat)) := by
    intro l
    induction l with
    | nil => intro i hi; simp at hi
    | cons t l ih =>
      intro i hi
      have e : tokCells (t :: l) = tokV t ++ tokCells l := rfl
      have hl : (tokV t).length = 4 := rfl
      rw [e]
      rcases i with _ | i
      · exact ⟨rfl, rfl, rfl, rfl⟩
      · obtain ⟨a, b, c, d⟩ := ih i (by simpa using hi)
        rw [show (i + 1) * 4 = i * 4 + 4 from by omega]
        refine ⟨?_, ?_, ?_, ?_⟩
        · rw [List.getElem?_append_right (by omega), hl]; simpa using a
        · rw [List.getElem?_append_right (by omega), hl, show i * 4 + 4 + 1 - 4 = i * 4 + 1 from by omega]; simpa using b
        · rw [List.getElem?_append_right (by omega), hl, show i * 4 + 4 + 2 - 4 = i * 4 + 2 from by omega]; simpa using c
        · rw [List.getElem?_append_right (by omega), hl, show i * 4 + 4 + 3 - 4 = i * 4 + 3 from by omega]; simpa using d
  obtain ⟨a, b, c', d⟩ := key l i hi
  have h1 := hc _ _ a
  have h2 := hc _ _ b
  have h3 := hc _ _ c'
  have h4 := hc _ _ d
  rw [plain_add, Nat.zero_add] at h1 h2 h3 h4
  exact ⟨h1, h2, h3, h4⟩
theorem lexL_sure (s : Bt) (h : s.length ≤ 65536) : ((lexL s).1 = [] ∧ (lexL s).2.2.2 ≠ 0) ∨ ∃ l, lexL s = (l, (0, 0, 0)) ∧ Placed s 0 l := by
  have e : lexL s = lexF (s.length + 1) (s.drop 0) (posL s 0) [] := by unfold lexL; rw [if_neg (by omega)]; rfl
  rw [e]
  rcases lexF_sure s (s.length + 1) 0 [] (Nat.zero_le _) (by omega) with h | ⟨l, h1, h2⟩
  · exact .inl h
  · exact .inr ⟨l, by rw [h1]; simp, h2⟩
theorem own_slice {w : World} {base : Nat} {e : TypeId} {k n : Nat} {v : Value} {xs : List Value} (h : w.ownsRow base e k v n xs) : ∃ A c, v = .slice A n c ∧ n ≤ maxLen := by
  rcases h.2 with ⟨rfl, rfl⟩ | ⟨g, cap, cur, rfl, hg, hb, hn, hm, r⟩
  · exact ⟨none, 0, rfl, Nat.zero_le _⟩
  · exact ⟨_, cap, rfl, Nat.le_trans hn hm⟩
end Go.Proofs.YtbpedjkebemhnaaGreatDoor
