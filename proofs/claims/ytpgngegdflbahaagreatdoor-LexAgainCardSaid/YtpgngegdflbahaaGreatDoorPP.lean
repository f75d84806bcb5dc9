/- Where a text's tokens stand. -/
import Derived.Test.YtpgngegdflbahaaGreatDoorPY
set_option linter.unusedVariables false
namespace Go.Proofs.YtpgngegdflbahaaGreatDoor

/-- Where one stands behind so many bytes of a text. -/
def posL (text : Bt) (a : Nat) : Nat × Nat := advL (1, 1) (text.take a)
theorem posL_add (text : Bt) (a k : Nat) : posL text (a + k) = advL (posL text a) ((text.drop a).take k) := by
  unfold posL
  rw [List.take_add, advL_append]
/-- Each token but a string stands in the text at its place. -/
inductive Placed (text : Bt) : Nat → List TokD → Prop where
  | done (a : Nat) : a ≤ text.length → Placed text a [⟨0, [], (posL text text.length).1, (posL text text.length).2⟩]
  | next (a b n : Nat) (t : TokD) (l : List TokD) : a ≤ b → posL text b = (t.line, t.col) → (t.kind ≠ 4 → t.text = (text.drop b).take n) → t.kind ≠ 0 → 1 ≤ n → b + n ≤ text.length → Placed text (b + n) l → Placed text a (t :: l)
theorem nextT_text {s : Bt} {kd : Int} {t : Bt} {n : Nat} (h : nextT s = .inr (kd, t, n)) : (kd ≠ 4 → t = s.take n) ∧ kd ≠ 0 := by
  cases s with
  | nil => simp [nextT] at h
  | cons c r =>
    rw [nextT] at h
    repeat' split at h
    all_goals cases h
    all_goals first | exact ⟨fun _ => rfl, by decide⟩ | exact ⟨fun hk => absurd rfl hk, by decide⟩
theorem lexF_places (text : Bt) : ∀ (f : Nat) (a : Nat) (out : List TokD), a ≤ text.length → (lexF f (text.drop a) (posL text a) out).1 = [] ∨ ∃ l, (lexF f (text.drop a) (posL text a) out).1 = out ++ l ∧ Placed text a l
  | 0, a, out, ha => .inl rfl
  | f + 1, a, out, ha => by
    have hsk := skipG_le false (text.drop a)
    have hsk' : skipL (text.drop a) ≤ text.length - a := by rw [List.length_drop] at hsk; exact hsk
    rw [lexF, ← posL_add, List.drop_drop]
    generalize hk : skipL (text.drop a) = k at *
    split
    · rename_i hnil
      have hle : text.length ≤ a + k := by simpa using hnil
      have he : a + k = text.length := by omega
      rw [he]
      exact .inr ⟨_, rfl, .done a ha⟩
    · split
      · exact .inl rfl
      · rename_i kd t n hn
        split
        · exact .inl rfl
        · obtain ⟨n1, n2⟩ := nextT_le hn
          obtain ⟨e1, e2⟩ := nextT_text hn
          rw [List.length_drop] at n2
          rw [List.drop_drop, ← posL_add]
          rcases lexF_places text f (a + k + n) (out ++ [⟨kd, t, (posL text (a + k)).1, (posL text (a + k)).2⟩]) (by omega) with h | ⟨l, h1, h2⟩
          · exact .inl h
          · exact .inr ⟨⟨kd, t, (posL text (a + k)).1, (posL text (a + k)).2⟩ :: l, by rw [h1]; simp, .next a (a + k) n _ l (by omega) rfl e1 e2 n1 (by omega) h2⟩
/-- With fuel enough: a fault, or tokens that stand in the text. -/
theorem lexF_sure (text : Bt) : ∀ (f : Nat) (a : Nat) (out : List TokD), a ≤ text.length → text.length - a < f → ((lexF f (text.drop a) (posL text a) out).1 = [] ∧ (lexF f (text.drop a) (posL text a) out).2.2.2 ≠ 0) ∨
    ∃ l, lexF f (text.drop a) (posL text a) out = (out ++ l, (0, 0, 0)) ∧ Placed text a l
  | 0, a, out, ha, hf => by omega
  | f + 1, a, out, ha, hf => by
    have hsk := skipG_le false (text.drop a)
    have hsk' : skipL (text.drop a) ≤ text.length - a := by rw [List.length_drop] at hsk; exact hsk
    rw [lexF, ← posL_add, List.drop_drop]
    generalize hk : skipL (text.drop a) = k at *
    split
    · rename_i hnil
      have hle : text.length ≤ a + k := by simpa using hnil
      have he : a + k = text.length := by omega
      rw [he]
      exact .inr ⟨_, rfl, .done a ha⟩
    · split
      · rename_i e hn
        exact .inl ⟨rfl, nextT_err hn⟩
      · rename_i kd t n hn
        split
        · exact .inl ⟨rfl, by show (19 : Int) ≠ 0; decide⟩
        · obtain ⟨n1, n2⟩ := nextT_le hn
          obtain ⟨e1, e2⟩ := nextT_text hn
          rw [List.length_drop] at n2
          rw [List.drop_drop, ← posL_add]
          rcases lexF_sure text f (a + k + n) (out ++ [⟨kd, t, (posL text (a + k)).1, (posL text (a + k)).2⟩]) (by omega) (by omega) with h | ⟨l, h1, h2⟩
          · exact .inl h
          · exact .inr ⟨⟨kd, t, (posL text (a + k)).1, (posL text (a + k)).2⟩ :: l, by rw [h1]; simp, .next a (a + k) n _ l (by omega) rfl e1 e2 n1 (by omega) h2⟩
/-- Places rise. -/
def before (p q : Nat × Nat) : Prop := p.1 < q.1 ∨ (p.1 = q.1 ∧ p.2 < q.2)
theorem before_adv (p : Nat × Nat) (c : UInt8) : before p (advB p c) := by
  unfold before advB
  split
  · left; show p.1 < p.1 + 1; omega
  · right; exact ⟨rfl, by show p.2 < p.2 + 1; omega⟩
theorem before_trans {p q r : Nat × Nat} (h1 : before p q) (h2 : before q r) : before p r := by
  unfold before at *; omega
theorem posL_rises (text : Bt) {a b : Nat} (h : a < b) (hb : b ≤ text.length) : before (posL text a) (posL text b) := by
  induction b with
  | zero => omega
  | succ b ih =>
    have hlt : b < text.length := by omega
    have e : posL text (b + 1) = advB (posL text b) text[b] := advL_take hlt
    rw [e]
    rcases Nat.lt_or_ge a b with h1 | h1
    · exact before_trans (ih h1 (by omega)) (before_adv _ _)
    · obtain rfl : a = b := by omega
      exact before_adv _ _
end Go.Proofs.YtpgngegdflbahaaGreatDoor
