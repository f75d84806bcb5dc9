/- What codes read as in memory, and a writer of bytes. -/
import Derived.Test.YtpnggkkfoipfhaaBQ
import Derived.Test.YtpnggkkfoipfhaaWE
import Derived.Test.YtpnggkkfoipfhaaMS
set_option linter.unusedVariables false
namespace Go.Proofs.Ytpnggkkfoipfhaa
open Go.RowKit

def intsV (l : List Int) : List Value := l.map fun x => .int .i64 x
theorem intsV_length (l : List Int) : (intsV l).length = l.length := by simp [intsV]
theorem Is.open_ {w : World} {B : Nat} {v : Value} {l : List Int} (h : Sl w B 1 v (intsV l)) :
    ∃ (A : Option Addr) (c : Nat), v = .slice A l.length c ∧ l.length ≤ c ∧ c ≤ maxLen ∧
      (0 < l.length → ∃ b off, A = some ⟨b, off, none⟩ ∧ b < B ∧ ∀ (j : Nat) (hj : j < l.length), w.cell? ⟨b, off + j, none⟩ = some (.int .i64 l[j])) := by
  obtain ⟨A, n, c, rfl, hl, hn, hc, hx⟩ := h
  rw [intsV_length] at hl
  obtain rfl : l.length = n := by omega
  refine ⟨A, c, rfl, hn, hc, fun h0 => ?_⟩
  obtain ⟨b, off, hA, hb, hcell⟩ := hx h0
  exact ⟨b, off, hA, hb, fun j hj => hcell j _ (by simp [intsV, hj])⟩
/-- Cells of a struct list, k of them an element. -/
def needsV (l : List (Bt × Int)) : List Value := l.flatMap fun n => [sv n.1, .int .i64 n.2]
def instrsV (l : List (Int × Int × Int × Int)) : List Value := l.flatMap fun i => [.int .i64 i.1, .int .i64 i.2.1, .int .i64 i.2.2.1, .int .i64 i.2.2.2]
mutual
/-- Five cells read as a coercion. -/
inductive CoR (w : World) (B : Nat) : List Value → CoD → Prop
  | mk {vt vn vm vf vu : Value} {t : List Int} {n : List (Bt × Int)} {m : List Bt} {f u : List CoD} {xf xu : List Value} : Sl w B 1 vt (intsV t) → Sl w B 2 vn (needsV n) → Ss w B vm m →
      Sl w B 5 vf xf → CosR w B xf f → Sl w B 5 vu xu → CosR w B xu u → CoR w B [vt, vn, vm, vf, vu] (.mk t n m f u)
inductive CosR (w : World) (B : Nat) : List Value → List CoD → Prop
  | nil : CosR w B [] []
  | cons {x y : List Value} {c : CoD} {l : List CoD} : CoR w B x c → CosR w B y l → CosR w B (x ++ y) (c :: l)
end
mutual
theorem CoR.keep {w w' : World} {B : Nat} {x : List Value} {c : CoD} (h : CoR w B x c) (hb : Below B w w') : CoR w' B x c :=
  match h with
  | .mk h1 h2 h3 h4 h5 h6 h7 => .mk (h1.below hb) (h2.below hb) (Sl.below h3 hb) (h4.below hb) (h5.keep hb) (h6.below hb) (h7.keep hb)
theorem CosR.keep {w w' : World} {B : Nat} {x : List Value} {l : List CoD} (h : CosR w B x l) (hb : Below B w w') : CosR w' B x l :=
  match h with
  | .nil => .nil
  | .cons h1 h2 => .cons (h1.keep hb) (h2.keep hb)
end
theorem CoR.five {w : World} {B : Nat} {x : List Value} {c : CoD} (h : CoR w B x c) : x.length = 5 := by
  cases h; rfl
theorem CosR.length {w : World} {B : Nat} : ∀ {x : List Value} {l : List CoD}, CosR w B x l → x.length = l.length * 5
  | _, _, .nil => rfl
  | _, _, .cons h1 h2 => by
    have := h1.five
    have := CosR.length h2
    rw [List.length_append, List.length_cons]; omega
theorem CosR.at {w : World} {B : Nat} : ∀ {x : List Value} {l : List CoD}, CosR w B x l → ∀ (i : Nat) (hi : i < l.length), CoR w B ((x.drop (i * 5)).take 5) l[i]
  | _, _, .nil, i, hi => by simp at hi
  | _, _, .cons (x := x) (y := y) h1 h2, i, hi => by
    have h5 := h1.five
    rcases i with _ | i
    · rw [Nat.zero_mul, List.drop_zero, ← h5, List.take_left]; exact h1
    · have : (x ++ y).drop ((i + 1) * 5) = y.drop (i * 5) := by
        rw [show (i + 1) * 5 = x.length + i * 5 by omega, ← List.drop_drop, List.drop_left]
      rw [this]
      exact CosR.at h2 i (by simpa using hi)
/-- A list of lists of texts: cells that each read as texts. -/
def ShapesR (w : World) (B : Nat) (x : List Value) (l : List (List Bt)) : Prop := x.length = l.length ∧ ∀ (i : Nat) (hi : i < l.length), ∃ v, x[i]? = some v ∧ Ss w B v l[i]
/-- A list of functions: three cells each. -/
def ProcsR (w : World) (B : Nat) (x : List Value) (l : List ProcD) : Prop := x.length = l.length * 3 ∧ ∀ (i : Nat) (hi : i < l.length), ∃ v, (x.drop (i * 3)).take 3 = [.int .i64 l[i].caps, .int .i64 l[i].regs, v] ∧ Sl w B 4 v (instrsV l[i].code)
/-- A code's seven cells. -/
def CodeR (w : World) (B : Nat) (x : List Value) (c : CodeD) : Prop :=
  ∃ vi vs vh vc vp xh xc xp, x = [vi, vs, vh, vc, vp, .int .i64 c.main, .bool c.merge] ∧ Sl w B 1 vi (intsV c.ints) ∧ Ss w B vs c.strs ∧ Sl w B 1 vh xh ∧ ShapesR w B xh c.shapes ∧ Sl w B 5 vc xc ∧ CosR w B xc c.cos ∧ Sl w B 3 vp xp ∧ ProcsR w B xp c.procs

/-- A writer: its block holds a row of its own that reads as these bytes; all lies in the blocks of F. -/
def WrAt (w : World) (base : Nat) (F : Nat → Prop) (bw : Nat) (b : Bt) : Prop :=
  ∃ v, w.heap[bw]? = some (.cells #[v] 50 (0, 0)) ∧ F bw ∧ OwnB w 0 5 v b ∧ (∀ g, v.ownBlock = some g → F g ∧ g ≠ bw) ∧ ∀ k, F k → base ≤ k ∧ k < w.heap.size
/-- A writer has got more bytes; nothing has turned but its blocks, and those are the old ones or new ones. -/
def WrTo (base : Nat) (F : Nat → Prop) (bw : Nat) (w w' : World) (b' : Bt) : Prop := ∃ F', WrAt w' base F' bw b' ∧ Turn F w w' ∧ ∀ k, F' k → F k ∨ w.heap.size ≤ k
theorem WrTo.refl {base : Nat} {F : Nat → Prop} {bw : Nat} {w : World} {b : Bt} (h : WrAt w base F bw b) : WrTo base F bw w w b := ⟨F, h, Turn.refl _ _, fun k h => .inl h⟩
theorem WrTo.trans {base : Nat} {F : Nat → Prop} {bw : Nat} {w w1 w2 : World} {b1 b2 : Bt} (h : WrTo base F bw w w1 b1) (k : ∀ F1, WrAt w1 base F1 bw b1 → WrTo base F1 bw w1 w2 b2) : WrTo base F bw w w2 b2 := by
  obtain ⟨F1, h1, h2, h3⟩ := h
  obtain ⟨F2, k1, k2, k3⟩ := k F1 h1
  refine ⟨F2, k1, h2.trans k2 (fun i hi hF => (h3 i hF).elim id (fun h => absurd h (by omega))), fun j hj => ?_⟩
  rcases k3 j hj with h | h
  · exact h3 j h
  · exact .inr (Nat.le_trans h2.size h)
theorem WrAt.turn {w w' : World} {base : Nat} {F G : Nat → Prop} {bw : Nat} {b : Bt} (h : WrAt w base F bw b) (t : Turn G w w') (hd : ∀ k, F k → ¬ G k) : WrAt w' base F bw b := by
  obtain ⟨v, h1, h2, h3, h4, h5⟩ := h
  obtain ⟨n, h3⟩ := h3
  exact ⟨v, block_turn h1 t (hd _ h2), h2, ⟨n, own_turn h3 t (fun g hg => hd _ (h4 g hg).1)⟩, h4, fun k hk => ⟨(h5 k hk).1, Nat.lt_of_lt_of_le (h5 k hk).2 t.size⟩⟩
theorem WrAt.below {w w' : World} {base : Nat} {F : Nat → Prop} {bw : Nat} {b : Bt} (h : WrAt w base F bw b) (hb : Below w.heap.size w w') : WrAt w' base F bw b :=
  h.turn (Turn.of_below (F := fun _ => False) hb) (fun _ _ h => h)
theorem WrTo.first {base : Nat} {F : Nat → Prop} {bw : Nat} {w w1 w2 : World} {b2 : Bt} (hb : Below w.heap.size w w1) (k : WrTo base F bw w1 w2 b2) : WrTo base F bw w w2 b2 := by
  obtain ⟨F2, k1, k2, k3⟩ := k
  exact ⟨F2, k1, (Turn.of_below hb).trans k2 (fun _ _ h => h), fun j hj => (k3 j hj).imp id (fun h => Nat.le_trans hb.size h)⟩
theorem WrTo.last {base : Nat} {F : Nat → Prop} {bw : Nat} {w w1 w2 : World} {b1 : Bt} (h : WrTo base F bw w w1 b1) (hb : Below w1.heap.size w1 w2) : WrTo base F bw w w2 b1 := by
  obtain ⟨F1, h1, h2, h3⟩ := h
  exact ⟨F1, h1.below hb, h2.trans (Turn.of_below (F := F) hb) (fun _ _ h => h), h3⟩
theorem WrAt.base {w : World} {base : Nat} {F : Nat → Prop} {bw : Nat} {b : Bt} (h : WrAt w base F bw b) : base ≤ w.heap.size := by
  obtain ⟨v, h1, h2, h3, h4, h5⟩ := h
  have := h5 bw h2
  omega
theorem WrTo.bel {base : Nat} {F : Nat → Prop} {bw : Nat} {w w' : World} {b b' : Bt} (h : WrAt w base F bw b) (k : WrTo base F bw w w' b') : Below base w w' := by
  have hb := h.base
  obtain ⟨v, h1, h2, h3, h4, h5⟩ := h
  obtain ⟨F2, k1, k2, k3⟩ := k
  exact k2.below hb (fun i hi hF => by have := (h5 i hF).1; omega)
end Go.Proofs.Ytpnggkkfoipfhaa
