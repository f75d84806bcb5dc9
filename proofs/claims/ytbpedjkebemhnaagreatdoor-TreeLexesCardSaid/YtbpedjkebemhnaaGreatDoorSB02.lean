/- ZA, ZB, GC -/
import Derived.Test.YtbpedjkebemhnaaGreatDoorSB01
import Derived.Maps.OwnSet
import Derived.ProofKit
import Derived.OpenShut
import Derived.SliceStrings
import Derived.SizedLaws
import Derived.Deep.RegionLaw
import Derived.Deep.RegionHeld
set_option linter.unusedSimpArgs false
set_option linter.unusedVariables false
section
/- Texts that are written token by token: what is read of them. -/
set_option linter.unusedVariables false
namespace Go.Proofs.YtbpedjkebemhnaaGreatDoor

/-- May this stand right behind a token? -/
def Sep (x : Int × Bt) (r : Bt) : Prop := match r with
  | [] => True
  | d :: _ => x.1 = 4 ∨ (x.1 = 5 ∧ (x.2.length = 2 ∨ [x.2.headD 0, d] ∉ pairsL)) ∨ innerB d = false ∧ x.1 ≠ 5
theorem inner_digit {d : UInt8} (h : innerB d = false) : digitB d = false := by
  unfold innerB at h
  rw [Bool.or_eq_false_iff] at h
  exact h.2
/-- A token is read as it is, whatever may stand behind it. -/
theorem nextT_sep {s : Bt} {kd : Int} {t : Bt} {d : UInt8} (x : Bt) (h : nextT s = .inr (kd, t, s.length)) (hd : Sep (kd, t) (d :: x)) : nextT (s ++ d :: x) = .inr (kd, t, s.length) := by
  cases s with
  | nil => simp [nextT] at h
  | cons c r =>
    have hri := rowL_le innerB (c :: r)
    have hrd := rowL_le digitB (c :: r)
    rw [nextT] at h
    rw [List.cons_append, nextT, ← List.cons_append]
    split at h
    · rename_i hl
      rw [if_pos hl]
      have hi : innerB d = false := by
        rcases hd with hd | hd | hd
        · simp only at hd
          repeat' split at h
          all_goals first | cases h; done | (injection h with h; simp only [Prod.mk.injEq] at h; omega)
        · have hd := hd.1
          simp only at hd
          repeat' split at h
          all_goals first | cases h; done | (injection h with h; simp only [Prod.mk.injEq] at h; omega)
        · exact hd.1
      rw [rowL_stop hi, List.take_append_of_le_length hri]; exact h
    · rename_i hl
      rw [if_neg hl]
      split at h
      · rename_i hg
        rw [if_pos hg]
        have hi : digitB d = false := by
          rcases hd with hd | hd | hd
          · simp only at hd
            repeat' split at h
            all_goals first | cases h; done | (injection h with h; simp only [Prod.mk.injEq] at h; omega)
          · have hd := hd.1
            simp only at hd
            repeat' split at h
            all_goals first | cases h; done | (injection h with h; simp only [Prod.mk.injEq] at h; omega)
          · exact inner_digit hd.1
        rw [rowL_stop hi, List.take_append_of_le_length hrd]; exact h
      · rename_i hg
        rw [if_neg hg]
        split at h
        · rename_i h34
          rw [if_pos h34]
          split at h
          · cases h
          · rename_i t' n' hq
            have hq' : quoteL (c :: r ++ d :: x) = some (t', n') := by
              unfold quoteL at hq ⊢
              simp only [List.cons_append, List.drop_succ_cons, List.drop_zero] at hq ⊢
              exact quoteG_more hq _
            rw [hq']
            exact h
        · rename_i h34
          rw [if_neg h34]
          split at h
          · rename_i hp
            injection h with h
            simp only [Prod.mk.injEq] at h
            obtain ⟨h1, h2, h3⟩ := h
            have : (c :: r ++ d :: x).take 2 = (c :: r).take 2 := List.take_append_of_le_length (by omega)
            rw [this, if_pos hp, h1, h2, h3]
          · rename_i hp
            split at h
            · rename_i hs
              injection h with h
              simp only [Prod.mk.injEq] at h
              obtain ⟨h1, h2, h3⟩ := h
              have hr : r = [] := List.eq_nil_of_length_eq_zero (by simp only [List.length_cons] at h3; omega)
              subst hr
              have hn : [c, d] ∉ pairsL := by
                rcases hd with hd | hd | hd
                · simp only at hd; omega
                · rcases hd.2 with hd2 | hd2
                  · rw [← h2] at hd2; simp at hd2
                  · rw [← h2] at hd2; simpa using hd2
                · exact absurd h1.symm (by have := hd.2; simpa using this)
              rw [if_neg (show ¬ (([c] ++ d :: x : Bt).take 2 ∈ pairsL) from hn), if_pos hs]
              subst h1 h2
              rfl
            · cases h
/-- A piece of a text: a token, a blank, a line's end. -/
inductive Pc where
  | tok (k : Int) (t : Bt) : Pc
  | sp : Pc
  | nl : Pc
def Pc.text : Pc → Bt
  | .tok k t => writeT (k, t)
  | .sp => [32]
  | .nl => [10]
def Pc.isTok : Pc → Option (Int × Bt)
  | .tok k t => some (k, t)
  | _ => none
def textP (l : List Pc) : Bt := l.flatMap Pc.text
def toksP (l : List Pc) : List (Int × Bt) := l.filterMap Pc.isTok
theorem textP_nil : textP [] = [] := rfl
theorem textP_cons (p : Pc) (l : List Pc) : textP (p :: l) = p.text ++ textP l := by unfold textP; rw [List.flatMap_cons]
theorem textP_append (a b : List Pc) : textP (a ++ b) = textP a ++ textP b := by unfold textP; rw [List.flatMap_append]
theorem toksP_append (a b : List Pc) : toksP (a ++ b) = toksP a ++ toksP b := by unfold toksP; rw [List.filterMap_append]
theorem toksP_cons (p : Pc) (l : List Pc) : toksP (p :: l) = (match p.isTok with | some x => [x] | none => []) ++ toksP l := by
  unfold toksP
  rw [List.filterMap_cons]
  cases p.isTok <;> rfl
/-- Each token is read of what is written of it, and what stands behind it may stand there. -/
def OkP : List Pc → Prop
  | [] => True
  | .tok k t :: l => Good (k, t) ∧ Sep (k, t) (textP l) ∧ OkP l
  | _ :: l => OkP l
theorem good_head {x : Int × Bt} (h : Good x) : ∃ c r, writeT x = c :: r := by
  unfold Good at h
  cases hw : writeT x with
  | nil => rw [hw] at h; simp [nextT] at h
  | cons c r => exact ⟨c, r, rfl⟩
theorem nextT_text_sep {x : Int × Bt} (h : Good x) : ∀ {r : Bt}, Sep x r → nextT (writeT x ++ r) = .inr (x.1, x.2, (writeT x).length)
  | [], _ => by rw [List.append_nil]; exact h
  | d :: r, hs => nextT_sep r h hs
theorem lexK_pieces : ∀ (l : List Pc) (f : Nat), OkP l → (textP l).length < f → lexK f (textP l) = some (toksP l)
  | [], f, _, hf => by
    obtain ⟨f', rfl⟩ : ∃ f', f = f' + 1 := ⟨f - 1, by omega⟩
    rfl
  | .sp :: l, f, ho, hf => by
    have e : textP (.sp :: l) = [32] ++ textP l := textP_cons _ _
    rw [e] at hf ⊢
    simp only [List.length_append, List.length_cons, List.length_nil] at hf
    obtain ⟨f', rfl⟩ : ∃ f', f = f' + 1 := ⟨f - 1, by omega⟩
    rw [lexK_skip f' [32] (textP l) (by unfold skipL; rw [List.singleton_append, skipG, if_pos (by decide)]; simp; omega)]
    exact lexK_pieces l (f' + 1) ho (by omega)
  | .nl :: l, f, ho, hf => by
    have e : textP (.nl :: l) = [10] ++ textP l := textP_cons _ _
    rw [e] at hf ⊢
    simp only [List.length_append, List.length_cons, List.length_nil] at hf
    obtain ⟨f', rfl⟩ : ∃ f', f = f' + 1 := ⟨f - 1, by omega⟩
    rw [lexK_skip f' [10] (textP l) (by unfold skipL; rw [List.singleton_append, skipG, if_pos (by decide)]; simp; omega)]
    exact lexK_pieces l (f' + 1) ho (by omega)
  | .tok k t :: l, f, ho, hf => by
    obtain ⟨hg, hs, hl⟩ := ho
    have e : textP (.tok k t :: l) = writeT (k, t) ++ textP l := textP_cons _ _
    obtain ⟨f', rfl⟩ : ∃ f', f = f' + 1 := ⟨f - 1, by omega⟩
    have hn := nextT_text_sep hg hs
    obtain ⟨c, r, hc⟩ := good_head hg
    have hk : skipL (writeT (k, t) ++ textP l) = 0 := by
      have hn2 := hn
      rw [hc, List.cons_append] at hn2 ⊢
      obtain ⟨b1, b2⟩ := nextT_head hn2
      unfold skipL
      rw [skipG, if_neg (by simp [b1]), if_neg b2]
    rw [e] at hf ⊢
    rw [lexK, hk, List.drop_zero, if_neg (by rw [hc]; simp), hn]
    simp only
    rw [List.drop_left, lexK_pieces l f' hl (by rw [hc] at hf; simp only [List.length_append, List.length_cons] at hf; omega)]
    rfl

/-- One token's part in how deep one stands; none: one bracket too many is closed. -/
def stepD (d : Nat) (x : Int × Bt) : Option Nat :=
  if x.1 = 5 then
    (if x.2 = [40] ∨ x.2 = [91] ∨ x.2 = [123] then some (d + 1)
     else if x.2 = [41] ∨ x.2 = [93] ∨ x.2 = [125] then (if d = 0 then none else some (d - 1))
     else some d)
  else some d
/-- How deep one stands behind tokens. -/
def deepT (d : Nat) (l : List (Int × Bt)) : Option Nat := l.foldlM stepD d
theorem deepT_cons (d : Nat) (x : Int × Bt) (l : List (Int × Bt)) : deepT d (x :: l) = (stepD d x).bind fun e => deepT e l := by unfold deepT; rw [List.foldlM_cons]; rfl
theorem deepT_append (d : Nat) (a b : List (Int × Bt)) : deepT d (a ++ b) = (deepT d a).bind fun e => deepT e b := by unfold deepT; rw [List.foldlM_append]; rfl
theorem stepD_more {d e : Nat} {x : Int × Bt} (h : stepD d x = some e) (j : Nat) : stepD (d + j) x = some (e + j) := by
  unfold stepD at h ⊢
  by_cases h5 : x.1 = 5
  · rw [if_pos h5] at h ⊢
    by_cases ho : x.2 = [40] ∨ x.2 = [91] ∨ x.2 = [123]
    · rw [if_pos ho] at h ⊢
      injection h with h
      congr 1; omega
    · rw [if_neg ho] at h ⊢
      by_cases hc : x.2 = [41] ∨ x.2 = [93] ∨ x.2 = [125]
      · rw [if_pos hc] at h ⊢
        by_cases h0 : d = 0
        · rw [if_pos h0] at h; cases h
        · rw [if_neg h0] at h
          rw [if_neg (by omega)]
          injection h with h
          congr 1; omega
      · rw [if_neg hc] at h ⊢
        injection h with h
        congr 1; omega
  · rw [if_neg h5] at h ⊢
    injection h with h
    congr 1; omega
/-- Tokens whose brackets open and close. -/
def Bal (l : List (Int × Bt)) : Prop := ∀ d, deepT d l = some d
theorem Bal.nil : Bal [] := fun _ => rfl
theorem Bal.append {a b : List (Int × Bt)} (ha : Bal a) (hb : Bal b) : Bal (a ++ b) := fun d => by rw [deepT_append, ha d]; exact hb d
theorem Bal.one {k : Int} {t : Bt} (h : k ≠ 5 ∨ (t ≠ [40] ∧ t ≠ [91] ∧ t ≠ [123] ∧ t ≠ [41] ∧ t ≠ [93] ∧ t ≠ [125])) : Bal [(k, t)] := by
  intro d
  rw [deepT_cons]
  have : stepD d (k, t) = some d := by
    unfold stepD
    by_cases hk : k = 5
    · rw [if_pos hk]
      rcases h with h | ⟨h1, h2, h3, h4, h5, h6⟩
      · exact absurd hk h
      · rw [if_neg (by simp [h1, h2, h3]), if_neg (by simp [h4, h5, h6])]
    · rw [if_neg hk]
  rw [this]; rfl
/-- What tokens are good. -/
theorem good_name {t : Bt} (h : nameL t = true) : Good (1, t) := by
  unfold Good writeT
  rw [if_neg (show ¬ (1 : Int) = 4 by decide)]
  cases t with
  | nil => simp [nameL] at h
  | cons c r =>
    unfold nameL at h
    simp only [Bool.and_eq_true, decide_eq_true_eq, Bool.not_eq_true', decide_eq_false_iff_not] at h
    obtain ⟨⟨⟨h1, h2⟩, h3⟩, h4⟩ := h
    rw [nextT, if_pos h2, h3, if_neg (by omega), List.take_length, if_neg h4]
theorem good_word : ∀ {t : Bt}, t ∈ wordsL → Good (2, t) := by
  have h : ∀ t ∈ wordsL, nextT t = .inr (2, t, t.length) := by decide
  intro t ht
  unfold Good writeT
  rw [if_neg (show ¬ (2 : Int) = 4 by decide)]
  exact h t ht
theorem good_sign : ∀ {t : Bt}, t ∈ pairsL ∨ t ∈ singlesL.map (fun c => [c]) → Good (5, t) := by
  have h : ∀ t ∈ pairsL ++ singlesL.map (fun c => [c]), nextT t = .inr (5, t, t.length) := by decide
  intro t ht
  unfold Good writeT
  rw [if_neg (show ¬ (5 : Int) = 4 by decide)]
  exact h t (List.mem_append.2 ht)
theorem good_number {n : Int} (h0 : 0 ≤ n) (h1 : n ≤ 9223372036854775807) : Good (3, Lib.itoa n) := by
  obtain ⟨u, rfl⟩ := Int.eq_ofNat_of_zero_le h0
  have hp : parseN (Lib.decDigits u) = some u := parseN_iff.2 ⟨by omega, rfl⟩
  obtain ⟨⟨c1, c2, c3⟩, _, _⟩ := dec_is u
  have hi : Lib.itoa (u : Int) = Lib.decDigits u := by simp [Lib.itoa]
  unfold Good writeT
  rw [if_neg (show ¬ (3 : Int) = 4 by decide), hi]
  simp only
  cases hd : Lib.decDigits u with
  | nil => exact absurd hd c1
  | cons c r =>
    rw [hd] at hp c2
    have hall : ∀ x ∈ c :: r, digitB x = true := c2
    have hc := hall c (by simp)
    have hl : letterB c = false := by
      unfold digitB at hc
      simp only [Bool.and_eq_true, decide_eq_true_eq] at hc
      unfold letterB
      simp only [Bool.or_eq_false_iff, Bool.and_eq_false_iff, decide_eq_false_iff_not]
      omega
    have hr : rowL digitB (c :: r) = (c :: r).length := rowL_all fun j hj => hall _ (List.getElem_mem hj)
    have hv : (parseV (c :: r)).2 = true := by unfold parseV; rw [hp]
    rw [nextT, if_neg (by simp [hl]), if_pos hc, hr, List.take_length, if_pos hv]
theorem good_string {s : Bt} (h : s.length ≤ 256) (hc : ∀ c ∈ s, 32 ≤ c.toNat ∨ c.toNat = 9 ∨ c.toNat = 10) : Good (4, s) := by
  have hq : quoteL (quoteW s) = some (s, (quoteW s).length) := by
    unfold quoteL quoteW
    rw [List.drop_succ_cons, List.drop_zero, quoteG_back s [] 0 [] hc]
    simp only [List.nil_append, List.length_cons, List.length_append, List.length_nil, Option.some.injEq, Prod.mk.injEq, true_and]; omega
  unfold Good writeT
  rw [if_pos rfl]
  have : quoteW s = 34 :: (s.flatMap escW ++ [34]) := rfl
  simp only
  rw [this, nextT, ← this, if_neg (by decide), if_neg (by decide), if_pos (by decide), hq]
  simp only
  rw [if_neg (by omega)]
end Go.Proofs.YtbpedjkebemhnaaGreatDoor
end
section
/- Pieces of texts put together: which may stand side by side. -/
set_option linter.unusedVariables false
namespace Go.Proofs.YtbpedjkebemhnaaGreatDoor

/-- What a piece begins with: 0 a blank; 1 a byte of names; 2 a sign; 3 a bracket that opens, a quote. -/
def lcP : Pc → Nat
  | .tok k t => if k = 5 then (if t = [40] ∨ t = [91] ∨ t = [123] then 3 else 2) else if k = 4 then 3 else 1
  | _ => 0
/-- What it ends with: 0 what anything may follow; 1 a byte of names; 2 a sign that may begin a longer one. -/
def rcP : Pc → Nat
  | .tok k t => if k = 5 then (if t.length = 2 ∨ (t.headD 0).toNat ∉ [45, 61, 60, 62, 43] then 0 else 2) else if k = 4 then 0 else 1
  | _ => 0
theorem lcP_tok (k : Int) (t : Bt) : lcP (.tok k t) = if k = 5 then (if t = [40] ∨ t = [91] ∨ t = [123] then 3 else 2) else if k = 4 then 3 else 1 := rfl
theorem rcP_tok (k : Int) (t : Bt) : rcP (.tok k t) = if k = 5 then (if t.length = 2 ∨ (t.headD 0).toNat ∉ [45, 61, 60, 62, 43] then 0 else 2) else if k = 4 then 0 else 1 := rfl
/-- May these stand side by side? (4: a byte of names, or a bracket that opens.) -/
def adjP (r l : Nat) : Bool := match r with
  | 0 => true
  | 1 => l == 0 || l == 2 || l == 3
  | _ => l == 0 || l == 1 || l == 3 || l == 4
def GoodP : Pc → Prop
  | .tok k t => Good (k, t) ∧ 1 ≤ k ∧ k ≤ 5
  | _ => True
def OkQ : List Pc → Prop
  | [] => True
  | p :: l => GoodP p ∧ (∀ q, l.head? = some q → adjP (rcP p) (lcP q) = true) ∧ OkQ l
theorem pairs_start : ∀ m ∈ pairsL, (m.headD 0).toNat ∈ [45, 61, 60, 62, 43] := by decide
theorem pairs_seconds : ∀ m ∈ pairsL, (m.getD 1 0).toNat ∈ [62, 58, 60, 61, 43] := by decide
/-- A token's first byte. -/
theorem good_first {k : Int} {t : Bt} (h : Good (k, t)) (h1 : 1 ≤ k) (h5 : k ≤ 5) : ∃ d r, writeT (k, t) = d :: r ∧ ((k = 1 ∨ k = 2 ∨ k = 3) → innerB d = true) ∧ (k = 4 → d.toNat = 34) ∧ (k = 5 → innerB d = false ∧ d = t.headD 0) := by
  obtain ⟨c, r, hc⟩ := good_head h
  refine ⟨c, r, hc, ?_⟩
  unfold Good at h
  rw [hc, nextT] at h
  by_cases hl : letterB c = true
  · rw [if_pos hl] at h
    have hi : innerB c = true := by unfold innerB; rw [hl]; rfl
    have hk : k = 1 ∨ k = 2 := by
      repeat' split at h
      all_goals first | cases h; done | (injection h with h; simp only [Prod.mk.injEq] at h; omega)
    exact ⟨fun _ => hi, fun h => by omega, fun h => by omega⟩
  · rw [if_neg hl] at h
    by_cases hd : digitB c = true
    · rw [if_pos hd] at h
      have hi : innerB c = true := by unfold innerB; rw [hd]; simp
      have hk : k = 3 := by
        repeat' split at h
        all_goals first | cases h; done | (injection h with h; simp only [Prod.mk.injEq] at h; omega)
      exact ⟨fun _ => hi, fun h => by omega, fun h => by omega⟩
    · rw [if_neg hd] at h
      have hi : innerB c = false := by unfold innerB; simp [hl, hd]
      by_cases h34 : c.toNat = 34
      · rw [if_pos h34] at h
        have hk : k = 4 := by
          repeat' split at h
          all_goals first | cases h; done | (injection h with h; simp only [Prod.mk.injEq] at h; omega)
        exact ⟨fun h => by omega, fun _ => h34, fun h => by omega⟩
      · rw [if_neg h34] at h
        split at h
        · injection h with h
          simp only [Prod.mk.injEq] at h
          refine ⟨fun h => by omega, fun h => by omega, fun _ => ⟨hi, ?_⟩⟩
          rw [← h.2.1]; rfl
        · split at h
          · injection h with h
            simp only [Prod.mk.injEq] at h
            refine ⟨fun h => by omega, fun h => by omega, fun _ => ⟨hi, ?_⟩⟩
            rw [← h.2.1]; rfl
          · cases h
/-- What may stand side by side is read as it is. -/
theorem adj_sep {k : Int} {t : Bt} {q : Pc} {r : Bt} (hp : GoodP (.tok k t)) (hq : GoodP q) (ha : adjP (rcP (.tok k t)) (lcP q) = true) : Sep (k, t) (q.text ++ r) := by
  obtain ⟨hg, h1, h5⟩ := hp
  have hne : ∃ d x, q.text ++ r = d :: x ∧ (lcP q = 0 → blankB d = true) ∧ (lcP q = 2 → innerB d = false) ∧ (lcP q = 1 → innerB d = true) ∧ (lcP q = 3 → d.toNat = 34 ∨ d.toNat = 40 ∨ d.toNat = 91 ∨ d.toNat = 123) := by
    cases q with
    | sp => exact ⟨32, r, rfl, fun _ => by decide, fun h => absurd h (by decide), fun h => absurd h (by decide), fun h => absurd h (by decide)⟩
    | nl => exact ⟨10, r, rfl, fun _ => by decide, fun h => absurd h (by decide), fun h => absurd h (by decide), fun h => absurd h (by decide)⟩
    | tok k2 t2 =>
      obtain ⟨d, x, e, e1, e2, e3⟩ := good_first hq.1 hq.2.1 hq.2.2
      refine ⟨d, x ++ r, by show writeT (k2, t2) ++ r = _; rw [e]; rfl, ?_, ?_, ?_, ?_⟩
      all_goals
        rw [lcP_tok]
        by_cases hk5 : k2 = 5
        · rw [if_pos hk5]
          by_cases ht : t2 = [40] ∨ t2 = [91] ∨ t2 = [123]
          · rw [if_pos ht]
            have hd := (e3 hk5).2
            intro h
            first
              | omega
              | (rcases ht with rfl | rfl | rfl <;> simp at hd <;> subst hd <;> simp)
          · rw [if_neg ht]
            intro h
            first
              | omega
              | exact (e3 hk5).1
        · rw [if_neg hk5]
          by_cases hk4 : k2 = 4
          · rw [if_pos hk4]
            intro h
            first
              | omega
              | exact .inl (e2 hk4)
          · rw [if_neg hk4]
            have hq1 := hq.2.1
            have hq2 := hq.2.2
            intro h
            first
              | omega
              | exact e1 (by omega)
  obtain ⟨d, x, e, e0, e2, e1, e3⟩ := hne
  rw [e]
  show k = 4 ∨ (k = 5 ∧ (t.length = 2 ∨ [t.headD 0, d] ∉ pairsL)) ∨ innerB d = false ∧ k ≠ 5
  have hi0 : lcP q = 0 → innerB d = false := fun h => (blank_inner (e0 h)).1
  have hi3 : lcP q = 3 → innerB d = false := fun h => by
    have := e3 h
    unfold innerB letterB digitB
    simp only [Bool.or_eq_false_iff, Bool.and_eq_false_iff, decide_eq_false_iff_not]
    omega
  by_cases hk5 : k = 5
  · refine .inr (.inl ⟨hk5, ?_⟩)
    by_cases ht : t.length = 2
    · exact .inl ht
    · refine .inr fun hm => ?_
      have hs := pairs_start _ hm
      have hs2 := pairs_seconds _ hm
      simp only [List.headD_cons] at hs
      rw [show ([t.headD 0, d] : Bt).getD 1 0 = d from rfl] at hs2
      have hr : rcP (.tok k t) = 2 := by
        rw [rcP_tok]
        rw [if_pos hk5, if_neg]
        rintro (h | h)
        · exact ht h
        · exact h hs
      rw [hr] at ha
      have ha2 : lcP q = 0 ∨ lcP q = 1 ∨ lcP q = 3 := by
        have hl4 : lcP q ≠ 4 := by
          cases q with
          | tok k2 t2 => rw [lcP_tok]; repeat' split
                         all_goals omega
          | sp => decide
          | nl => decide
        unfold adjP at ha
        simp only [Bool.or_eq_true, beq_iff_eq] at ha
        omega
      have hd : d.toNat = 62 ∨ d.toNat = 58 ∨ d.toNat = 60 ∨ d.toNat = 61 ∨ d.toNat = 43 := by simpa using hs2
      rcases ha2 with h | h | h
      · have := e0 h
        unfold blankB at this
        simp only [Bool.or_eq_true, decide_eq_true_eq] at this
        omega
      · have := e1 h
        unfold innerB letterB digitB at this
        simp only [Bool.or_eq_true, Bool.and_eq_true, decide_eq_true_eq] at this
        omega
      · have := e3 h
        omega
  · by_cases hk4 : k = 4
    · exact .inl hk4
    · refine .inr (.inr ⟨?_, hk5⟩)
      have hr : rcP (.tok k t) = 1 := by rw [rcP_tok]; rw [if_neg hk5, if_neg hk4]
      rw [hr] at ha
      unfold adjP at ha
      simp only [Bool.or_eq_true, beq_iff_eq] at ha
      rcases ha with (h | h) | h
      · exact hi0 h
      · exact e2 h
      · exact hi3 h
theorem OkQ.ok : ∀ {l : List Pc}, OkQ l → OkP l
  | [], _ => trivial
  | .sp :: l, h => OkQ.ok (l := l) h.2.2
  | .nl :: l, h => OkQ.ok (l := l) h.2.2
  | .tok k t :: l, h => by
    refine ⟨h.1.1, ?_, OkQ.ok h.2.2⟩
    cases l with
    | nil => trivial
    | cons q l =>
      rw [textP_cons]
      exact adj_sep h.1 h.2.2.1 (h.2.1 q rfl)

/-- A unit: it begins with a byte of names or with what opens, and ends with a byte of names or with what anything may follow. -/
def WP (l : List Pc) : Prop := OkQ l ∧ (∃ p, l.head? = some p ∧ (lcP p = 1 ∨ lcP p = 3)) ∧ (∃ p, l.getLast? = some p ∧ (rcP p = 0 ∨ rcP p = 1)) ∧ Bal (toksP l)
/-- What may be left out: it begins with a sign or with what opens. -/
def VP (l : List Pc) : Prop := OkQ l ∧ (∀ p, l.head? = some p → lcP p = 2 ∨ lcP p = 3) ∧ (∀ p, l.getLast? = some p → rcP p = 0 ∨ rcP p = 1) ∧ Bal (toksP l)
/-- A unit that may be left out. -/
def EP (l : List Pc) : Prop := l = [] ∨ WP l
/-- A segment: a piece; a unit; what may be left out; a unit that may be left out; an operation between blanks. -/
inductive Sg where
  | p (x : Pc) : Sg
  | u (l : List Pc) : Sg
  | v (l : List Pc) : Sg
  | e (l : List Pc) : Sg
  | w (x : Pc) : Sg
def Sg.flat : Sg → List Pc
  | .p x => [x]
  | .u l => l
  | .v l => l
  | .e l => l
  | .w x => [x]
def flatS (l : List Sg) : List Pc := l.flatMap Sg.flat
def Sg.Is : Sg → Prop
  | .p x => GoodP x
  | .u l => WP l
  | .v l => VP l
  | .e l => EP l
  | .w x => GoodP x ∧ Bal (toksP [x])
/-- May each segment stand behind those before? What the last one may end with. -/
def checkS : List Nat → List Sg → Option (List Nat)
  | st, [] => some st
  | st, .p x :: l => if st.all (fun r => adjP r (lcP x)) then checkS [rcP x] l else none
  | st, .u x :: l => if st.all (fun r => adjP r 1 && adjP r 3) then checkS [1] l else none
  | st, .v x :: l => if st.all (fun r => adjP r 2 && adjP r 3) then checkS (1 :: st) l else none
  | st, .e x :: l => if st.all (fun r => adjP r 1 && adjP r 3) then checkS (1 :: st) l else none
  | st, .w x :: l => if st.all (fun r => adjP r 1 && adjP r 2 && adjP r 3) then checkS [1, 2] l else none
theorem OkQ.append : ∀ {a b : List Pc}, OkQ a → OkQ b → (∀ p q, a.getLast? = some p → b.head? = some q → adjP (rcP p) (lcP q) = true) → OkQ (a ++ b)
  | [], b, _, hb, _ => hb
  | [p], b, ha, hb, h => ⟨ha.1, fun q hq => h p q rfl hq, hb⟩
  | p :: p2 :: a, b, ha, hb, h => ⟨ha.1, fun q hq => ha.2.1 q hq, OkQ.append (a := p2 :: a) ha.2.2 hb (fun x y hx hy => h x y (by rw [List.getLast?_cons_cons]; exact hx) hy)⟩
/-- The last piece may end so: whatever may follow all of these may follow it. -/
def EndIn (l : List Pc) (st : List Nat) : Prop := ∀ p, l.getLast? = some p → ∀ c, (∀ r ∈ st, adjP r c = true) → adjP (rcP p) c = true
theorem adj_one {r c : Nat} (h : r = 0 ∨ r = 1) (hc : adjP 1 c = true) : adjP r c = true := by
  rcases h with rfl | rfl
  · rfl
  · exact hc
theorem last_append {a b : List Pc} {p : Pc} (h : (a ++ b).getLast? = some p) : (b = [] ∧ a.getLast? = some p) ∨ b.getLast? = some p := by
  cases b with
  | nil => rw [List.append_nil] at h; exact .inl ⟨rfl, h⟩
  | cons x b =>
    rw [List.getLast?_append] at h
    cases hb : (x :: b).getLast? with
    | none => simp at hb
    | some y => rw [hb] at h; exact .inr h
theorem checkS_ok : ∀ (l : List Sg) (st st' : List Nat) (a : List Pc), checkS st l = some st' → (∀ s ∈ l, s.Is) → OkQ a → EndIn a st → OkQ (a ++ flatS l) ∧ EndIn (a ++ flatS l) st'
  | [], st, st', a, h, _, ha, he => by
    injection h with h
    subst h
    rw [show flatS [] = [] from rfl, List.append_nil]
    exact ⟨ha, he⟩
  | s :: l, st, st', a, h, hs, ha, he => by
    have hs0 := hs s (by simp)
    have hsl : ∀ x ∈ l, x.Is := fun x hx => hs x (by simp [hx])
    have e : a ++ flatS (s :: l) = (a ++ s.flat) ++ flatS l := by unfold flatS; rw [List.flatMap_cons, List.append_assoc]
    rw [e]
    cases s with
    | p x =>
      rw [checkS] at h
      split at h
      · rename_i hc
        rw [List.all_eq_true] at hc
        refine checkS_ok l _ st' _ h hsl (ha.append (b := [x]) ⟨hs0, fun q hq => (by cases hq), trivial⟩ fun p q hp hq => ?_) fun p hp c hcc => ?_
        · injection hq with hq; subst hq
          exact he p hp _ fun r hr => hc r hr
        · rw [show (Sg.p x).flat = [x] from rfl, List.getLast?_concat] at hp
          injection hp with hp; subst hp
          exact hcc _ (by simp)
      · cases h
    | u x =>
      rw [checkS] at h
      obtain ⟨w1, ⟨hd, w2, w2'⟩, ⟨tl, w3, w3'⟩, w4⟩ := hs0
      split at h
      · rename_i hc
        rw [List.all_eq_true] at hc
        refine checkS_ok l _ st' _ h hsl (ha.append (b := x) w1 fun p q hp hq => ?_) fun p hp c hcc => ?_
        · rw [w2] at hq
          injection hq with hq; subst hq
          refine he p hp _ fun r hr => ?_
          have := hc r hr
          rw [Bool.and_eq_true] at this
          rcases w2' with h | h <;> rw [h]
          · exact this.1
          · exact this.2
        · rcases last_append hp with ⟨h1, _⟩ | h1
          · rw [show (Sg.u x).flat = x from rfl] at h1; rw [h1] at w2; cases w2
          · rw [show (Sg.u x).flat = x from rfl, w3] at h1
            injection h1 with h1; subst h1
            exact adj_one w3' (hcc 1 (by simp))
      · cases h
    | v x =>
      rw [checkS] at h
      obtain ⟨w1, w2, w3, w4⟩ := hs0
      split at h
      · rename_i hc
        rw [List.all_eq_true] at hc
        refine checkS_ok l _ st' _ h hsl (ha.append (b := x) w1 fun p q hp hq => ?_) fun p hp c hcc => ?_
        · refine he p hp _ fun r hr => ?_
          have := hc r hr
          rw [Bool.and_eq_true] at this
          rcases w2 q hq with h | h <;> rw [h]
          · exact this.1
          · exact this.2
        · rcases last_append hp with ⟨_, h1⟩ | h1
          · exact he p h1 c fun r hr => hcc r (by simp [hr])
          · exact adj_one (w3 p h1) (hcc 1 (by simp))
      · cases h
    | e x =>
      rw [checkS] at h
      split at h
      · rename_i hc
        rw [List.all_eq_true] at hc
        rcases hs0 with rfl | ⟨w1, ⟨hd, w2, w2'⟩, ⟨tl, w3, w3'⟩, w4⟩
        · refine checkS_ok l _ st' _ h hsl (by rw [show (Sg.e []).flat = [] from rfl, List.append_nil]; exact ha) fun p hp c hcc => ?_
          rw [show (Sg.e []).flat = [] from rfl, List.append_nil] at hp
          exact he p hp c fun r hr => hcc r (by simp [hr])
        · refine checkS_ok l _ st' _ h hsl (ha.append (b := x) w1 fun p q hp hq => ?_) fun p hp c hcc => ?_
          · rw [w2] at hq
            injection hq with hq; subst hq
            refine he p hp _ fun r hr => ?_
            have := hc r hr
            rw [Bool.and_eq_true] at this
            rcases w2' with h | h <;> rw [h]
            · exact this.1
            · exact this.2
          · rcases last_append hp with ⟨h1, _⟩ | h1
            · rw [show (Sg.e x).flat = x from rfl] at h1; rw [h1] at w2; cases w2
            · rw [show (Sg.e x).flat = x from rfl, w3] at h1
              injection h1 with h1; subst h1
              exact adj_one w3' (hcc 1 (by simp))
      · cases h
    | w x =>
      rw [checkS] at h
      split at h
      · rename_i hc
        rw [List.all_eq_true] at hc
        refine checkS_ok l _ st' _ h hsl (ha.append (b := [x]) ⟨hs0.1, fun q hq => (by cases hq), trivial⟩ fun p q hp hq => ?_) fun p hp c hcc => ?_
        · injection hq with hq; subst hq
          refine he p hp _ fun r hr => ?_
          have := hc r hr
          simp only [Bool.and_eq_true] at this
          have h4 : ∀ r, adjP r 0 = true := by intro r; unfold adjP; split <;> rfl
          cases x with
          | sp => exact h4 r
          | nl => exact h4 r
          | tok k t =>
            rw [lcP_tok]
            repeat' split
            · exact this.2
            · exact this.1.2
            · exact this.2
            · exact this.1.1
        · rw [show (Sg.w x).flat = [x] from rfl, List.getLast?_concat] at hp
          injection hp with hp; subst hp
          have h1 := hcc 1 (by simp)
          have h2 := hcc 2 (by simp)
          cases x with
          | sp => rfl
          | nl => rfl
          | tok k t =>
            rw [rcP_tok]
            repeat' split
            · rfl
            · exact h2
            · rfl
            · exact h1
      · cases h
/-- How deep one stands behind segments. -/
def segD (d : Nat) : Sg → Option Nat
  | .p (.tok k t) => stepD d (k, t)
  | _ => some d
def deepS (d : Nat) : List Sg → Option Nat
  | [] => some d
  | s :: l => match segD d s with
    | some e => deepS e l
    | none => none
theorem toksP_flat (s : Sg) (l : List Sg) : toksP (flatS (s :: l)) = toksP s.flat ++ toksP (flatS l) := by
  unfold flatS
  rw [List.flatMap_cons, toksP_append]
theorem segD_ok {s : Sg} {d e : Nat} (h : segD d s = some e) (hs : s.Is) (j : Nat) : deepT (d + j) (toksP s.flat) = some (e + j) := by
  cases s with
  | p x =>
    cases x with
    | sp => injection h with h; subst h; rfl
    | nl => injection h with h; subst h; rfl
    | tok k t =>
      show deepT (d + j) [(k, t)] = _
      rw [deepT_cons, stepD_more h j]; rfl
  | u x => injection h with h; subst h; exact hs.2.2.2 _
  | v x => injection h with h; subst h; exact hs.2.2.2 _
  | e x =>
    injection h with h
    subst h
    rcases hs with rfl | hs
    · rfl
    · exact hs.2.2.2 _
  | w x => injection h with h; subst h; exact hs.2 _
theorem deepS_ok : ∀ (l : List Sg) (d e : Nat), deepS d l = some e → (∀ s ∈ l, s.Is) → ∀ (j : Nat), deepT (d + j) (toksP (flatS l)) = some (e + j)
  | [], d, e, h, _, j => by
    injection h with h
    subst h; rfl
  | s :: l, d, e, h, hs, j => by
    rw [deepS] at h
    rw [toksP_flat, deepT_append]
    cases hd : segD d s with
    | none => rw [hd] at h; cases h
    | some c =>
      rw [hd] at h
      rw [segD_ok hd (hs s (by simp)) j]
      exact deepS_ok l c e h (fun x hx => hs x (by simp [hx])) j
theorem bal_segs {l : List Sg} (h : deepS 0 l = some 0) (hs : ∀ s ∈ l, s.Is) : Bal (toksP (flatS l)) := by
  intro d
  have := deepS_ok l 0 0 h hs d
  simpa using this
def startS : List Sg → Bool
  | .p x :: _ => lcP x == 1 || lcP x == 3
  | .u _ :: _ => true
  | _ => false
def endS : Option (List Nat) → Bool
  | some st => st.all (fun r => r == 0 || r == 1)
  | none => false
/-- A unit of segments. -/
theorem wp_segs {l : List Sg} (h : (startS l && endS (checkS [] l) && deepS 0 l == some 0) = true) (hs : ∀ s ∈ l, s.Is) : WP (flatS l) := by
  simp only [Bool.and_eq_true, beq_iff_eq] at h
  obtain ⟨⟨h1, h2⟩, h3⟩ := h
  cases hc : checkS [] l with
  | none => rw [hc] at h2; cases h2
  | some st =>
    rw [hc] at h2
    obtain ⟨g1, g2⟩ := checkS_ok l [] st [] hc hs trivial (fun p hp => by cases hp)
    rw [List.nil_append] at g1 g2
    have hst : ∀ r ∈ st, r = 0 ∨ r = 1 := by
      intro r hr
      have := List.all_eq_true.1 h2 r hr
      simpa using this
    have hhead : ∃ p, (flatS l).head? = some p ∧ (lcP p = 1 ∨ lcP p = 3) := by
      cases l with
      | nil => cases h1
      | cons s l =>
        have hs0 := hs s (by simp)
        cases s with
        | p x => exact ⟨x, rfl, by simpa [startS] using h1⟩
        | u x =>
          obtain ⟨p, hp, hp2⟩ := hs0.2.1
          refine ⟨p, ?_, hp2⟩
          unfold flatS
          rw [List.flatMap_cons]
          show (x ++ _).head? = _
          cases x with
          | nil => cases hp
          | cons y x => exact hp
        | v x => cases h1
        | e x => cases h1
        | w x => cases h1
    refine ⟨g1, hhead, ?_, bal_segs h3 hs⟩
    cases hl : (flatS l).getLast? with
    | none =>
      rw [List.getLast?_eq_none_iff] at hl
      rw [hl] at hhead
      obtain ⟨p, hp, _⟩ := hhead
      cases hp
    | some p =>
      refine ⟨p, rfl, ?_⟩
      have h4 := g2 p hl 2 fun r hr => by rcases hst r hr with rfl | rfl <;> rfl
      have h5 : rcP p = 0 ∨ rcP p = 1 ∨ rcP p = 2 := by
        cases p with
        | tok k t => rw [rcP_tok]; repeat' split
                     all_goals omega
        | sp => exact .inl rfl
        | nl => exact .inl rfl
      rcases h5 with h | h | h
      · exact .inl h
      · exact .inr h
      · rw [h] at h4; cases h4
def startV : List Sg → Bool
  | .p x :: _ => lcP x == 2 || lcP x == 3
  | _ => false
theorem vp_nil : VP [] := ⟨trivial, fun p h => (by cases h), fun p h => (by cases h), Bal.nil⟩
theorem vp_segs {l : List Sg} (h : (startV l && endS (checkS [] l) && deepS 0 l == some 0) = true) (hs : ∀ s ∈ l, s.Is) : VP (flatS l) := by
  simp only [Bool.and_eq_true, beq_iff_eq] at h
  obtain ⟨⟨h1, h2⟩, h3⟩ := h
  cases hc : checkS [] l with
  | none => rw [hc] at h2; cases h2
  | some st =>
    rw [hc] at h2
    obtain ⟨g1, g2⟩ := checkS_ok l [] st [] hc hs trivial (fun p hp => by cases hp)
    rw [List.nil_append] at g1 g2
    have hst : ∀ r ∈ st, r = 0 ∨ r = 1 := by
      intro r hr
      have := List.all_eq_true.1 h2 r hr
      simpa using this
    refine ⟨g1, fun p hp => ?_, fun p hl => ?_, bal_segs h3 hs⟩
    · cases l with
      | nil => cases h1
      | cons s l =>
        cases s with
        | p x =>
          have : (flatS (Sg.p x :: l)).head? = some x := rfl
          rw [this] at hp
          injection hp with hp; subst hp
          simpa [startV] using h1
        | u x => cases h1
        | v x => cases h1
        | e x => cases h1
        | w x => cases h1
    · have h4 := g2 p hl 2 fun r hr => by rcases hst r hr with rfl | rfl <;> rfl
      have h5 : rcP p = 0 ∨ rcP p = 1 ∨ rcP p = 2 := by
        cases p with
        | tok k t => rw [rcP_tok]; repeat' split
                     all_goals omega
        | sp => exact .inl rfl
        | nl => exact .inl rfl
      rcases h5 with h | h | h
      · exact .inl h
      · exact .inr h
      · rw [h] at h4; cases h4
/-- Tokens that stand side by side are read as they are, be there at most so many. -/
theorem lexF_some : ∀ (f : Nat) (s : Bt) (p : Nat × Nat) (out : List TokD) (l : List (Int × Bt)), lexK f s = some l → out.length + l.length ≤ 8192 →
    ∃ m e, l = m.map ktOf ∧ lexF f s p out = (out ++ m ++ [e], (0, 0, 0)) ∧ ktOf e = (0, [])
  | 0, s, p, out, l, h, _ => by simp [lexK] at h
  | f + 1, s, p, out, l, h, h8 => by
    rw [lexK] at h
    rw [lexF]
    by_cases hnil : s.drop (skipL s) = []
    · rw [if_pos hnil] at h ⊢
      injection h with h
      subst h
      exact ⟨[], _, rfl, by rw [List.append_nil], rfl⟩
    · rw [if_neg hnil] at h ⊢
      cases hn : nextT (s.drop (skipL s)) with
      | inl e => rw [hn] at h; cases h
      | inr x =>
        obtain ⟨kd, t, n⟩ := x
        rw [hn] at h
        simp only at h ⊢
        rw [Option.map_eq_some_iff] at h
        obtain ⟨l', h1, rfl⟩ := h
        rw [List.length_cons] at h8
        rw [if_neg (by omega)]
        obtain ⟨m, e, k1, k2, k3⟩ := lexF_some f _ (advL (advL p (s.take (skipL s))) ((s.drop (skipL s)).take n)) (out ++ [⟨kd, t, (advL p (s.take (skipL s))).1, (advL p (s.take (skipL s))).2⟩]) l' h1 (by simp only [List.length_append, List.length_cons, List.length_nil]; omega)
        exact ⟨⟨kd, t, (advL p (s.take (skipL s))).1, (advL p (s.take (skipL s))).2⟩ :: m, e, by rw [k1]; rfl, by rw [k2]; simp, k3⟩
theorem lexL_pieces {l : List Pc} (h : OkQ l) (hs : (textP l).length ≤ 65536) (h8 : (toksP l).length ≤ 8192) :
    ∃ m e, toksP l = m.map ktOf ∧ lexL (textP l) = (m ++ [e], (0, 0, 0)) ∧ ktOf e = (0, []) := by
  rw [lexL_F _ hs]
  obtain ⟨m, e, h1, h2, h3⟩ := lexF_some _ _ (1, 1) [] _ (lexK_pieces l _ h.ok (Nat.lt_succ_self _)) (by simpa using h8)
  exact ⟨m, e, h1, by rw [h2]; simp, h3⟩
end Go.Proofs.YtbpedjkebemhnaaGreatDoor
end
section
/- Texts that belong together: MS, MT, MO, MR. -/
/- Memory with a footprint: what has turned lies in a set of blocks; slices of texts. Each fact is proved of any program. -/
set_option linter.unusedVariables false
namespace Go.Proofs.YtbpedjkebemhnaaGreatDoor
open Go.RowKit

/-- Nothing of what was there has turned but the blocks of F. -/
def Turn (F : Nat → Prop) (w w' : World) : Prop :=
  w'.os = w.os ∧ w'.tape = w.tape ∧ w'.output = w.output ∧ w.heap.size ≤ w'.heap.size ∧ ∀ k, k < w.heap.size → ¬ F k → w'.heap[k]? = w.heap[k]?

section
variable {F G : Nat → Prop} {a b c w w' : World}
theorem Turn.refl (F : Nat → Prop) (w : World) : Turn F w w := ⟨rfl, rfl, rfl, Nat.le_refl _, fun _ _ _ => rfl⟩
theorem Turn.size (h : Turn F w w') : w.heap.size ≤ w'.heap.size := h.2.2.2.1
theorem Turn.block (h : Turn F w w') {k : Nat} (hk : k < w.heap.size) (hF : ¬ F k) : w'.heap[k]? = w.heap[k]? := h.2.2.2.2 k hk hF
theorem Turn.trans (h : Turn F a b) (k : Turn G b c) (hG : ∀ i, i < a.heap.size → G i → F i) : Turn F a c :=
  ⟨k.1.trans h.1, k.2.1.trans h.2.1, k.2.2.1.trans h.2.2.1, Nat.le_trans h.size k.size, fun i hi hF =>
    (k.block (Nat.lt_of_lt_of_le hi h.size) (fun hg => hF (hG i hi hg))).trans (h.block hi hF)⟩
theorem Turn.of_below (h : Below w.heap.size w w') : Turn F w w' := ⟨h.os, h.tape, h.output, h.size, fun k hk _ => h.block k hk⟩
theorem Turn.of_grown {row : Option Nat} (h : w.grownBy w' row) (hr : ∀ k, row = some k → F k) : Turn F w w' :=
  ⟨h.os, h.tape, h.output, h.size, fun k hk hF => h.block k hk (fun e => hF (hr k e.symm))⟩
theorem Turn.below {B : Nat} (h : Turn F w w') (hB : B ≤ w.heap.size) (hF : ∀ k, k < B → ¬ F k) : Below B w w' :=
  ⟨h.1, h.2.1, h.2.2.1, h.size, fun k hk => h.block (Nat.lt_of_lt_of_le hk hB) (hF k hk)⟩
theorem Turn.mono (h : Turn F w w') (hF : ∀ k, k < w.heap.size → F k → G k) : Turn G w w' :=
  ⟨h.1, h.2.1, h.2.2.1, h.size, fun k hk hG => h.block hk (fun hf => hG (hF k hk hf))⟩
theorem Turn.alloc (F : Nat → Prop) (w : World) (o : Obj) : Turn F w (w.alloc o) := Turn.of_grown (World.grownBy_alloc w o none) (by simp)
theorem Turn.drewN (F : Nat → Prop) (w : World) (n : Nat) : Turn F w (w.drewN n) := ⟨rfl, rfl, rfl, Nat.le_refl _, fun _ _ _ => rfl⟩
theorem Turn.lt (h : Turn F w w') {k : Nat} (hk : k < w.heap.size) : k < w'.heap.size := Nat.lt_of_lt_of_le hk h.size
end

theorem Sl.keepB {w w' : World} {B k : Nat} {v : Value} {xs : List Value} (h : Sl w B k v xs) (hk : ∀ g, v.ownBlock = some g → g < B → w'.heap[g]? = w.heap[g]?) : Sl w' B k v xs := by
  obtain ⟨A, n, c, hv, hl, hn, hc, hx⟩ := h
  refine ⟨A, n, c, hv, hl, hn, hc, fun h0 => ?_⟩
  obtain ⟨b, off, hA, hb, hcell⟩ := hx h0
  refine ⟨b, off, hA, hb, fun j u hu => ?_⟩
  rw [← hcell j u hu]
  have h1 := hk b (by subst hv hA; rfl) hb
  simp only [World.cell?, h1]

/-- v reads as the cells xs, and leads to blocks of F alone. -/
def SlF (w : World) (F : Nat → Prop) (k : Nat) (v : Value) (xs : List Value) : Prop := Sl w w.heap.size k v xs ∧ ∀ g, v.ownBlock = some g → F g
section
variable {F G : Nat → Prop} {w w' : World} {k : Nat} {v : Value} {xs : List Value}
theorem SlF.turn (h : SlF w F k v xs) (t : Turn G w w') (hd : ∀ g, F g → ¬ G g) : SlF w' F k v xs :=
  ⟨(h.1.keepB fun g hg hl => t.block hl (hd g (h.2 g hg))).more t.size, h.2⟩
theorem SlF.mono (h : SlF w F k v xs) (hF : ∀ g, F g → G g) : SlF w G k v xs := ⟨h.1, fun g hg => hF g (h.2 g hg)⟩
theorem SlF.of_own {base n : Nat} {e : TypeId} (h : w.ownsRow base e k v n xs) (hF : ∀ g, v.ownBlock = some g → F g) : SlF w F k v xs := ⟨Sl.of_own h, hF⟩
end
theorem own_turn {G : Nat → Prop} {w w' : World} {base : Nat} {e : TypeId} {k : Nat} {v : Value} {n : Nat} {xs : List Value} (h : w.ownsRow base e k v n xs) (t : Turn G w w') (hd : ∀ g, v.ownBlock = some g → ¬ G g) : w'.ownsRow base e k v n xs := by
  refine ⟨h.1, ?_⟩
  rcases h.2 with h2 | ⟨g, cap, cur, hv, hg, hb, r⟩
  · exact .inl h2
  · refine .inr ⟨g, cap, cur, hv, hg, ?_, r⟩
    rw [t.block (Array.getElem?_eq_some_iff.1 hb).1 (hd g (by subst hv; rfl))]; exact hb
theorem map_turn {H : Type} {P : Program} {k : TypeId} {R : Value → Option (DataW H × List MemPlace)} {G : Nat → Prop} {w w' : World} {b n : Nat} {D : DataW H} (h : w.ownsMap P k R b n D) (t : Turn G w w') (hd : ¬ G b) : w'.ownsMap P k R b n D := by
  have hlt := h.lt
  obtain ⟨es, clock, hb, r⟩ := h
  exact ⟨es, clock, (t.block hlt hd).trans hb, r⟩
theorem block_turn {G : Nat → Prop} {w w' : World} {b : Nat} {o : Obj} (h : w.heap[b]? = some o) (t : Turn G w w') (hd : ¬ G b) : w'.heap[b]? = some o :=
  (t.block (Array.getElem?_eq_some_iff.1 h).1 hd).trans h
theorem block_lt {w : World} {b : Nat} {o : Obj} (h : w.heap[b]? = some o) : b < w.heap.size := (Array.getElem?_eq_some_iff.1 h).1
theorem own_form {w : World} {base : Nat} {e : TypeId} {k : Nat} {v : Value} {n : Nat} {xs : List Value} (h : w.ownsRow base e k v n xs) (h0 : 0 < n) :
    ∃ g c, v = .slice (some ⟨g, 0, none⟩) n c ∧ base ≤ g ∧ g < w.heap.size ∧ n ≤ c ∧ c ≤ maxLen := by
  rcases h.2 with ⟨_, h0⟩ | ⟨g, cap, cur, hv, hb, hg, hc, hm, _⟩
  · omega
  · exact ⟨g, cap, hv, hb, block_lt hg, hc, hm⟩

/-- Texts, as cells. -/
def svs (l : List (List UInt8)) : List Value := l.map sv
theorem svs_length (l : List (List UInt8)) : (svs l).length = l.length := by simp [svs]
theorem svs_append (a b : List (List UInt8)) : svs (a ++ b) = svs a ++ svs b := by simp [svs]
theorem svs_one (l : List (List UInt8)) : ∀ u ∈ svs l, u.oneCell' = true := by
  intro u hu
  obtain ⟨b, _, rfl⟩ := List.mem_map.1 hu
  rfl
theorem svs_get (l : List (List UInt8)) (i : Nat) (h : i < l.length) : (svs l)[i]? = some (sv l[i]) := by simp [svs, h]
/-- The slice value v reads as these texts. -/
def Ss (w : World) (B : Nat) (v : Value) (l : List (List UInt8)) : Prop := Sl w B 1 v (svs l)
theorem Ss.open_ {w : World} {B : Nat} {v : Value} {l : List (List UInt8)} (h : Ss w B v l) :
    ∃ (A : Option Addr) (c : Nat), v = .slice A l.length c ∧ l.length ≤ c ∧ c ≤ maxLen ∧
      (0 < l.length → ∃ b off, A = some ⟨b, off, none⟩ ∧ b < B ∧ ∀ (j : Nat) (hj : j < l.length), w.cell? ⟨b, off + j, none⟩ = some (sv l[j])) := by
  obtain ⟨A, n, c, rfl, hl, hn, hc, hx⟩ := h
  obtain rfl : l.length = n := by rw [← svs_length l, hl]; omega
  refine ⟨A, c, rfl, hn, hc, fun h0 => ?_⟩
  obtain ⟨b, off, hA, hb, hcell⟩ := hx h0
  exact ⟨b, off, hA, hb, fun j hj => hcell j _ (svs_get l j hj)⟩
theorem Ss.below {w w' : World} {B : Nat} {v : Value} {l : List (List UInt8)} (h : Ss w B v l) (hb : Below B w w') : Ss w' B v l := Sl.below h hb
theorem Ss.alloc {w : World} {B : Nat} {v : Value} {l : List (List UInt8)} (h : Ss w B v l) (hB : B ≤ w.heap.size) (o : Obj) : Ss (w.alloc o) B v l := Sl.alloc h hB o
theorem Ss.more {w : World} {B B' : Nat} {v : Value} {l : List (List UInt8)} (h : Ss w B v l) (hB : B ≤ B') : Ss w B' v l := Sl.more h hB
/-- v is nil or a row of the call's own that holds just these texts. -/
def OwnS (w : World) (base : Nat) (e : TypeId) (v : Value) (l : List (List UInt8)) : Prop := ∃ n, w.ownsRow base e 1 v n (svs l)
section
variable {w w' : World} {base : Nat} {e : TypeId} {v : Value} {l : List (List UInt8)}
theorem OwnS.nil (w : World) (base : Nat) (e : TypeId) : OwnS w base e (.slice none 0 0) [] := ⟨0, World.ownsRow_nil _ _ _ _⟩
theorem OwnS.ss (h : OwnS w base e v l) : Ss w w.heap.size v l := by obtain ⟨n, h⟩ := h; exact Sl.of_own h
theorem OwnS.below (h : OwnS w base e v l) (hb : Below w.heap.size w w') : OwnS w' base e v l := by obtain ⟨n, h⟩ := h; exact ⟨n, own_below h hb⟩
theorem OwnS.alloc (h : OwnS w base e v l) (o : Obj) : OwnS (w.alloc o) base e v l := by obtain ⟨n, h⟩ := h; exact ⟨n, h.alloc o⟩
theorem OwnS.drewN (h : OwnS w base e v l) (k : Nat) : OwnS (w.drewN k) base e v l := h
theorem OwnS.lt (h : OwnS w base e v l) : ∀ k, v.ownBlock = some k → base ≤ k ∧ k < w.heap.size := by obtain ⟨n, h⟩ := h; exact h.lt
theorem OwnS.turn {G : Nat → Prop} (h : OwnS w base e v l) (t : Turn G w w') (hd : ∀ g, v.ownBlock = some g → ¬ G g) : OwnS w' base e v l := by obtain ⟨n, h⟩ := h; exact ⟨n, own_turn h t hd⟩
theorem OwnS.row (h : OwnS w base e v l) : w.ownsRow base e 1 v l.length (svs l) := by
  obtain ⟨n, h⟩ := h
  have hn : n = l.length := by have := h.1; rw [svs_length] at this; omega
  subst hn; exact h
end
theorem wpList_appS {P : Program} {w : World} {ops : Array Oper} {rest : List Oper} {o : Oper} {a : Act} {Q : Exit → Act → World → Prop} (hgd : o.guard = none) (s x : Operand) (t : TypeId)
    (ho : o.op = .call { callee := .builtin .append, args := #[s, x], argTypes := #[t, t] })
    (base : Nat) {e : TypeId} {z : Value} (hE : ElemIs P t e z 1 16) (v y : Value) (hs : a.eval s = v) (hx : a.eval x = y)
    {l : List (List UInt8)} (hown : OwnS w base e v l) {B : Nat} {m : List (List UInt8)} (hy : Ss w B y m)
    (hlen : l.length + m.length ≤ 8796093022208) (hbase : base ≤ w.heap.size)
    (h : ∀ v' w', OwnS w' base e v' (l ++ m) → w.grownBy w' v.ownBlock → (v'.ownBlock = v.ownBlock ∨ v'.ownBlock = some w.heap.size) → wpList P ops Q rest (a.put o.dst v') w') :
    wpList P ops Q (o :: rest) a w :=
  wpList_app hgd s x t ho base hE v y hs hx hown.row hy (svs_one _) (by simp only [svs_length, maxLen]; omega) (by rw [svs_length]; omega) hbase
    (fun v' w' n' h1 h2 h3 => h v' w' ⟨n', by rw [svs_append]; exact h1⟩ h2 h3)
theorem below_appS {B : Nat} {a w w' : World} {base : Nat} {e : TypeId} {v : Value} {l : List (List UInt8)} (h : Below B a w) (hown : OwnS w base e v l) (hg : w.grownBy w' v.ownBlock) (hB : B ≤ base) (hs : B ≤ w.heap.size) : Below B a w' :=
  h.grown hg hs fun k hk => Nat.le_trans hB (hown.lt k hk).1
/-- A fresh block of one text, as 'append(l, x)' lays it. -/
theorem ss_new (w : World) (x : List UInt8) (t : TypeId) : Ss (w.alloc (.cells #[sv x] t)) (w.heap.size + 1) (.slice (some ⟨w.heap.size, 0, none⟩) 1 1) [x] :=
  sl_new w #[sv x] t 1 1 rfl (by decide)

theorem turn_set (w : World) (b i : Nat) (v : Value) : Turn (fun k => k = b) w (w.setCell ⟨b, i, none⟩ v) :=
  ⟨rfl, rfl, rfl, by simp, fun k _ hF => heap_setCell_other w _ k v hF⟩
end Go.Proofs.YtbpedjkebemhnaaGreatDoor

/- Opening arguments: what a slice of texts that came in reads as. -/
set_option linter.unusedVariables false
namespace Go.Proofs.YtbpedjkebemhnaaGreatDoor
open Go.ChangeShapes Go.WideShapes Go.ChangeAt Go.RowKit
section
variable {H : Type} {enc : TypeId × Value → H} {P : Program} {W : World}
theorem sv_of (s : ByteArray) : Value.string s = sv s.data.toList := by
  show Value.string s = Value.string ⟨s.data.toList.toArray⟩
  simp
end
end Go.Proofs.YtbpedjkebemhnaaGreatDoor

/- Opening arguments: what a slice of bytes that came in reads as. -/
set_option linter.unusedVariables false
namespace Go.Proofs.YtbpedjkebemhnaaGreatDoor
open Go.ChangeShapes Go.WideShapes Go.ChangeAt Go.RowKit
section
variable {H : Type} {enc : TypeId × Value → H} {P : Program} {W : World}
end
end Go.Proofs.YtbpedjkebemhnaaGreatDoor

/- Steps of regions that draw their order. -/
set_option linter.unusedVariables false
namespace Go.Proofs.YtbpedjkebemhnaaGreatDoor
open Go.RowKit

/-- append onto a row of the call's own, as one step. -/
theorem step_app {P : Program} {ops : Array Oper} {o : Oper} {a : Act} {w : World} {K : Act → World → Prop} {Q : Exit → Act → World → Prop} {E : Prop} (hgd : o.guard = none) (s x : Operand) (t : TypeId)
    (ho : o.op = .call { callee := .builtin .append, args := #[s, x], argTypes := #[t, t] })
    (base : Nat) {e : TypeId} {z : Value} {size bytes : Nat} (hE : ElemIs P t e z size bytes) (v y : Value) (hs : a.eval s = v) (hx : a.eval x = y)
    {n : Nat} {xs : List Value} (hown : w.ownsRow base e size v n xs) {B : Nat} {news : List Value} (hy : Sl w B size y news) (h1 : ∀ u ∈ news, u.oneCell' = true)
    (h63 : n * size + news.length ≤ maxLen) (hbytes : (n * size + news.length) * bytes ≤ 140737488355328) (hbase : base ≤ w.heap.size)
    (h : ∀ v' w' n', w'.ownsRow base e size v' n' (xs ++ news) → w.grownBy w' v.ownBlock → (v'.ownBlock = v.ownBlock ∨ v'.ownBlock = some w.heap.size) → K (a.put o.dst v') w') :
    if Region.wanted o (yielded ops a.tmps) = true then Oper.wp P o a w K Q else E := by
  have hw : Region.wanted o (yielded ops a.tmps) = true := by simp [Region.wanted, hgd]
  rw [if_pos hw]
  obtain ⟨v', w', n', hrun, h2, h3, h4⟩ := run_app (P := P) (ty := o.type) w base hE hown hy h1 h63 hbytes hbase
  unfold Oper.wp execOp
  simp only [ho, resolve, invoke, builtin, Sem.run_bind, Sem.run_pure, Result.andThen_ok, List.map_toArray, List.map_cons, List.map_nil, hs, hx, hrun]
  exact h v' w' n' h2 h3 h4
end Go.Proofs.YtbpedjkebemhnaaGreatDoor
end
