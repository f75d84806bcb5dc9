/- What names make a shape: the plain laws of layer 15. -/
import Derived.Test.YtaokgblkhnipgaaSF
set_option linter.unusedVariables false
namespace Go.Proofs.Ytaokgblkhnipgaa
open Go.RowKit

/-- Names that are added, one behind the other. -/
def ext (f : List Nm) (l : List Nm) : List Nm := l.foldl (fun f x => if x ∈ f then f else f ++ [x]) f
theorem ext_snoc (f l : List Nm) (x : Nm) : ext f (l ++ [x]) = if x ∈ ext f l then ext f l else ext f l ++ [x] := by unfold ext; rw [List.foldl_append]; rfl
theorem ext_append (f l m : List Nm) : ext f (l ++ m) = ext (ext f l) m := by unfold ext; rw [List.foldl_append]
theorem ext_prefix (f : List Nm) : ∀ l : List Nm, ∃ r, ext f l = f ++ r
  | [] => ⟨[], by simp [ext]⟩
  | x :: l => by
    have : ext f (x :: l) = ext (if x ∈ f then f else f ++ [x]) l := rfl
    rw [this]
    obtain ⟨r, hr⟩ := ext_prefix (if x ∈ f then f else f ++ [x]) l
    rw [hr]
    split
    · exact ⟨r, rfl⟩
    · exact ⟨x :: r, by simp⟩
theorem mem_ext (y : Nm) : ∀ (l : List Nm) (f : List Nm), y ∈ ext f l ↔ y ∈ f ∨ y ∈ l
  | [], f => by simp [ext]
  | x :: l, f => by
    have : ext f (x :: l) = ext (if x ∈ f then f else f ++ [x]) l := rfl
    rw [this, mem_ext y l]
    split
    · rename_i h
      constructor
      · rintro (h1 | h1)
        · exact .inl h1
        · exact .inr (List.mem_cons_of_mem _ h1)
      · rintro (h1 | h1)
        · exact .inl h1
        · rcases List.mem_cons.1 h1 with rfl | h1
          · exact .inl h
          · exact .inr h1
    · simp only [List.mem_append, List.mem_cons, List.not_mem_nil, or_false]
      constructor
      · rintro ((h1 | h1) | h1)
        · exact .inl h1
        · exact .inr (.inl h1)
        · exact .inr (.inr h1)
      · rintro (h1 | h1 | h1)
        · exact .inl (.inl h1)
        · exact .inl (.inr h1)
        · exact .inr h1
theorem idx_ext {f l : List Nm} {y : Nm} (h : y ∈ f) : (ext f l).idxOf y = f.idxOf y := by
  obtain ⟨r, hr⟩ := ext_prefix f l
  rw [hr, List.idxOf_append, if_pos h]
theorem idx_ext_new {f l : List Nm} {y : Nm} (h : y ∉ f) : f.length ≤ (ext f l).idxOf y := by
  obtain ⟨r, hr⟩ := ext_prefix f l
  rw [hr, List.idxOf_append, if_neg h]
  omega
/-- The place of a name that was not met before is the number of those that were. -/
theorem idx_first {l : List Nm} {k : Nat} (hk : k < l.length) (h : l[k] ∉ l.take k) : (ext [] l).idxOf l[k] = (ext [] (l.take k)).length := by
  have e : l = l.take k ++ ([l[k]] ++ l.drop (k + 1)) := by rw [List.singleton_append, ← List.drop_eq_getElem_cons hk, List.take_append_drop]
  have h1 : l[k] ∉ ext [] (l.take k) := fun hh => h (by simpa using (mem_ext _ _ _).1 hh)
  have h2 : ext [] l = ext (ext [] (l.take k) ++ [l[k]]) (l.drop (k + 1)) := by
    conv => lhs; rw [e]
    rw [ext_append, ext_append]
    congr 1
    have : ext (ext [] (l.take k)) [l[k]] = if l[k] ∈ ext [] (l.take k) then ext [] (l.take k) else ext [] (l.take k) ++ [l[k]] := rfl
    rw [this, if_neg h1]
  rw [h2, idx_ext (by simp), List.idxOf_append, if_neg h1]
  simp
theorem len_ext_take {l : List Nm} {k : Nat} (hk : k < l.length) : (ext [] (l.take (k + 1))).length = if l[k] ∈ l.take k then (ext [] (l.take k)).length else (ext [] (l.take k)).length + 1 := by
  rw [List.take_succ_eq_append_getElem hk, ext_snoc]
  have h : l[k] ∈ ext [] (l.take k) ↔ l[k] ∈ l.take k := by rw [mem_ext]; simp
  by_cases hh : l[k] ∈ l.take k
  · rw [if_pos (h.2 hh), if_pos hh]
  · rw [if_neg (fun x => hh (h.1 x)), if_neg hh]; simp

theorem addT_names {L : List (List Nm)} {s : Nat} (hs : s < L.length) (x : Nm) : (∃ r, (addT L s x).1 = L ++ r) ∧ (addT L s x).1.getD (addT L s x).2 [] = if x ∈ L.getD s [] then L.getD s [] else L.getD s [] ++ [x] := by
  unfold addT
  by_cases h1 : x ∈ L.getD s []
  · rw [if_pos h1, if_pos h1]; exact ⟨⟨[], by simp⟩, rfl⟩
  · rw [if_neg h1, if_neg h1]
    by_cases h2 : L.getD s [] ++ [x] ∈ L
    · rw [if_pos h2]
      refine ⟨⟨[], by simp⟩, ?_⟩
      have hi := List.idxOf_lt_length_iff.2 h2
      show L.getD (L.idxOf (L.getD s [] ++ [x])) [] = _
      generalize L.getD s [] ++ [x] = nx at *
      rw [List.getD_eq_getElem?_getD, List.getElem?_eq_getElem hi, List.getElem_idxOf hi]; rfl
    · rw [if_neg h2]
      refine ⟨⟨_, rfl⟩, ?_⟩
      simp
theorem ofT_names {L : List (List Nm)} {s : Nat} (hG : Good L) (hs : s < L.length) {l : List Nm} (hm : ∀ y ∈ l, y.length ≤ maxLen) (k : Nat) (hk : k ≤ l.length) :
    (∃ r, (ofT (L, s) (l.take k)).1 = L ++ r) ∧ (ofT (L, s) (l.take k)).1.getD (ofT (L, s) (l.take k)).2 [] = ext (L.getD s []) (l.take k) := by
  induction k with
  | zero => exact ⟨⟨[], by simp [ofT]⟩, rfl⟩
  | succ k ih =>
    obtain ⟨⟨r, hr⟩, b⟩ := ih (by omega)
    obtain ⟨a1, a2, a3, a4⟩ := ofT_good hG hs hm k (by omega)
    obtain ⟨⟨r2, hr2⟩, b2⟩ := addT_names a2 l[k]
    rw [ofT_take (by omega)]
    refine ⟨⟨r ++ r2, by rw [hr2, hr, List.append_assoc]⟩, ?_⟩
    rw [b2, b, List.take_succ_eq_append_getElem (by omega), ext_snoc]
theorem getD_more {L r : List (List Nm)} {s : Nat} (hs : s < L.length) : (L ++ r).getD s [] = L.getD s [] := by
  rw [List.getD_eq_getElem?_getD, List.getD_eq_getElem?_getD, List.getElem?_append_left hs]
theorem good_inj {L : List (List Nm)} (hG : Good L) {a b : Nat} (ha : a < L.length) (hb : b < L.length) (h : L.getD a [] = L.getD b []) : a = b :=
  (List.getElem?_inj ha hG.1).1 (by rw [getD_get ha, getD_get hb, h])

/-- Of a tree of one chain there are as many shapes as names, and one. -/
theorem ofT_len {l : List Nm} (hm : ∀ y ∈ l, y.length ≤ maxLen) (k : Nat) (hk : k ≤ l.length) :
    (ofT ([[]], 0) (l.take k)).1.length = (ext [] (l.take k)).length + 1 ∧ ∀ m ∈ (ofT ([[]], 0) (l.take k)).1, m.length ≤ (ext [] (l.take k)).length := by
  induction k with
  | zero => exact ⟨rfl, by simp [ofT]⟩
  | succ k ih =>
    obtain ⟨a, b⟩ := ih (by omega)
    obtain ⟨_, n2⟩ := ofT_names (s := 0) good_new (by simp) hm k (by omega)
    have e0 : ([[]] : List (List Nm)).getD 0 [] = [] := rfl
    rw [e0] at n2
    rw [ofT_take (by omega), List.take_succ_eq_append_getElem (by omega), ext_snoc]
    unfold addT
    rw [n2]
    by_cases h : l[k] ∈ ext [] (l.take k)
    · rw [if_pos h, if_pos h]; exact ⟨a, b⟩
    · rw [if_neg h, if_neg h, if_neg (fun hh => by have := b _ hh; simp at this; omega)]
      refine ⟨by simp [a], fun m hmm => ?_⟩
      rw [List.mem_append] at hmm
      rcases hmm with hmm | hmm
      · have := b m hmm; simp; omega
      · simp at hmm; subst hmm; simp
end Go.Proofs.Ytaokgblkhnipgaa
