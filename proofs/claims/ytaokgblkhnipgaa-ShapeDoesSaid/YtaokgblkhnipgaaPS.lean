/- Shapes in plain Lean: a tree is the list of its shapes' names; what adding does, and what the maps of slots and of steps hold. -/
import Derived.Test.YtaokgblkhnipgaaMS
set_option linter.unusedVariables false
namespace Go.Proofs.Ytaokgblkhnipgaa
open Go.RowKit
open Go.Maps (has IsMap Keyed)

abbrev Nm := List UInt8
abbrev Dm := DataW Unit

theorem key_str (x : Nm) : WideAt.IsKeyLit (.string x) := by trivial
/-- A map of slots: each name's place. -/
def Slots (D : Dm) (l : List Nm) : Prop := ∀ x : Nm, has D (.string x) = decide (x ∈ l) ∧ ∀ z, x ∈ l → D.atKey (.string x) z = .lit (.int .i64 (l.idxOf x : Nat))
theorem slots_nil : Slots (.map []) [] := fun x => ⟨by rfl, fun z h => by cases h⟩
theorem slots_put {D : Dm} {l : List Nm} (hD : IsMap D) (h : Slots D l) {x : Nm} (hx : x ∉ l) : Slots (D.put (.string x) (.lit (.int .i64 (l.length : Nat)))) (l ++ [x]) := by
  intro y
  by_cases hy : y = x
  · subst hy
    refine ⟨by rw [Maps.has_put_same hD (key_str y)]; simp, fun z _ => ?_⟩
    rw [Maps.atKey_put_same hD (key_str y), List.idxOf_append, if_neg hx]
    simp
  · have hne : (Lit.string y) ≠ .string x := fun e => hy (by injection e)
    obtain ⟨h1, h2⟩ := h y
    refine ⟨?_, fun z hz => ?_⟩
    · rw [Maps.has_put_other hne, h1]; simp [hy]
    · have hl : y ∈ l := by simpa [hy] using hz
      rw [Maps.atKey_put_other hne, h2 z hl, List.idxOf_append, if_pos hl]

/-- A tree that may come about. -/
def Good (L : List (List Nm)) : Prop :=
  L.Nodup ∧ L[0]? = some [] ∧ (∀ l x, l ++ [x] ∈ L → l ∈ L) ∧ ∀ l ∈ L, l.Nodup ∧ l.length < L.length ∧ ∀ x ∈ l, x.length ≤ maxLen
theorem good_new : Good [[]] := by
  refine ⟨by simp, rfl, ?_, ?_⟩
  · intro l x h; simp at h
  · intro l h; simp at h; subst h; simp
theorem Good.pos {L : List (List Nm)} (h : Good L) : 0 < L.length := by
  have := h.2.1
  rcases L with _ | ⟨a, L⟩
  · simp at this
  · simp
theorem good_snoc {L : List (List Nm)} (h : Good L) {l : List Nm} (hl : l ∈ L) {x : Nm} (hx : x ∉ l) (hm : x.length ≤ maxLen) (hn : l ++ [x] ∉ L) : Good (L ++ [l ++ [x]]) := by
  obtain ⟨h1, h2, h3, h4⟩ := h
  refine ⟨?_, ?_, ?_, ?_⟩
  · rw [List.nodup_append]
    refine ⟨h1, by simp, fun a ha b hb e => ?_⟩
    simp at hb; subst hb; subst e; exact hn ha
  · have : 0 < L.length := by
      rcases L with _ | ⟨a, L⟩
      · simp at h2
      · simp
    rw [List.getElem?_append_left this]; exact h2
  · intro m y hy
    rw [List.mem_append] at hy ⊢
    rcases hy with hy | hy
    · exact .inl (h3 m y hy)
    · simp at hy
      obtain ⟨rfl, rfl⟩ := hy
      exact .inl hl
  · intro m hm2
    rw [List.mem_append] at hm2
    rcases hm2 with hm2 | hm2
    · obtain ⟨a, b, c⟩ := h4 m hm2
      exact ⟨a, by simp; omega, c⟩
    · simp at hm2
      subst hm2
      obtain ⟨a, b, c⟩ := h4 l hl
      refine ⟨?_, by simp; omega, ?_⟩
      · rw [List.nodup_append]
        exact ⟨a, by simp, fun p hp q hq e => hx (by simp at hq; subst hq; subst e; exact hp)⟩
      · intro y hy
        rw [List.mem_append] at hy
        rcases hy with hy | hy
        · exact c y hy
        · simp at hy; subst hy; exact hm

theorem sv_inj {a b : List UInt8} (h : sv a = sv b) : a = b := by
  unfold sv at h
  injection h with h
  injection h with h
  exact List.toArray_inj h

def stepV (s : Nat) (x : Nm) : Value := .agg #[.int .i64 (s : Int), sv x]
theorem stepV_inj {s s' : Nat} {x x' : Nm} (h : stepV s x = stepV s' x') : s = s' ∧ x = x' := by
  unfold stepV at h
  injection h with h
  injection h with h
  injection h with h1 h2
  injection h2 with h2 _
  injection h1 with _ h1
  exact ⟨Int.ofNat_inj.1 h1, sv_inj h2⟩

/-- The map of steps: where each shape with one more name lies. -/
def Steps (P : Program) (k : TypeId) (D : Dm) (L : List (List Nm)) : Prop :=
  ∀ (s : Nat) (x : Nm) (kl : Lit), keyOf P k (stepV s x) = some kl →
    (∀ (l : List Nm) (i : Nat), L[s]? = some l → L[i]? = some (l ++ [x]) → has D kl = true ∧ ∀ z, D.atKey kl z = .lit (.int .i64 (i : Nat))) ∧
    ((∀ l, L[s]? = some l → l ++ [x] ∉ L) → has D kl = false)
theorem steps_new (P : Program) (k : TypeId) : Steps P k (.map []) [[]] := by
  intro s x kl h
  refine ⟨fun l i h1 h2 => ?_, fun _ => rfl⟩
  rcases i with _ | i <;> simp at h2

theorem steps_put {P : Program} {k : TypeId} (K : Keyed P k) {D : Dm} {L : List (List Nm)} (hD : IsMap D) (hG : Good L) (h : Steps P k D L) {s0 : Nat} {x0 : Nm} {l0 : List Nm} (hs : L[s0]? = some l0) (hn : l0 ++ [x0] ∉ L) {kl0 : Lit} (hk : keyOf P k (stepV s0 x0) = some kl0) :
    Steps P k (D.put kl0 (.lit (.int .i64 (L.length : Nat)))) (L ++ [l0 ++ [x0]]) := by
  obtain ⟨g1, g2, g3, g4⟩ := hG
  have hs0 : s0 < L.length := by
    rcases Nat.lt_or_ge s0 L.length with h | h
    · exact h
    · rw [List.getElem?_eq_none h] at hs; cases hs
  intro s x kl hkl
  by_cases he : kl = kl0
  · subst he
    obtain ⟨rfl, rfl⟩ := stepV_inj (K.inj hkl hk)
    have hs' : (L ++ [l0 ++ [x]])[s]? = some l0 := by rw [List.getElem?_append_left hs0]; exact hs
    refine ⟨fun l i h1 h2 => ?_, fun hf => ?_⟩
    · rw [hs'] at h1
      obtain rfl : l0 = l := Option.some.inj h1
      have hi : i = L.length := by
        rcases Nat.lt_trichotomy i L.length with hlt | heq | hgt
        · rw [List.getElem?_append_left hlt] at h2
          exact absurd (List.mem_of_getElem? h2) hn
        · exact heq
        · rw [List.getElem?_eq_none (by simp; omega)] at h2; cases h2
      subst hi
      exact ⟨Maps.has_put_same hD (K.key hk) _, fun z => Maps.atKey_put_same hD (K.key hk) _ z⟩
    · exact absurd (List.mem_append_right _ (by simp)) (hf l0 hs')
  · obtain ⟨h1, h2⟩ := h s x kl hkl
    have hne : ¬ (s = s0 ∧ x = x0) := fun ⟨ha, hb⟩ => he (by subst ha; subst hb; rw [hkl] at hk; exact Option.some.inj hk)
    refine ⟨fun l i ha hb => ?_, fun hf => ?_⟩
    · rw [Maps.has_put_other he]
      have hfree : s < L.length ∧ i < L.length := by
        rcases Nat.lt_or_ge s L.length with hlt | hge
        · refine ⟨hlt, ?_⟩
          rcases Nat.lt_or_ge i L.length with hli | hgi
          · exact hli
          · exfalso
            rw [List.getElem?_append_left hlt] at ha
            rw [List.getElem?_append_right hgi] at hb
            have : i - L.length = 0 := by
              rcases Nat.eq_zero_or_pos (i - L.length) with h | h
              · exact h
              · rw [List.getElem?_eq_none (by simp; omega)] at hb; cases hb
            rw [this] at hb
            simp at hb
            obtain ⟨rfl, rfl⟩ := hb
            refine hne ⟨?_, rfl⟩
            exact (List.getElem?_inj hlt g1).1 (ha.trans hs.symm)
        · exfalso
          rw [List.getElem?_append_right hge] at ha
          have : s - L.length = 0 := by
            rcases Nat.eq_zero_or_pos (s - L.length) with h | h
            · exact h
            · rw [List.getElem?_eq_none (by simp; omega)] at ha; cases ha
          rw [this] at ha
          simp at ha
          subst ha
          have hmem := List.mem_of_getElem? hb
          rw [List.mem_append] at hmem
          rcases hmem with hmem | hmem
          · exact hn (g3 _ _ hmem)
          · simp at hmem
      rw [List.getElem?_append_left hfree.1] at ha
      rw [List.getElem?_append_left hfree.2] at hb
      obtain ⟨c1, c2⟩ := h1 l i ha hb
      exact ⟨c1, fun z => (Maps.atKey_put_other he _ z).trans (c2 z)⟩
    · rw [Maps.has_put_other he]
      refine h2 fun l hl hm => ?_
      have hlt : s < L.length := by
        rcases Nat.lt_or_ge s L.length with h | h
        · exact h
        · rw [List.getElem?_eq_none h] at hl; cases hl
      exact hf l (by rw [List.getElem?_append_left hlt]; exact hl) (List.mem_append_left _ hm)

/-- Adding a name to shape s (there is one). -/
def addT (L : List (List Nm)) (s : Nat) (x : Nm) : List (List Nm) × Nat :=
  if x ∈ L.getD s [] then (L, s) else if L.getD s [] ++ [x] ∈ L then (L, L.idxOf (L.getD s [] ++ [x])) else (L ++ [L.getD s [] ++ [x]], L.length)
/-- .. to any. -/
def addL (L : List (List Nm)) (s : Int) (x : Nm) : List (List Nm) × Int × Int :=
  if 0 ≤ s ∧ s < L.length then ((addT L s.toNat x).1, ((addT L s.toNat x).2 : Int), 0) else (L, 0, 1)
def ofT (r : List (List Nm) × Nat) (names : List Nm) : List (List Nm) × Nat := names.foldl (fun r x => addT r.1 r.2 x) r
def slotL (L : List (List Nm)) (s : Int) (x : Nm) : Int × Bool :=
  if 0 ≤ s ∧ s < L.length ∧ x ∈ L.getD s.toNat [] then (((L.getD s.toNat []).idxOf x : Nat), true) else (0, false)
def namesL (L : List (List Nm)) (s : Int) : List Nm := if 0 ≤ s ∧ s < L.length then L.getD s.toNat [] else []

theorem getD_mem {L : List (List Nm)} {s : Nat} (h : s < L.length) : L.getD s [] ∈ L := by
  rw [List.getD_eq_getElem?_getD, List.getElem?_eq_getElem h]; exact List.getElem_mem h
theorem getD_get {L : List (List Nm)} {s : Nat} (h : s < L.length) : L[s]? = some (L.getD s []) := by
  rw [List.getD_eq_getElem?_getD, List.getElem?_eq_getElem h]; rfl
theorem addT_good {L : List (List Nm)} (h : Good L) {s : Nat} (hs : s < L.length) {x : Nm} (hx : x.length ≤ maxLen) : Good (addT L s x).1 ∧ (addT L s x).2 < (addT L s x).1.length ∧ L.length ≤ (addT L s x).1.length ∧ (addT L s x).1.length ≤ L.length + 1 := by
  unfold addT
  split
  · exact ⟨h, hs, Nat.le_refl _, Nat.le_succ _⟩
  · split
    · rename_i h1 h2
      exact ⟨h, List.idxOf_lt_length_iff.2 h2, Nat.le_refl _, Nat.le_succ _⟩
    · rename_i h1 h2
      exact ⟨good_snoc h (getD_mem hs) h1 hx h2, by simp, by simp, by simp⟩
end Go.Proofs.Ytaokgblkhnipgaa
