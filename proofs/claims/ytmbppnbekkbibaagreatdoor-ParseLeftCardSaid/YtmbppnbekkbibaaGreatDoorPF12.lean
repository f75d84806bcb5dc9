/- RS, RT, RU, RV, PT, HJ -/
import Derived.Test.YtmbppnbekkbibaaGreatDoorPF02
import Derived.Test.YtmbppnbekkbibaaGreatDoorPF01
import Derived.Test.YtmbppnbekkbibaaGreatDoorPF11
import Derived.Recover
set_option linter.unusedSimpArgs false
set_option linter.unusedVariables false
section
/- Two rows of tokens that are the same but for their lines, and for what stands behind them, are read as the same. -/
set_option linter.unusedVariables false
namespace Go.Proofs.YtmbppnbekkbibaaGreatDoor

def shT (k : Nat) (t : TokD) : TokD := { t with line := t.line + k }
mutual
def shN (k : Nat) : NoD → NoD
  | .mk kd t n l c ts ns ks => .mk kd t n (l + k) c ts ns (shNs k ks)
def shNs (k : Nat) : List NoD → List NoD
  | [] => []
  | x :: l => shN k x :: shNs k l
end
theorem shNs_map (k : Nat) : ∀ l : List NoD, shNs k l = l.map (shN k)
  | [] => by simp [shNs]
  | t :: l => by simp [shNs, shNs_map k l]
theorem sh_node (k : Nat) (kd : Int) (text : Bt) (n : Int) (h : TokD) (types : List TyD) (names : List Bt) (kids : List NoD) : nodeD kd text n (shT k h) types names (kids.map (shN k)) = shN k (nodeD kd text n h types names kids) := by
  unfold nodeD
  rw [shN, shNs_map]
  simp [shT]
theorem sh_leaf (k : Nat) (kd : Int) (text : Bt) (n : Int) (h : TokD) (types : List TyD) (names : List Bt) : nodeD kd text n (shT k h) types names [] = shN k (nodeD kd text n h types names []) := sh_node k kd text n h types names []
/-- What stands behind: an end, or a bracket that closes. -/
def EndX (X : List TokD) : Prop := ∃ x r, X = x :: r ∧ (x.kind = 0 ∨ (x.kind = 5 ∧ x.text = [41]))
theorem isT_sh (k : Nat) (t : TokD) (s : Bt) : isT (shT k t) s = isT t s := rfl
theorem isT_end {E : TokD} (hE : E.kind = 0) (s : Bt) : isT E s = false := by unfold isT; rw [hE]; rfl
theorem isT_endX {x : TokD} (h : x.kind = 0 ∨ (x.kind = 5 ∧ x.text = [41])) {s : Bt} (hs : s ≠ [41]) : isT x s = false := by
  rcases h with h | ⟨h, h2⟩
  · exact isT_end h s
  · unfold isT; rw [h2, beq_false_of_ne (Ne.symm hs), Bool.and_false]

section
variable {α β : Type} (k : Nat) (D : Prop) (E : TokD) (X : List TokD)
/-- What p reads of u and an end, q reads of u, shifted, and what stands behind: or it is too deep. -/
def SimAt (R : α → α → List TokD → Prop) (p q : Ps α) (u : List TokD) : Prop := ∀ a r, p (u ++ [E]) = .good a r →
  (∃ v b, r = v ++ [E] ∧ v <:+ u ∧ q (u.map (shT k) ++ X) = .good b (v.map (shT k) ++ X) ∧ R a b v) ∨ (D ∧ ∃ l c, q (u.map (shT k) ++ X) = .bad (l, c, 6))
end
section
variable {α β : Type} {k : Nat} {D : Prop} {E : TokD} {X : List TokD} {R : α → α → List TokD → Prop} {S : β → β → List TokD → Prop} {u : List TokD}
theorem SimAt.ret {a b : α} (h : R a b u) : SimAt k D E X R (retP a) (retP b) u := by
  intro x r hx
  injection hx with h1 h2
  subst h1 h2
  exact .inl ⟨u, b, rfl, List.suffix_refl _, rfl, h⟩
theorem SimAt.then_ {p q : Ps α} {f g : α → Ps β} (h : SimAt k D E X R p q u) (hf : ∀ a b v, v <:+ u → R a b v → SimAt k D E X S (f a) (g b) v) : SimAt k D E X S (thenP p f) (thenP q g) u := by
  intro x r hx
  unfold thenP at hx
  rcases hp : p (u ++ [E]) with d | ⟨a, r1⟩
  · rw [hp] at hx; cases hx
  · rw [hp] at hx
    rcases h a r1 hp with ⟨v, b, rfl, hv, hq, hR⟩ | ⟨hD, l, c, hq⟩
    · rcases hf a b v hv hR x r hx with ⟨v2, b2, e2, hv2, hq2, hS⟩ | ⟨hD, l, c, hq2⟩
      · exact .inl ⟨v2, b2, e2, hv2.trans hv, by rw [thenP_good hq]; exact hq2, hS⟩
      · exact .inr ⟨hD, l, c, by rw [thenP_good hq]; exact hq2⟩
    · exact .inr ⟨hD, l, c, thenP_bad hq⟩
theorem SimAt.bad {p q : Ps α} (h : ∀ a r, p (u ++ [E]) ≠ .good a r) : SimAt k D E X R p q u := fun a r hx => absurd hx (h a r)
theorem SimAt.fail {e : Int} {q : Ps α} : SimAt k D E X R (failP e) q u := .bad fun a r h => by cases h
theorem SimAt.mono {p q : Ps α} {R' : α → α → List TokD → Prop} (h : SimAt k D E X R p q u) (hR : ∀ a b v, R a b v → R' a b v) : SimAt k D E X R' p q u := fun a r hx => by
  rcases h a r hx with ⟨v, b, h1, h2, h3, h4⟩ | h
  · exact .inl ⟨v, b, h1, h2, h3, hR _ _ _ h4⟩
  · exact .inr h
/-- With the fuel that there is. -/
theorem SimAt.fuel {p q : Nat → Ps α} (h : ∀ f g, u.length < f → u.length < g → SimAt k D E X R (p f) (q g) u) (hX : EndX X) : SimAt k D E X R (fun ts => p ts.length ts) (fun ts => q ts.length ts) u := by
  obtain ⟨x, X', rfl, _⟩ := hX
  have := h (u ++ [E]).length (u.map (shT k) ++ x :: X').length (by simp) (by simp)
  exact this
variable (hE : E.kind = 0) (hX : EndX X)
include hE hX
/-- A word that is taken: u has it, or there is none at either end. -/
theorem SimAt.take_ {l : List Bt} (hl : ∀ s ∈ l, s ≠ [41]) : SimAt k D E X (fun i j v => i = j ∧ ((i = none ∧ v = u) ∨ (∃ t n, i = some n ∧ u = t :: v))) (takeP l) (takeP l) u := by
  obtain ⟨x, X', rfl, hx⟩ := hX
  intro a r h
  cases u with
  | nil =>
    have h1 : l.findIdx? (isT E) = none := List.findIdx?_eq_none_iff.2 fun s _ => isT_end hE s
    have h2 : l.findIdx? (isT x) = none := List.findIdx?_eq_none_iff.2 fun s hs => isT_endX hx (hl s hs)
    rw [List.nil_append, take_no h1] at h
    injection h with e1 e2
    subst e1 e2
    exact .inl ⟨[], none, rfl, List.suffix_refl _, take_no h2 _, rfl, .inl ⟨rfl, rfl⟩⟩
  | cons t u =>
    rw [List.cons_append] at h
    rcases hf : l.findIdx? (isT t) with _ | i
    · rw [take_no hf] at h
      injection h with e1 e2
      subst e1 e2
      exact .inl ⟨t :: u, none, rfl, List.suffix_refl _, take_no (t := shT k t) hf _, rfl, .inl ⟨rfl, rfl⟩⟩
    · rw [take_yes hf] at h
      injection h with e1 e2
      subst e1 e2
      exact .inl ⟨u, some i, rfl, List.suffix_cons _ _, take_yes (t := shT k t) hf _, rfl, .inr ⟨t, i, rfl, rfl⟩⟩
theorem SimAt.has {s : Bt} (hs : s ≠ [41]) : SimAt k D E X (fun i j v => i = j ∧ ((i = false ∧ v = u) ∨ (∃ t, i = true ∧ u = t :: v))) (hasP s) (hasP s) u := by
  obtain ⟨x, X', rfl, hx⟩ := hX
  intro a r h
  cases u with
  | nil =>
    rw [List.nil_append, has_no (isT_end hE s)] at h
    injection h with e1 e2
    subst e1 e2
    exact .inl ⟨[], false, rfl, List.suffix_refl _, has_no (isT_endX hx hs) _, rfl, .inl ⟨rfl, rfl⟩⟩
  | cons t u =>
    rw [List.cons_append] at h
    cases hb : isT t s
    · rw [has_no hb] at h
      injection h with e1 e2
      subst e1 e2
      exact .inl ⟨t :: u, false, rfl, List.suffix_refl _, has_no (t := shT k t) hb _, rfl, .inl ⟨rfl, rfl⟩⟩
    · rw [has_yes hb] at h
      injection h with e1 e2
      subst e1 e2
      exact .inl ⟨u, true, rfl, List.suffix_cons _ _, has_yes (t := shT k t) hb _, rfl, .inr ⟨t, rfl, rfl⟩⟩
omit hX in
theorem SimAt.want {s : Bt} : SimAt k D E X (fun _ _ v => ∃ t, u = t :: v) (wantP s) (wantP s) u := by
  intro a r h
  unfold wantP at h ⊢
  cases u with
  | nil =>
    rw [List.nil_append, thenP_good (has_no (isT_end hE s) _)] at h
    cases h
  | cons t u =>
    rw [List.cons_append] at h
    cases hb : isT t s
    · rw [thenP_good (has_no hb _)] at h
      cases h
    · rw [thenP_good (has_yes hb _)] at h
      injection h with e1 e2
      subst e2
      exact .inl ⟨u, (), rfl, List.suffix_cons _ _, thenP_good (has_yes (t := shT k t) hb _), t, rfl⟩
omit hX in
theorem SimAt.wants : ∀ (l : List Bt) {u : List TokD}, SimAt k D E X (fun _ _ _ => True) (wantsP l) (wantsP l) u
  | [], u => .ret trivial
  | s :: l, u => (SimAt.want hE).then_ fun _ _ v _ _ => SimAt.wants l
omit hX in
theorem SimAt.kind {n : Int} (hn : n ≠ 0) : SimAt k D E X (fun a b v => a = b ∧ ∃ t, u = t :: v ∧ a = t.text) (kindP n) (kindP n) u := by
  intro a r h
  unfold kindP at h ⊢
  cases u with
  | nil =>
    simp only [List.nil_append, nextP, List.headD_cons] at h
    rw [if_neg (by rw [hE]; exact fun e => hn e.symm)] at h
    cases h
  | cons t u =>
    simp only [List.cons_append, nextP, List.headD_cons, List.map_cons] at h ⊢
    by_cases hk : t.kind = n
    · rw [if_pos hk, if_neg hn] at h
      injection h with e1 e2
      subst e1 e2
      refine .inl ⟨u, t.text, rfl, List.suffix_cons _ _, ?_, rfl, t, rfl, rfl⟩
      rw [if_pos (show (shT k t).kind = n from hk), if_neg hn]; rfl
    · rw [if_neg hk] at h; cases h
omit hX in
theorem SimAt.name : SimAt k D E X (fun a b v => a = b) nameP nameP u := (SimAt.kind hE (by decide)).mono fun _ _ _ h => h.1
omit hX hE in
theorem SimAt.here : SimAt k D E X (fun h h' v => v = u ∧ ∀ t r, u = t :: r → h = t ∧ h' = shT k t) hereP hereP u := by
  intro a r h
  unfold hereP at h ⊢
  injection h with e1 e2
  subst e1 e2
  refine .inl ⟨u, _, rfl, List.suffix_refl _, rfl, rfl, ?_⟩
  rintro t r rfl
  exact ⟨rfl, rfl⟩
omit hX hE in
theorem sub_len {v u : List TokD} (h : v <:+ u) : v.length ≤ u.length := h.length_le
theorem SimAt.sepf {one two : Ps α} {Q : α → α → Prop} (h1 : ∀ u, SimAt k D E X (fun a b _ => Q a b) one two u) (n : Nat) : ∀ (u : List TokD) (f g : Nat) (l m : List α), u.length ≤ n → u.length < f → u.length < g → l.length = m.length → (∀ x ∈ l.zip m, Q x.1 x.2) →
    SimAt k D E X (fun a b _ => a.length = b.length ∧ ∀ x ∈ a.zip b, Q x.1 x.2) (sepF one f l) (sepF two g m) u := by
  induction n with
  | zero =>
    intro u f g l m hn hf hg hl hz
    obtain ⟨f, rfl⟩ : ∃ f', f = f' + 1 := ⟨f - 1, by omega⟩
    obtain ⟨g, rfl⟩ : ∃ f', g = f' + 1 := ⟨g - 1, by omega⟩
    refine (SimAt.has hE hX (by decide)).then_ fun a b v hv ⟨e, h⟩ => ?_
    subst e
    rcases h with ⟨rfl, rfl⟩ | ⟨t, rfl, rfl⟩
    · exact .ret ⟨hl, hz⟩
    · simp at hn
  | succ n ih =>
    intro u f g l m hn hf hg hl hz
    obtain ⟨f, rfl⟩ : ∃ f', f = f' + 1 := ⟨f - 1, by omega⟩
    obtain ⟨g, rfl⟩ : ∃ f', g = f' + 1 := ⟨g - 1, by omega⟩
    refine (SimAt.has hE hX (by decide)).then_ fun a b v hv ⟨e, h⟩ => ?_
    subst e
    rcases h with ⟨rfl, rfl⟩ | ⟨t, rfl, rfl⟩
    · exact .ret ⟨hl, hz⟩
    · refine (h1 v).then_ fun a b v2 hv2 hab => ?_
      have := sub_len hv2
      simp only [List.length_cons] at hn hf hg
      refine ih v2 f g _ _ (by omega) (by omega) (by omega) (by simp [hl]) ?_
      rw [List.zip_append hl]
      intro x hx
      rcases List.mem_append.1 hx with hx | hx
      · exact hz x hx
      · simp only [List.zip_cons_cons, List.zip_nil_right, List.mem_singleton] at hx
        subst hx; exact hab
theorem SimAt.sep {one two : Ps α} {Q : α → α → Prop} (h1 : ∀ u, SimAt k D E X (fun a b _ => Q a b) one two u) : SimAt k D E X (fun a b _ => a.length = b.length ∧ ∀ x ∈ a.zip b, Q x.1 x.2) (sepP one) (sepP two) u :=
  (h1 u).then_ fun a b v _ hab => SimAt.fuel (p := fun n => sepF one n [a]) (q := fun n => sepF two n [b]) (fun f g hf hg => SimAt.sepf hE hX h1 v.length v f g _ _ (Nat.le_refl _) hf hg rfl (by simpa using hab)) hX
omit hX hE in
theorem zip_eq {a b : List α} (hl : a.length = b.length) (h : ∀ x ∈ a.zip b, x.2 = x.1) : b = a := by
  induction a generalizing b with
  | nil => cases b with | nil => rfl | cons y b => simp at hl
  | cons x a ih =>
    cases b with
    | nil => simp at hl
    | cons y b =>
      have h1 := h (x, y) (by simp)
      simp only at h1
      rw [h1, ih (b := b) (by simpa using hl) (fun z hz => h z (by simp [hz]))]
omit hX hE in
theorem zip_map {a b : List α} {φ : α → α} (hl : a.length = b.length) (h : ∀ x ∈ a.zip b, x.2 = φ x.1) : b = a.map φ := by
  induction a generalizing b with
  | nil => cases b with | nil => rfl | cons y b => simp at hl
  | cons x a ih =>
    cases b with
    | nil => simp at hl
    | cons y b =>
      have h1 := h (x, y) (by simp)
      simp only at h1
      rw [h1, ih (b := b) (by simpa using hl) (fun z hz => h z (by simp [hz]))]; rfl
end
section
variable {k : Nat} {D : Prop} {E : TokD} {X : List TokD} {u : List TokD} (hE : E.kind = 0) (hX : EndX X)
abbrev EqT : TyD → TyD → List TokD → Prop := fun a b _ => b = a
abbrev ShE (k : Nat) : NoD → NoD → List TokD → Prop := fun a b _ => b = shN k a
variable {typ typ' : Ps TyD} (ht : ∀ u, SimAt k D E X EqT typ typ' u) {expr expr' unary unary' : Ps NoD} (he : ∀ u, SimAt k D E X (ShE k) expr expr' u) (hu : ∀ u, SimAt k D E X (ShE k) unary unary' u)
include hE hX ht
theorem SimAt.prim : SimAt k D E X EqT (primP typ) (primP typ') u := by
  refine (SimAt.take_ hE hX (by decide)).then_ fun a b v hv ⟨e, h⟩ => ?_
  subst e
  rcases a with _ | n
  · refine (SimAt.take_ hE hX (by decide)).then_ fun a b v hv ⟨e, h⟩ => ?_
    subst e
    rcases a with _ | _ | n
    · exact (SimAt.name hE).then_ fun a b v hv e => by subst e; exact .ret rfl
    · exact (ht _).then_ fun a b v hv e => by subst e; exact (SimAt.want hE).then_ fun _ _ v _ _ => .ret rfl
    · refine (SimAt.has hE hX (by decide)).then_ fun a b v hv ⟨e, h⟩ => ?_
      subst e
      cases a
      · refine (SimAt.sep (Q := fun a b => b = a) hE hX fun u => ?_).then_ fun a b v hv h => ?_
        · exact (SimAt.name hE).then_ fun a b v hv e => by subst e; exact (SimAt.want hE).then_ fun _ _ v _ _ => (ht _).then_ fun a b v hv e => by subst e; exact .ret rfl
        · obtain rfl := zip_eq h.1 h.2
          exact (SimAt.want hE).then_ fun _ _ v _ _ => .ret rfl
      · exact .ret rfl
  · exact .ret rfl
theorem SimAt.alt (n : Nat) : ∀ (u : List TokD) (f g : Nat) (l : List TyD), u.length ≤ n → u.length < f → u.length < g →
    SimAt k D E X (fun a b _ => b = a) (altF typ f l) (altF typ' g l) u := by
  induction n with
  | zero =>
    intro u f g l hn hf hg
    obtain ⟨f, rfl⟩ : ∃ f', f = f' + 1 := ⟨f - 1, by omega⟩
    obtain ⟨g, rfl⟩ : ∃ f', g = f' + 1 := ⟨g - 1, by omega⟩
    refine (SimAt.has hE hX (by decide)).then_ fun a b v hv ⟨e, h⟩ => ?_
    subst e
    rcases h with ⟨rfl, rfl⟩ | ⟨t, rfl, rfl⟩
    · exact .ret rfl
    · simp at hn
  | succ n ih =>
    intro u f g l hn hf hg
    obtain ⟨f, rfl⟩ : ∃ f', f = f' + 1 := ⟨f - 1, by omega⟩
    obtain ⟨g, rfl⟩ : ∃ f', g = f' + 1 := ⟨g - 1, by omega⟩
    refine (SimAt.has hE hX (by decide)).then_ fun a b v hv ⟨e, h⟩ => ?_
    subst e
    rcases h with ⟨rfl, rfl⟩ | ⟨t, rfl, rfl⟩
    · exact .ret rfl
    · refine (SimAt.prim hE hX ht).then_ fun a b v2 hv2 hab => ?_
      subst hab
      have := sub_len hv2
      simp only [List.length_cons] at hn hf hg
      exact ih v2 f g _ (by omega) (by omega) (by omega)
theorem SimAt.typp : SimAt k D E X EqT (typP typ) (typP typ') u := by
  refine (SimAt.prim hE hX ht).then_ fun a b v hv e => ?_
  subst e
  refine (SimAt.fuel (p := fun n => altF typ n [b]) (q := fun n => altF typ' n [b]) (fun f g hf hg => SimAt.alt hE hX ht v.length v f g _ (Nat.le_refl _) hf hg) hX).then_ fun a b v hv e => ?_
  subst e
  refine (SimAt.has hE hX (by decide)).then_ fun a b v hv ⟨e, h⟩ => ?_
  subst e
  cases a
  · exact .ret rfl
  · exact (ht _).then_ fun a b v hv e => by subst e; exact .ret rfl
theorem SimAt.note (l n : List TyD) : SimAt k D E X (fun a b _ => b = a) (noteR typ l n) (noteR typ' l n) u := by
  refine (SimAt.has hE hX (by decide)).then_ fun a b v hv ⟨e, h⟩ => ?_
  subst e
  cases a
  · exact .ret rfl
  · exact (ht _).then_ fun a b v hv e => by subst e; exact .ret rfl
theorem SimAt.head (n : List TyD) : SimAt k D E X (fun a b _ => b = a) (headP typ n) (headP typ' n) u := by
  refine (SimAt.want hE).then_ fun _ _ v _ _ => (SimAt.name hE).then_ fun a b v hv e => ?_
  subst e
  refine (SimAt.note hE hX ht _ _).then_ fun a b v hv e => ?_
  subst e
  refine (SimAt.want hE).then_ fun _ _ v _ _ => (SimAt.note hE hX ht _ _).then_ fun a b v hv e => ?_
  subst e
  exact .ret rfl
omit ht hX
include he
theorem SimAt.kids : ∀ (a : List Bt) (l : List NoD) {u : List TokD}, SimAt k D E X (fun a b _ => b = a.map (shN k)) (kidsP expr a l) (kidsP expr' a (l.map (shN k))) u
  | [], l, u => .ret rfl
  | s :: r, l, u => by
    refine SimAt.then_ (R := fun _ _ _ => True) ?_ fun _ _ v _ _ => ?_
    · by_cases hs : s = []
      · rw [if_pos hs]; exact .ret trivial
      · rw [if_neg hs]; exact (SimAt.want hE).mono fun _ _ _ _ => trivial
    · refine (he _).then_ fun a b v hv e => ?_
      subst e
      have := SimAt.kids r (l ++ [a]) (u := v)
      rwa [List.map_append] at this
omit he
include hX
theorem SimAt.left {sub sub' : Ps NoD} (hs : ∀ u, SimAt k D E X (ShE k) sub sub' u) {ops : List Bt} (ho : ∀ s ∈ ops, s ≠ [41]) (n : Nat) : ∀ (u : List TokD) (f g : Nat) (a : NoD), u.length ≤ n → u.length < f → u.length < g →
    SimAt k D E X (ShE k) (leftF ops sub f a) (leftF ops sub' g (shN k a)) u := by
  induction n with
  | zero =>
    intro u f g l hn hf hg
    obtain ⟨f, rfl⟩ : ∃ f', f = f' + 1 := ⟨f - 1, by omega⟩
    obtain ⟨g, rfl⟩ : ∃ f', g = f' + 1 := ⟨g - 1, by omega⟩
    refine SimAt.here.then_ fun a b v hv ⟨e, h1⟩ => ?_
    subst e
    refine (SimAt.take_ hE hX ho).then_ fun a b v hv ⟨e, h⟩ => ?_
    subst e
    rcases h with ⟨rfl, rfl⟩ | ⟨t, i, rfl, rfl⟩
    · exact .ret rfl
    · simp at hn
  | succ n ih =>
    intro u f g l hn hf hg
    obtain ⟨f, rfl⟩ : ∃ f', f = f' + 1 := ⟨f - 1, by omega⟩
    obtain ⟨g, rfl⟩ : ∃ f', g = f' + 1 := ⟨g - 1, by omega⟩
    refine SimAt.here.then_ fun a b v hv ⟨e, h1⟩ => ?_
    subst e
    refine (SimAt.take_ hE hX ho).then_ fun a b v hv ⟨e, h⟩ => ?_
    subst e
    rcases h with ⟨rfl, rfl⟩ | ⟨t, i, rfl, rfl⟩
    · exact .ret rfl
    · obtain ⟨rfl, rfl⟩ := h1 t v rfl
      refine (hs v).then_ fun a b v2 hv2 hab => ?_
      subst hab
      have := sub_len hv2
      simp only [List.length_cons] at hn hf hg
      exact ih v2 f g (nodeD 14 (ops.getD i []) 0 _ [] [] [l, a]) (by omega) (by omega) (by omega)
theorem SimAt.leftp {sub sub' : Ps NoD} (hs : ∀ u, SimAt k D E X (ShE k) sub sub' u) {ops : List Bt} (ho : ∀ s ∈ ops, s ≠ [41]) : SimAt k D E X (ShE k) (leftP ops sub) (leftP ops sub') u :=
  (hs u).then_ fun a b v hv e => by
    subst e
    exact SimAt.fuel (p := fun n => leftF ops sub n a) (q := fun n => leftF ops sub' n (shN k a)) (fun f g hf hg => SimAt.left hE hX hs ho v.length v f g a (Nat.le_refl _) hf hg) hX
include ht
theorem SimAt.cmp {sub sub' : Ps NoD} (hs : ∀ u, SimAt k D E X (ShE k) sub sub' u) : SimAt k D E X (ShE k) (cmpP typ sub) (cmpP typ' sub') u := by
  refine (hs u).then_ fun x b v hv e => ?_
  subst e
  refine SimAt.here.then_ fun a b v hv ⟨e, h1⟩ => ?_
  subst e
  refine (SimAt.take_ hE hX (by decide)).then_ fun a b v hv ⟨e, h⟩ => ?_
  subst e
  rcases h with ⟨rfl, rfl⟩ | ⟨t, i, rfl, rfl⟩
  · exact .ret rfl
  · obtain ⟨rfl, rfl⟩ := h1 t v rfl
    simp only
    by_cases h3 : i = 3
    · rw [if_pos h3, if_pos h3]
      refine (SimAt.take_ hE hX (by decide)).then_ fun a b v hv ⟨e, h⟩ => ?_
      subst e
      rcases a with _ | n
      · exact SimAt.fail
      · exact .ret rfl
    · rw [if_neg h3, if_neg h3]
      by_cases h4 : i = 4
      · rw [if_pos h4, if_pos h4]
        exact (ht _).then_ fun a b v hv e => by subst e; exact .ret rfl
      · rw [if_neg h4, if_neg h4]
        exact (hs _).then_ fun a b v hv e => by subst e; exact .ret rfl
include hu
theorem SimAt.rank : ∀ (f : Nat) {u : List TokD}, f ≤ 6 → SimAt k D E X (ShE k) (rankF typ unary f) (rankF typ' unary' f) u
  | 0, u, _ => hu u
  | f + 1, u, hf => by
    unfold rankF
    by_cases h3 : f = 3
    · rw [if_pos h3, if_pos h3]
      exact SimAt.cmp hE hX ht fun u => SimAt.rank f (by omega)
    · rw [if_neg h3, if_neg h3]
      refine SimAt.leftp hE hX (fun u => SimAt.rank f (by omega)) ?_
      have : f = 0 ∨ f = 1 ∨ f = 2 ∨ f = 4 ∨ f = 5 := by omega
      rcases this with rfl | rfl | rfl | rfl | rfl <;> decide
include he
theorem SimAt.exprp : SimAt k D E X (ShE k) (exprP typ expr unary) (exprP typ' expr' unary') u := by
  refine SimAt.here.then_ fun a b v hv ⟨e, h1⟩ => ?_
  subst e
  refine (SimAt.take_ hE hX (by decide)).then_ fun a b v hv ⟨e, h⟩ => ?_
  subst e
  rcases h with ⟨rfl, rfl⟩ | ⟨t, i, rfl, rfl⟩
  · exact SimAt.rank hE hX ht hu 6 (Nat.le_refl _)
  · obtain ⟨rfl, rfl⟩ := h1 t v rfl
    rcases i with _ | _ | i
    · refine (SimAt.name hE).then_ fun a b v hv e => ?_
      subst e
      refine (SimAt.note hE hX ht _ _).then_ fun a b v hv e => ?_
      subst e
      exact (SimAt.kids hE he _ []).then_ fun a b v hv e => by subst e; exact .ret (sh_node ..)
    · exact (SimAt.kids hE he _ []).then_ fun a b v hv e => by subst e; exact .ret (sh_node ..)
    · refine (SimAt.head hE hX ht _).then_ fun a b v hv e => ?_
      subst e
      exact (SimAt.kids hE he _ []).then_ fun a b v hv e => by subst e; exact .ret (sh_node ..)
omit hu ht hX
theorem SimAt.nfield : SimAt k D E X (fun a b _ => b = (a.1, shN k a.2)) (nfieldP expr) (nfieldP expr') u := by
  refine (SimAt.name hE).then_ fun a b v hv e => ?_
  subst e
  refine (SimAt.want hE).then_ fun _ _ v _ _ => (he _).then_ fun a b v hv e => ?_
  subst e
  exact .ret rfl
include hX
theorem SimAt.rec_ (t : TokD) : SimAt k D E X (ShE k) (recP expr t) (recP expr' (shT k t)) u := by
  have hX' := hX
  obtain ⟨x, X', rfl, hx⟩ := hX'
  refine SimAt.then_ (R := fun a b v => a = b ∧ v = u) ?_ fun a b v hv ⟨e, h⟩ => ?_
  · intro a r h
    unfold seenP at h ⊢
    injection h with e1 e2
    subst e1 e2
    refine .inl ⟨u, _, rfl, List.suffix_refl _, rfl, ?_, rfl⟩
    cases u with
    | nil => simp [nextP, isT_end hE, isT_endX hx (s := [125]) (by decide)]
    | cons t u => simp [nextP, isT_sh]
  · subst e h
    cases a
    · rw [if_neg Bool.false_ne_true, if_neg Bool.false_ne_true]
      refine SimAt.then_ (R := fun a b w => a = b ∧ w = v) ?_ fun a b v hv ⟨e, h⟩ => ?_
      · intro a r h
        unfold seenP at h ⊢
        injection h with e1 e2
        subst e1 e2
        refine .inl ⟨v, _, rfl, List.suffix_refl _, rfl, ?_, rfl⟩
        rcases v with _ | ⟨t, _ | ⟨t2, v⟩⟩
        · have hk : (x.kind == 1) = false := by rcases hx with hx | hx <;> simp [hx]
          simp [nextP, hE, hk]
        · simp [nextP, isT_end hE, isT_endX hx (s := [58]) (by decide)]
        · simp [nextP, isT_sh]; rfl
      · subst e h
        cases a
        · rw [if_neg Bool.false_ne_true, if_neg Bool.false_ne_true]
          refine (SimAt.kids hE he _ []).then_ fun m b v hv e => ?_
          subst e
          refine (SimAt.want hE).then_ fun _ _ v _ _ => (SimAt.name hE).then_ fun a b v hv e => ?_
          subst e
          exact (SimAt.kids hE he _ m).then_ fun a b v hv e => by subst e; exact .ret (sh_node ..)
        · rw [if_pos rfl, if_pos rfl]
          refine (SimAt.sep (Q := fun a b => b = (a.1, shN k a.2)) hE hX fun u => SimAt.nfield hE he).then_ fun a b v hv h => ?_
          obtain rfl := zip_map (φ := fun a : Bt × NoD => (a.1, shN k a.2)) h.1 h.2
          exact .ret (by have := sh_node k 8 [] 0 t [] (a.map (·.1)) (a.map (·.2)); simpa [Function.comp_def] using this)
    · exact .ret (sh_leaf ..)
omit he
include ht
theorem SimAt.named {h h' : TokD} (hh : ∀ t r, u = t :: r → h = t ∧ h' = shT k t) : SimAt k D E X (ShE k) (namedP typ h) (namedP typ' h') u := by
  refine (SimAt.kind hE (by decide)).then_ fun a b v hv ⟨e, t, hu, _⟩ => ?_
  subst e
  obtain ⟨rfl, rfl⟩ := hh t v hu
  refine (SimAt.has hE hX (by decide)).then_ fun a b v hv ⟨e, h⟩ => ?_
  subst e
  cases a
  · exact .ret (sh_leaf ..)
  · refine (SimAt.sep (Q := fun a b => b = a) hE hX fun u => ht u).then_ fun a b v hv h => ?_
    obtain rfl := zip_eq h.1 h.2
    exact (SimAt.want hE).then_ fun _ _ v _ _ => .ret (sh_leaf ..)
include he
theorem SimAt.atom : SimAt k D E X (ShE k) (atomP typ expr) (atomP typ' expr') u := by
  have hX' := hX
  obtain ⟨x, X', rfl, hx⟩ := hX'
  have hxk : ∀ n : Int, n = 3 ∨ n = 4 → x.kind ≠ n := by
    intro n hn h
    rcases hx with h1 | ⟨h1, _⟩ <;> omega
  refine SimAt.then_ (R := fun h h' v => v = u ∧ (∀ t r, u = t :: r → h = t ∧ h' = shT k t) ∧ (u = [] → h = E ∧ h' = x)) ?_ fun h h' v hv ⟨e, hh, hn⟩ => ?_
  · intro a r h
    unfold hereP at h ⊢
    injection h with e1 e2
    subst e1 e2
    refine .inl ⟨u, _, rfl, List.suffix_refl _, rfl, rfl, ?_, ?_⟩
    · rintro t r rfl
      exact ⟨rfl, rfl⟩
    · rintro rfl
      exact ⟨rfl, rfl⟩
  · subst e
    have hk : (h.kind = 3 ↔ h'.kind = 3) ∧ (h.kind = 4 ↔ h'.kind = 4) := by
      cases v with
      | nil =>
        obtain ⟨rfl, rfl⟩ := hn rfl
        have h3 := hxk 3 (.inl rfl)
        have h4 := hxk 4 (.inr rfl)
        rw [hE]
        exact ⟨⟨fun h => (by cases h), fun h => absurd h h3⟩, ⟨fun h => (by cases h), fun h => absurd h h4⟩⟩
      | cons t r =>
        obtain ⟨rfl, rfl⟩ := hh t r rfl
        exact ⟨Iff.rfl, Iff.rfl⟩
    by_cases h3 : h.kind = 3
    · rw [if_pos h3, if_pos (hk.1.1 h3)]
      refine (SimAt.kind hE (by decide)).then_ fun a b w hv ⟨e, t, hu, _⟩ => ?_
      subst e
      obtain ⟨rfl, rfl⟩ := hh t w hu
      exact .ret (sh_leaf ..)
    · rw [if_neg h3, if_neg (fun h => h3 (hk.1.2 h))]
      by_cases h4 : h.kind = 4
      · rw [if_pos h4, if_pos (hk.2.1 h4)]
        refine (SimAt.kind hE (by decide)).then_ fun a b w hv ⟨e, t, hu, _⟩ => ?_
        subst e
        obtain ⟨rfl, rfl⟩ := hh t w hu
        exact .ret (sh_leaf ..)
      · rw [if_neg h4, if_neg (fun h => h4 (hk.2.2 h))]
        refine (SimAt.take_ hE hX (by decide)).then_ fun a b w hv ⟨e, h1⟩ => ?_
        subst e
        rcases h1 with ⟨rfl, rfl⟩ | ⟨t, i, rfl, rfl⟩
        · exact SimAt.named hE hX ht hh
        · obtain ⟨rfl, rfl⟩ := hh t w rfl
          rcases i with _ | _ | _ | _ | _ | _ | i
          · exact .ret (sh_leaf ..)
          · exact .ret (sh_leaf ..)
          · exact .ret (sh_leaf ..)
          · exact (SimAt.wants hE _).then_ fun _ _ v _ _ => .ret (sh_leaf ..)
          · exact (SimAt.kids hE he _ []).then_ fun a b v hv e => by subst e; exact (SimAt.want hE).then_ fun _ _ v _ _ => .ret (sh_node ..)
          · exact (he _).then_ fun a b v hv e => by subst e; exact (SimAt.want hE).then_ fun _ _ v _ _ => .ret rfl
          · exact (SimAt.rec_ hE hX he _).then_ fun a b v hv e => by subst e; exact (SimAt.want hE).then_ fun _ _ v _ _ => .ret rfl
omit ht
theorem SimAt.postf (n : Nat) : ∀ (u : List TokD) (f g : Nat) (a : NoD), u.length ≤ n → u.length < f → u.length < g →
    SimAt k D E X (ShE k) (postF expr f a) (postF expr' g (shN k a)) u := by
  induction n with
  | zero =>
    intro u f g l hn hf hg
    obtain ⟨f, rfl⟩ : ∃ f', f = f' + 1 := ⟨f - 1, by omega⟩
    obtain ⟨g, rfl⟩ : ∃ f', g = f' + 1 := ⟨g - 1, by omega⟩
    refine SimAt.here.then_ fun a b v hv ⟨e, h1⟩ => ?_
    subst e
    refine (SimAt.take_ hE hX (by decide)).then_ fun a b v hv ⟨e, h⟩ => ?_
    subst e
    rcases h with ⟨rfl, rfl⟩ | ⟨t, i, rfl, rfl⟩
    · exact .ret rfl
    · simp at hn
  | succ n ih =>
    intro u f g l hn hf hg
    obtain ⟨f, rfl⟩ : ∃ f', f = f' + 1 := ⟨f - 1, by omega⟩
    obtain ⟨g, rfl⟩ : ∃ f', g = f' + 1 := ⟨g - 1, by omega⟩
    refine SimAt.here.then_ fun a b v hv ⟨e, h1⟩ => ?_
    subst e
    refine (SimAt.take_ hE hX (by decide)).then_ fun a b v hv ⟨e, h⟩ => ?_
    subst e
    rcases h with ⟨rfl, rfl⟩ | ⟨t, i, rfl, rfl⟩
    · exact .ret rfl
    · obtain ⟨rfl, rfl⟩ := h1 t v rfl
      simp only [List.length_cons] at hn hf hg
      rcases i with _ | i
      · refine (SimAt.kids hE he _ [l]).then_ fun a b v1 hv1 e => ?_
        subst e
        refine (SimAt.want hE).then_ fun _ _ v2 hv2 _ => ?_
        have := sub_len hv2
        have := sub_len hv1
        have h := fun x : TokD => ih v2 f g (nodeD 7 [] 0 x [] [] a) (by omega) (by omega) (by omega)
        simp only [← sh_node] at h
        exact h _
      · refine (SimAt.name hE).then_ fun a b v2 hv2 e => ?_
        subst e
        have := sub_len hv2
        exact ih v2 f g (nodeD 9 a 0 _ [] [] [l]) (by omega) (by omega) (by omega)
include ht
theorem SimAt.post : SimAt k D E X (ShE k) (postP typ expr) (postP typ' expr') u :=
  (SimAt.atom hE hX ht he).then_ fun a b v hv e => by
    subst e
    exact SimAt.fuel (p := fun n => postF expr n a) (q := fun n => postF expr' n (shN k a)) (fun f g hf hg => SimAt.postf hE hX he v.length v f g a (Nat.le_refl _) hf hg) hX
include hu
theorem SimAt.unaryp : SimAt k D E X (ShE k) (unaryP typ expr unary) (unaryP typ' expr' unary') u := by
  refine SimAt.here.then_ fun a b v hv ⟨e, h1⟩ => ?_
  subst e
  refine (SimAt.take_ hE hX (by decide)).then_ fun a b v hv ⟨e, h⟩ => ?_
  subst e
  rcases h with ⟨rfl, rfl⟩ | ⟨t, i, rfl, rfl⟩
  · exact SimAt.post hE hX ht he
  · obtain ⟨rfl, rfl⟩ := h1 t v rfl
    rcases i with _ | i
    · exact (hu _).then_ fun a b v hv e => by subst e; exact .ret rfl
    · exact (hu _).then_ fun a b v hv e => by subst e; exact .ret rfl
end
theorem SimAt.lev {k : Nat} {E : TokD} {X : List TokD} (hE : E.kind = 0) (hX : EndX X) : ∀ (m n : Nat), m ≤ n →
    (∀ u, SimAt k (m < n) E X EqT (levP n).typ (levP m).typ u) ∧ (∀ u, SimAt k (m < n) E X (ShE k) (levP n).expr (levP m).expr u) ∧ (∀ u, SimAt k (m < n) E X (ShE k) (levP n).unary (levP m).unary u)
  | 0, 0, _ => ⟨fun u => SimAt.fail, fun u => SimAt.fail, fun u => SimAt.fail⟩
  | 0, n + 1, _ => ⟨fun u a r h => .inr ⟨by omega, _, _, rfl⟩, fun u a r h => .inr ⟨by omega, _, _, rfl⟩, fun u a r h => .inr ⟨by omega, _, _, rfl⟩⟩
  | m + 1, 0, h => absurd h (by omega)
  | m + 1, n + 1, h => by
    have h1 := SimAt.lev (k := k) hE hX m n (by omega)
    have e : (m + 1 < n + 1) = (m < n) := by simp
    rw [e]
    obtain ⟨h1, h2, h3⟩ := h1
    exact ⟨fun u => SimAt.typp hE hX h1, fun u => SimAt.exprp hE hX h1 h2 h3, fun u => SimAt.unaryp hE hX h1 h2 h3⟩
end Go.Proofs.YtmbppnbekkbibaaGreatDoor
end
section
/- Texts that are read in brackets, or with blank lines behind them. -/
set_option linter.unusedVariables false
namespace Go.Proofs.YtmbppnbekkbibaaGreatDoor

theorem kind_word {t : Bt} {kd : Int} (h : KindOk kd t) : kd ≠ 0 ∧ (kd = 2 → t ≠ [58]) := by
  obtain ⟨h1, _, h2, _⟩ := h
  refine ⟨by omega, fun e => ?_⟩
  have := h2 e
  rintro rfl
  exact absurd this (by decide)
theorem lexF_zero : ∀ (f : Nat) (s : Bt) (p : Nat × Nat) (out : List TokD), (lexF f s p out).2.2.2 = 0 → (lexF f s p out).2 = (0, 0, 0)
  | 0, s, p, out, h => rfl
  | f + 1, s, p, out, h => by
    rw [lexF] at h ⊢
    by_cases hnil : s.drop (skipL s) = []
    · rw [if_pos hnil]
    · rw [if_neg hnil] at h ⊢
      cases hn : nextT (s.drop (skipL s)) with
      | inl e =>
        rw [hn] at h
        exact absurd h (nextT_err hn)
      | inr x =>
        obtain ⟨kd, t, n⟩ := x
        rw [hn] at h
        simp only at h ⊢
        by_cases h8 : out.length = 8192
        · rw [if_pos h8] at h
          exact absurd (show (19 : Int) = 0 from h) (by decide)
        · rw [if_neg h8] at h ⊢
          exact lexF_zero f _ _ _ h
theorem lexL_ok {s : Bt} (h : (lexL s).2.2.2 = 0) : (lexL s).2 = (0, 0, 0) := by
  by_cases hs : 65536 < s.length
  · unfold lexL at h
    rw [if_pos hs] at h
    exact absurd (show (2 : Int) = 0 from h) (by decide)
  · rw [lexL_F s (by omega)] at h ⊢
    exact lexF_zero _ _ _ _ h
/-- The tokens of a text are a row with its end. -/
theorem lexL_wf {s : Bt} {l : List TokD} (h : lexL s = (l, (0, 0, 0))) : ∃ m e, l = m ++ [e] ∧ e.kind = 0 ∧ (∀ t ∈ m, KindOk t.kind t.text) ∧ m.length ≤ s.length ∧ Wf l := by
  by_cases hs : 65536 < s.length
  · unfold lexL at h; rw [if_pos hs] at h; cases h
  · rw [lexL_F s (by omega)] at h
    obtain ⟨m, e, h1, h2, _, h3, h4, _⟩ := lexF_join _ s (1, 1) [] (Nat.lt_succ_self _) (by rw [h])
    rw [h] at h1
    injection h1 with h1 _
    rw [List.nil_append] at h1
    exact ⟨m, e, h1, h2, h4, h3, m, e, h1, h2, fun t ht => kind_word (h4 t ht)⟩
end Go.Proofs.YtmbppnbekkbibaaGreatDoor
end
section
/- An expression in brackets is read as it is without. -/
set_option linter.unusedVariables false
namespace Go.Proofs.YtmbppnbekkbibaaGreatDoor

def NoD.line : NoD → Int | .mk _ _ _ l _ _ _ _ => l
def NoD.col : NoD → Int | .mk _ _ _ _ c _ _ _ => c
end Go.Proofs.YtmbppnbekkbibaaGreatDoor
end
section
/- A module with blank lines behind it is read as it is without; where a fault lies. -/
set_option linter.unusedVariables false
namespace Go.Proofs.YtmbppnbekkbibaaGreatDoor

def shI (k : Nat) (i : ImD) : ImD := { i with line := i.line + k }
def shD (k : Nat) (d : DeD) : DeD := { d with line := d.line + k, body := shN k d.body }
def shM (k : Nat) (m : MoD) : MoD := ⟨m.imps.map (shI k), m.decls.map (shD k)⟩
section
variable {k : Nat} {E x : TokD} (hE : E.kind = 0) (hx : x.kind = 0) {u : List TokD}
include hE hx
theorem SimAt.levX : (∀ u, SimAt k False E [x] EqT (levP 100).typ (levP 100).typ u) ∧ (∀ u, SimAt k False E [x] (ShE k) (levP 100).expr (levP 100).expr u) := by
  have h := SimAt.lev (k := k) hE ⟨x, [], rfl, .inl hx⟩ 100 100 (Nat.le_refl _)
  have e : (100 < 100) = False := by simp
  rw [e] at h
  exact ⟨h.1, h.2.1⟩
theorem SimAt.var : SimAt k False E [x] (fun a b _ => b = a) varP varP u := by
  have hX : EndX [x] := ⟨x, [], rfl, .inl hx⟩
  refine (SimAt.name hE).then_ fun a b v hv e => ?_
  subst e
  refine (SimAt.has hE hX (by decide)).then_ fun c b v hv ⟨e, h⟩ => ?_
  subst e
  cases c
  · exact .ret rfl
  · exact ((SimAt.levX hE hx).1 _).then_ fun a b v hv e => by subst e; exact .ret rfl
theorem SimAt.vars : SimAt k False E [x] (fun a b _ => b = a) varsP varsP u := by
  have hX : EndX [x] := ⟨x, [], rfl, .inl hx⟩
  refine (SimAt.has hE hX (by decide)).then_ fun c b v hv ⟨e, h⟩ => ?_
  subst e
  cases c
  · exact .ret rfl
  · refine (SimAt.sep (Q := fun a b => b = a) hE hX fun u => SimAt.var hE hx).then_ fun a b v hv h => ?_
    obtain rfl := zip_eq h.1 h.2
    exact (SimAt.want hE).then_ fun _ _ v _ _ => .ret rfl
theorem SimAt.import_ (t : TokD) : SimAt k False E [x] (fun a b _ => b = shI k a) (importP t) (importP (shT k t)) u := by
  have hX : EndX [x] := ⟨x, [], rfl, .inl hx⟩
  refine (SimAt.name hE).then_ fun a b v hv e => ?_
  subst e
  refine (SimAt.want hE).then_ fun _ _ v _ _ => (SimAt.sep (Q := fun a b => b = a) hE hX fun u => (SimAt.name hE).mono fun _ _ _ e => e.symm).then_ fun a b v hv h => ?_
  obtain rfl := zip_eq h.1 h.2
  exact (SimAt.want hE).then_ fun _ _ v _ _ => .ret (by simp [shI, shT])
theorem SimAt.decl : SimAt k False E [x] (fun a b v => b = shD k a ∧ v.length < u.length) declP declP u := by
  have hX : EndX [x] := ⟨x, [], rfl, .inl hx⟩
  refine (SimAt.has hE hX (by decide)).then_ fun c b v0 hv0 ⟨e, _⟩ => ?_
  subst e
  refine SimAt.here.then_ fun h h' v hv ⟨e, h1⟩ => ?_
  subst e
  refine (SimAt.want hE).then_ fun _ _ v1 _ ⟨t, ht⟩ => ?_
  obtain ⟨rfl, rfl⟩ := h1 _ _ ht
  have hlt : v1.length < u.length := by have := sub_len hv0; rw [ht] at this; simp at this; omega
  refine (SimAt.name hE).then_ fun a b v2 hv2 e => ?_
  subst e
  refine (SimAt.vars hE hx).then_ fun a b v3 hv3 e => ?_
  subst e
  refine (SimAt.head hE hX (SimAt.levX hE hx).1 _).then_ fun a b v4 hv4 e => ?_
  subst e
  refine (SimAt.want hE).then_ fun _ _ v5 hv5 _ => ((SimAt.levX hE hx).2 _).then_ fun a b v6 hv6 e => ?_
  subst e
  refine (SimAt.want hE).then_ fun _ _ v7 hv7 _ => .ret ⟨by simp [shD, shT], ?_⟩
  have := sub_len hv2; have := sub_len hv3; have := sub_len hv4; have := sub_len hv5; have := sub_len hv6; have := sub_len hv7
  omega
theorem SimAt.imps (n : Nat) : ∀ (u : List TokD) (f g : Nat) (l : List ImD), u.length ≤ n → u.length < f → u.length < g →
    SimAt k False E [x] (fun a b _ => b = a.map (shI k)) (impsF f l) (impsF g (l.map (shI k))) u := by
  have hX : EndX [x] := ⟨x, [], rfl, .inl hx⟩
  induction n with
  | zero =>
    intro u f g l hn hf hg
    obtain ⟨f, rfl⟩ : ∃ f', f = f' + 1 := ⟨f - 1, by omega⟩
    obtain ⟨g, rfl⟩ : ∃ f', g = f' + 1 := ⟨g - 1, by omega⟩
    refine SimAt.here.then_ fun a b v hv ⟨e, h1⟩ => ?_
    subst e
    refine (SimAt.has hE hX (by decide)).then_ fun a b v hv ⟨e, h⟩ => ?_
    subst e
    rcases h with ⟨rfl, rfl⟩ | ⟨t, rfl, rfl⟩
    · exact .ret rfl
    · simp at hn
  | succ n ih =>
    intro u f g l hn hf hg
    obtain ⟨f, rfl⟩ : ∃ f', f = f' + 1 := ⟨f - 1, by omega⟩
    obtain ⟨g, rfl⟩ : ∃ f', g = f' + 1 := ⟨g - 1, by omega⟩
    refine SimAt.here.then_ fun a b v hv ⟨e, h1⟩ => ?_
    subst e
    refine (SimAt.has hE hX (by decide)).then_ fun a b v hv ⟨e, h⟩ => ?_
    subst e
    rcases h with ⟨rfl, rfl⟩ | ⟨t, rfl, rfl⟩
    · exact .ret rfl
    · obtain ⟨rfl, rfl⟩ := h1 t v rfl
      refine (SimAt.import_ hE hx _).then_ fun a b v2 hv2 hab => ?_
      subst hab
      have := sub_len hv2
      simp only [List.length_cons] at hn hf hg
      have h := ih v2 f g (l ++ [a]) (by omega) (by omega) (by omega)
      rwa [List.map_append] at h
theorem SimAt.decls (n : Nat) : ∀ (u : List TokD) (f g : Nat) (l : List DeD), Wf (u ++ [E]) → u.length ≤ n → u.length < f → u.length < g →
    SimAt k False E [x] (fun a b _ => b = a.map (shD k)) (declsF f l) (declsF g (l.map (shD k))) u := by
  induction n with
  | zero =>
    intro u f g l hw hn hf hg
    obtain ⟨f, rfl⟩ : ∃ f', f = f' + 1 := ⟨f - 1, by omega⟩
    obtain ⟨g, rfl⟩ : ∃ f', g = f' + 1 := ⟨g - 1, by omega⟩
    obtain rfl : u = [] := List.eq_nil_of_length_eq_zero (by omega)
    have e1 : declsF (f + 1) l [E] = .good l [E] := by unfold declsF; rw [thenP_good (show seenP (fun t _ => t.kind == 0) [E] = .good (E.kind == 0) [E] from rfl), hE]; rfl
    have e2 : declsF (g + 1) (l.map (shD k)) [x] = .good (l.map (shD k)) [x] := by unfold declsF; rw [thenP_good (show seenP (fun t _ => t.kind == 0) [x] = .good (x.kind == 0) [x] from rfl), hx]; rfl
    intro a r h
    rw [List.nil_append, e1] at h
    injection h with h1 h2
    subst h1 h2
    exact .inl ⟨[], _, rfl, List.suffix_refl _, e2, rfl⟩
  | succ n ih =>
    intro u f g l hw hn hf hg
    obtain ⟨f, rfl⟩ : ∃ f', f = f' + 1 := ⟨f - 1, by omega⟩
    obtain ⟨g, rfl⟩ : ∃ f', g = f' + 1 := ⟨g - 1, by omega⟩
    cases u with
    | nil =>
      have e1 : declsF (f + 1) l [E] = .good l [E] := by unfold declsF; rw [thenP_good (show seenP (fun t _ => t.kind == 0) [E] = .good (E.kind == 0) [E] from rfl), hE]; rfl
      have e2 : declsF (g + 1) (l.map (shD k)) [x] = .good (l.map (shD k)) [x] := by unfold declsF; rw [thenP_good (show seenP (fun t _ => t.kind == 0) [x] = .good (x.kind == 0) [x] from rfl), hx]; rfl
      intro a r h
      rw [List.nil_append, e1] at h
      injection h with h1 h2
      subst h1 h2
      exact .inl ⟨[], _, rfl, List.suffix_refl _, e2, rfl⟩
    | cons t u =>
      have ht : t.kind ≠ 0 := by
        rcases hw.cases with ⟨e, he, _⟩ | ⟨t', r, he, h1, _⟩
        · simp at he
        · injection he with he _; rw [he]; exact h1
      intro a r h
      unfold declsF at h ⊢
      rw [thenP_good (show seenP (fun t _ => t.kind == 0) (t :: u ++ [E]) = .good (t.kind == 0) (t :: u ++ [E]) from rfl), beq_false_of_ne ht] at h
      rw [thenP_good (show seenP (fun t _ => t.kind == 0) ((t :: u).map (shT k) ++ [x]) = .good (t.kind == 0) ((t :: u).map (shT k) ++ [x]) from rfl), beq_false_of_ne ht]
      simp only [Bool.false_eq_true, if_false] at h ⊢
      rcases hp : declP (t :: u ++ [E]) with d | ⟨d, r1⟩
      · rw [thenP_bad hp] at h; cases h
      · obtain ⟨hr1, _⟩ := Sf.decl.good hw hp
        rw [thenP_good hp] at h
        rcases SimAt.decl (k := k) hE hx (u := t :: u) d r1 hp with ⟨v, b, rfl, hv, hq, rfl, hlt⟩ | ⟨hD, _⟩
        · have := ih v f g (l ++ [d]) hr1 (by simp only [List.length_cons] at *; omega) (by simp only [List.length_cons] at *; omega) (by simp only [List.length_cons] at *; omega)
          rcases this a r h with ⟨v2, b2, e1, e2, e3, e4⟩ | ⟨hD, _⟩
          · refine .inl ⟨v2, b2, e1, e2.trans hv, ?_, e4⟩
            rw [thenP_good hq]
            rw [List.map_append] at e3
            exact e3
          · exact hD.elim
        · exact hD.elim
theorem SimAt.module (hw : Wf (u ++ [E])) : SimAt k False E [x] (fun a b _ => b = shM k a) moduleP moduleP u := by
  have hX : EndX [x] := ⟨x, [], rfl, .inl hx⟩
  intro a r h
  unfold moduleP at h ⊢
  rcases hp : impsP (u ++ [E]) with d | ⟨i, r1⟩
  · rw [thenP_bad hp] at h; cases h
  · obtain ⟨hr1, _⟩ := (Sf.fuel (p := fun ts => impsF ts.length []) fun ts => Sf.imps _ _).good hw hp
    rw [thenP_good hp] at h
    rcases (SimAt.fuel (p := fun n => impsF n []) (q := fun n => impsF n []) (fun f g hf hg => SimAt.imps (k := k) hE hx u.length u f g [] (Nat.le_refl _) hf hg) hX) i r1 hp with ⟨v, b, rfl, hv, hq, rfl⟩ | ⟨hD, _⟩
    · have h3 := (SimAt.fuel (p := fun n => declsF n []) (q := fun n => declsF n []) (fun f g hf hg => SimAt.decls (k := k) hE hx v.length v f g [] hr1 (Nat.le_refl _) hf hg) hX).then_ (f := fun d => retP (MoD.mk i d)) (g := fun d => retP (MoD.mk (i.map (shI k)) d)) (S := fun a b _ => b = shM k a) (fun a b w hw e => by subst e; exact .ret rfl)
      rcases h3 a r h with ⟨v2, b2, e1, e2, e3, e4⟩ | ⟨hD, _⟩
      · refine .inl ⟨v2, b2, e1, e2.trans hv, ?_, e4⟩
        rw [thenP_good (show impsP _ = _ from hq)]
        exact e3
      · exact hD.elim
    · exact hD.elim
end
/-- Where the fault of a text lies. -/
theorem faults_law {α : Type} {p : Ps α} (hp : Sf p) {s : Bt} {d : DgD} (h : wholeP p s = (none, d)) : ((lexL s).2.2.2 ≠ 0 ∧ d = (lexL s).2) ∨ (lexL s).2 = (0, 0, 0) ∧ (∃ t ∈ (lexL s).1, d.1 = t.line ∧ d.2.1 = t.col) ∧ (d.2.2 = 6 ∨ d.2.2 = 7) := by
  unfold wholeP at h
  by_cases h0 : (lexL s).2.2.2 = 0
  · right
    rw [if_pos h0] at h
    have hz : (lexL s).2 = (0, 0, 0) := lexL_ok h0
    obtain ⟨m, e, h1, h2, h3, h4, h5⟩ := lexL_wf (l := (lexL s).1) (by rw [← hz])
    refine ⟨hz, ?_⟩
    have h6 := (hp.then_ fun x => (Sf.kind 0).then_ fun _ => Sf.ret x) (lexL s).1 h5
    rcases hq : thenP p (fun x => thenP (kindP 0) fun _ => retP x) (lexL s).1 with d' | ⟨x, r⟩
    · rw [hq] at h h6
      injection h with _ h
      subst h
      exact h6
    · rw [hq] at h; cases h
  · left
    rw [if_neg h0] at h
    injection h with _ h
    exact ⟨h0, h.symm⟩
end Go.Proofs.YtmbppnbekkbibaaGreatDoor
end
section
/- The steps by which the reference reads blanks and strings, in plain Lean. -/
set_option linter.unusedVariables false
namespace Go.Proofs.YtmbppnbekkbibaaGreatDoor

theorem lexF_len : ∀ (f : Nat) (s : Bt) (p : Nat × Nat) (out : List TokD), out.length ≤ 8192 → (lexF f s p out).1.length ≤ 8193
  | 0, s, p, out, h => by simp [lexF]
  | f + 1, s, p, out, h => by
    rw [lexF]
    split
    · simp; omega
    · split
      · simp
      · split
        · simp
        · rename_i h8
          exact lexF_len f _ _ _ (by simp; omega)
theorem lexL_len (s : Bt) : (lexL s).1.length ≤ 8193 := by
  unfold lexL
  split
  · simp
  · exact lexF_len _ _ _ _ (by simp)
end Go.Proofs.YtmbppnbekkbibaaGreatDoor
end
section
/- The contracts of Parse, Expr, Type. -/
set_option linter.unusedVariables false
namespace Go.Proofs.YtmbppnbekkbibaaGreatDoor
open Go.RowKit

/-- A token's text is not much longer than what it stands in. -/
theorem nextT_tl {s : Bt} {kd : Int} {t : Bt} {n : Nat} (h : nextT s = .inr (kd, t, n)) : t.length ≤ s.length + 256 := by
  cases s with
  | nil => simp [nextT] at h
  | cons c r =>
    rw [nextT] at h
    split at h
    · split at h
      · cases h
      · split at h
        · injection h with h; simp only [Prod.mk.injEq] at h; rw [← h.2.1, List.length_take]; omega
        · injection h with h; simp only [Prod.mk.injEq] at h; rw [← h.2.1, List.length_take]; omega
    · split at h
      · split at h
        · injection h with h; simp only [Prod.mk.injEq] at h; rw [← h.2.1, List.length_take]; omega
        · cases h
      · split at h
        · split at h
          · cases h
          · split at h
            · cases h
            · injection h with h; simp only [Prod.mk.injEq] at h; rw [← h.2.1]; omega
        · split at h
          · injection h with h; simp only [Prod.mk.injEq] at h; rw [← h.2.1, List.length_take]; omega
          · split at h
            · injection h with h; simp only [Prod.mk.injEq] at h; rw [← h.2.1]; simp
            · cases h
theorem lexF_tl (M : Nat) : ∀ (f : Nat) (s : Bt) (p : Nat × Nat) (out : List TokD), s.length + 256 ≤ M → (∀ t ∈ out, t.text.length ≤ M) → ∀ t ∈ (lexF f s p out).1, t.text.length ≤ M
  | 0, s, p, out, hs, ho => fun t ht => by cases ht
  | f + 1, s, p, out, hs, ho => by
    rw [lexF]
    split
    · intro t ht
      rcases List.mem_append.1 ht with ht | ht
      · exact ho t ht
      · simp only [List.mem_singleton] at ht; subst ht; simp
    · split
      · intro t ht; cases ht
      · rename_i kd t n hn
        split
        · intro t ht; cases ht
        · refine lexF_tl M f _ _ _ (by simp only [List.length_drop]; omega) fun x hx => ?_
          rcases List.mem_append.1 hx with hx | hx
          · exact ho x hx
          · simp only [List.mem_singleton] at hx
            subst hx
            have := nextT_tl hn
            simp only [List.length_drop] at this
            show t.length ≤ M
            omega
theorem lexL_tk {s : Bt} (h : (lexL s).2.2.2 = 0) : TkOk (lexL s).1 ∧ Wf (lexL s).1 := by
  have hz := lexL_ok h
  obtain ⟨m, e, h1, h2, h3, h4, h5⟩ := lexL_wf (s := s) (l := (lexL s).1) (by rw [← hz])
  refine ⟨⟨lexL_len s, ?_⟩, h5⟩
  by_cases hs : 65536 < s.length
  · have : (lexL s).1 = [] := by unfold lexL; rw [if_pos hs]
    rw [this]; simp
  · unfold lexL
    rw [if_neg hs]
    exact lexF_tl 100000 _ s _ _ (by omega) (by simp)
/-- The cells of a fault. -/
abbrev dgV (d : DgD) : Value := .agg #[.int .i64 0, .int .i64 (d.1 : Nat), .int .i64 (d.2.1 : Nat), .int .i64 d.2.2]
abbrev dgC (d : DgD) : Array Value := #[.int .i64 0, .int .i64 (d.1 : Nat), .int .i64 (d.2.1 : Nat), .int .i64 d.2.2]
/-- A panic in a frame with deferred calls and two results in cells. -/
theorem hq_two {P : Program} {fn : Func} {R : Ending → World → Prop} {t0 t1 : Tmp} {T0 T1 : TypeId} {dst : Option Tmp} {v : Value} (hr : fn.results = #[.cell t0 T0, .cell t1 T1]) (hd : dst ≠ some t0) (hd1 : dst ≠ some t1) (c : List PanicEntry) (a : Act) (w : World) (h : bodyPostD P fn R (.panic c) (a.put dst v) w) : bodyPostD P fn R (.panic c) a w := by
  cases dst with
  | none => exact h
  | some d =>
    have hne : d ≠ t0 := fun e => hd (by rw [e])
    have hne1 : d ≠ t1 := fun e => hd1 (by rw [e])
    have e : results fn (a.tmps.setIfInBounds d v) = results fn a.tmps := by
      simp [results, hr, Array.getElem?_setIfInBounds_ne hne, Array.getElem?_setIfInBounds_ne hne1]
    exact leaves_tmps e a.defers _ _ h
theorem results_agg2 {P : Program} {fn : Func} {t u : Tmp} {T U : TypeId} {tmps : Array Value} {w : World} {b b' : Nat} {cs cs' : Array Value} {S S' : TypeId} {d d' : TypeDesc} (h : fn.results = #[.cell t T, .cell u U]) (ht : tmps.getD t undef = .pointer (some ⟨b, 0, none⟩)) (hu' : tmps.getD u undef = .pointer (some ⟨b', 0, none⟩)) (hb : w.heap[b]? = some (.cells cs S (0, 0))) (hb' : w.heap[b']? = some (.cells cs' S' (0, 0)))
    (hu : P.underlying T = some d) (hd : (match d with | .struct _ | .array _ _ => true | _ => false) = true) (hi : (P.info? T).map (·.size) = some cs.size)
    (hU : P.underlying U = some d') (hd' : (match d' with | .struct _ | .array _ _ => true | _ => false) = true) (hi' : (P.info? U).map (·.size) = some cs'.size) : (results fn tmps).run P w = .ok (.tuple #[.agg cs, .agg cs']) w := by
  have h1 := run_loadVar_row (P := P) w b S T cs (0, 0) d hb hu hd hi
  have h3 := run_loadVar_row (P := P) w b' S' U cs' (0, 0) d' hb' hU hd' hi'
  have e : tmps[t]?.getD undef = .pointer (some ⟨b, 0, none⟩) := by simpa using ht
  have e' : tmps[u]?.getD undef = .pointer (some ⟨b', 0, none⟩) := by simpa using hu'
  have h2 : (asAddr (.pointer (some ⟨b, 0, none⟩))).run P w = .ok ⟨b, 0, none⟩ w := rfl
  have h2' : (asAddr (.pointer (some ⟨b', 0, none⟩))).run P w = .ok ⟨b', 0, none⟩ w := rfl
  simp [results, h, e, e', h1, h2, h2', h3]
/-- What comes of reading. -/
def outP {α : Type} (q : Pr α) : Option α × DgD := match q with
  | .bad d => (none, d)
  | .good x _ => (some x, (0, 0, 0))
theorem wholeP_ok {α : Type} {p : Ps α} {s : Bt} {T : List TokD} (h : lexL s = (T, ((0, 0, 0) : Nat × Nat × Int))) : wholeP p s = outP (thenP p (fun x => thenP (kindP 0) fun _ => retP x) T) := by
  unfold wholeP
  rw [h]
  rw [if_pos rfl]
  rcases hq : thenP p (fun x => thenP (kindP 0) fun _ => retP x) T with g | ⟨x, r⟩ <;> simp only [hq] <;> rfl
/-- What a text is read as, and its fault. -/
def okP {α : Type} (p : Ps α) (s : Bt) (zero : α) : α := (wholeP p s).1.getD zero
def zeroM : MoD := ⟨[], []⟩
def zeroN : NoD := .mk 0 [] 0 0 0 [] [] []
def zeroT : TyD := .mk 0 [] [] []

set_option maxRecDepth 100000 in
set_option maxHeartbeats 4000000 in
theorem idle_mod (p q : Addr) (w : World) :
    CallsD Tryz.prog 73 #[.pointer (some p), .pointer (some q)] .returning w fun e u' w' => e = .returned (.tuple #[]) ∧ u' = .returning ∧ w' = w := by
  refine callsD_of_wpS Tryz.func73 rfl fun c₀ cs hu => ?_
  apply wpS_seq
  apply wpS_region
  simp [wpOpsS, go_sem, recoverD, hu, Tryz.ntmps73, Exit.thenS]
  refine wpS_of_wp ?_
  change Code.wp _ _ _ { tmps := #[.pointer (some p), .pointer (some q), .nilIface, undef, undef, undef, .nilIface, undef, undef, undef, undef, undef, undef, undef, undef, undef, undef, undef, undef, undef], defers := [] } w
  go_wp2
  exact ⟨rfl, .returning, by rw [← hu], .tuple #[], results_none rfl _ _ _, rfl, rfl, rfl⟩
set_option maxRecDepth 100000 in
set_option maxHeartbeats 4000000 in
theorem catch_mod (pb qb : Nat) (hne : pb ≠ qb) (g : DgD) (older : List PanicEntry) (w : World) {a0 a1 : Value} (hp : w.heap[pb]? = some (.cells #[a0, a1] 40 (0, 0))) (hq : w.heap[qb]? = some (.cells #[.int .i64 0, .int .i64 0, .int .i64 0, .int .i64 0] 55 (0, 0))) :
    CallsD Tryz.prog 73 #[.pointer (some ⟨pb, 0, none⟩), .pointer (some ⟨qb, 0, none⟩)] (.panicking ({ v := .iface 135 (dgV g), recovered := false } :: older)) w fun e u' w' => e = .returned (.tuple #[]) ∧ u' = .panicking ({ v := .iface 135 (dgV g), recovered := true } :: older) ∧
      Turn (fun k => k = pb ∨ k = qb) w w' ∧ w'.heap[pb]? = some (.cells #[.slice none 0 0, .slice none 0 0] 40 (0, 0)) ∧ w'.heap[qb]? = some (.cells (dgC g) 55 (0, 0)) := by
  have hta : ∀ w : World, (Instr.typeAssert (.iface 135 (dgV g)) 20 135 true).run Tryz.prog w = .ok (.tuple #[dgV g, .bool true]) w := fun _ => by kernel_rfl
  have hpl := block_lt hp
  have hql := block_lt hq
  have HP := hid hp
  have HQ := hid hq
  clear hp hq
  refine callsD_of_wpS Tryz.func73 rfl fun c₀ cs hu => ?_
  apply wpS_seq
  apply wpS_region
  simp [wpOpsS, go_sem, recoverD, hu, Tryz.ntmps73, Exit.thenS]
  refine wpS_of_wp ?_
  change Code.wp _ _ _ { tmps := #[.pointer (some ⟨pb, 0, none⟩), .pointer (some ⟨qb, 0, none⟩), .iface 135 (dgV g), undef, undef, undef, .iface 135 (dgV g), undef, undef, undef, undef, undef, undef, undef, undef, undef, undef, undef, undef, undef], defers := [] } w
  obtain ⟨W2, hW2⟩ : ∃ W2, (w.alloc (.cells (dgC g) 135)).alloc (.cells #[.slice none 0 0, .slice none 0 0] 40) = W2 := ⟨_, rfl⟩
  have hs2 : W2.heap.size = w.heap.size + 2 := by rw [← hW2]; simp
  obtain ⟨tw, _, hbb, hzb⟩ := after2 (G := fun _ => False) (Turn.refl _ ((w.alloc (.cells (dgC g) 135)).alloc (.cells #[.slice none 0 0, .slice none 0 0] 40)))
  rw [hW2] at tw hbb hzb
  have HW2 := hid hW2
  have hp2 := block_turn HP.out tw id
  have hq2 := block_turn HQ.out tw id
  have HP2 := hid hp2
  have HQ2 := hid hq2
  have HTW := hid tw
  obtain ⟨b0, b1, b2, b3, bz⟩ := cells4 (hbb id)
  have hz2 := hzb id
  have HZ2 := hid hz2
  clear hW2 tw hbb hzb
  go_wp2_with fail
  rw [HW2.out]
  have HD0 : Hid (Turn (fun j => j = pb ∨ j = qb) W2 W2.drew) := hid ⟨rfl, rfl, rfl, Nat.le_refl _, fun _ _ _ => rfl⟩
  have PZ := hid (fun (w' : World) (h : Turn (fun j => j = pb ∨ j = qb) W2 w') => (⟨tcell ((cell_of_row _ _ 0 _ _ _ hz2).trans rfl) h (by omega), tcell ((cell_of_row _ _ 1 _ _ _ hz2).trans rfl) h (by omega)⟩ : w'.cell? ⟨w.heap.size + 1, 0, none⟩ = some (.slice none 0 0) ∧ w'.cell? ⟨w.heap.size + 1, 1, none⟩ = some (.slice none 0 0)))
  have PB := hid (fun (w' : World) (h : Turn (fun j => j = pb ∨ j = qb) W2 w') => (⟨tcell b0 h (by omega), tcell b1 h (by omega), tcell b2 h (by omega), tcell b3 h (by omega)⟩ : w'.cell? ⟨w.heap.size, 0, none⟩ = some (.int .i64 0) ∧ w'.cell? ⟨w.heap.size, 1, none⟩ = some (.int .i64 (g.1 : Nat)) ∧ w'.cell? ⟨w.heap.size, 2, none⟩ = some (.int .i64 (g.2.1 : Nat)) ∧ w'.cell? ⟨w.heap.size, 3, none⟩ = some (.int .i64 g.2.2)))
  clear hz2 b0 b1 b2 b3 bz
  refine region_x (S := fun w' => Turn (fun j => j = pb ∨ j = qb) W2 w') (x := 4) (by kernel_rfl) ?_
  try simp only [Act.put, List.getElem_toArray, List.getElem_cons_zero, List.getElem_cons_succ, List.setIfInBounds_toArray, List.set_cons_zero, List.set_cons_succ]
  refine txf 0 (.agg #[.slice none 0 0, .slice none 0 0]) PZ.out HD0.out ?_
  refine tx 1 (.pointer (some ⟨w.heap.size, 0, none⟩)) HD0.out ?_
  refine txf 2 (dgV g) PB.out HD0.out ?_
  have hdh : ∀ X : World, X.drew.heap = X.heap := fun _ => rfl
  have hdr : ∀ (G : Nat → Prop) (X : World), Turn G X X.drew := fun _ _ => ⟨rfl, rfl, rfl, Nat.le_refl _, fun _ _ _ => rfl⟩
  have tA := ((turn_set W2 (pb) 0 (.slice none 0 0)).trans (turn_set _ (pb) 1 (.slice none 0 0)) (fun _ _ h => h))
  have hpA : ((W2.setCell ⟨pb, 0, none⟩ (.slice none 0 0)).setCell ⟨pb, 1, none⟩ (.slice none 0 0)).heap[pb]? = some (.cells #[.slice none 0 0, .slice none 0 0] 40 (0, 0)) := (heap_setCell_same _ _ 1 _ _ (.slice none 0 0) (heap_setCell_same _ _ 0 _ _ (.slice none 0 0) HP2.out))
  have hqA := block_turn HQ2.out tA (fun e => hne e.symm)
  have HTA := hid (tA.mono (G := fun k => k = pb ∨ k = qb) (fun _ _ h => .inl h))
  have HSA := hid (HTA.out.trans (hdr (fun k => k = pb ∨ k = qb) _) (fun _ _ h => h))
  have HPA := hid hpA
  have HQA := hid hqA
  have p0 : W2.cell? ⟨pb, 0, none⟩ = some a0 := (cell_of_row _ _ 0 _ _ _ hp2).trans rfl
  have p1 : W2.cell? ⟨pb, 1, none⟩ = some a1 := (cell_of_row _ _ 1 _ _ _ hp2).trans rfl
  have pz : ∀ i, W2.frozen? ⟨pb, i, none⟩ = false := fun i => frozen_of_row _ _ _ _ _ hp2
  have q0 : W2.cell? ⟨qb, 0, none⟩ = some (.int .i64 0) := (cell_of_row _ _ 0 _ _ _ hq2).trans rfl
  have q1 : W2.cell? ⟨qb, 1, none⟩ = some (.int .i64 0) := (cell_of_row _ _ 1 _ _ _ hq2).trans rfl
  have q2 : W2.cell? ⟨qb, 2, none⟩ = some (.int .i64 0) := (cell_of_row _ _ 2 _ _ _ hq2).trans rfl
  have q3 : W2.cell? ⟨qb, 3, none⟩ = some (.int .i64 0) := (cell_of_row _ _ 3 _ _ _ hq2).trans rfl
  have qz : ∀ i, W2.frozen? ⟨qb, i, none⟩ = false := fun i => frozen_of_row _ _ _ _ _ hq2
  have hne' : ¬ qb = pb := fun e => hne e.symm
  clear tA hpA hqA hp2 hq2
  refine anyX_ready (rs := [3]) (by kernel_rfl) (by simp) ?_
  refine ReadyX.cons rfl (fun K hK => ?_) (ReadyX.nil)
  go_simp
  refine hK.out _ _ HSA.out ?_
  clear hK K
  try simp only [Act.put, List.getElem_toArray, List.getElem_cons_zero, List.getElem_cons_succ, List.setIfInBounds_toArray, List.set_cons_zero, List.set_cons_succ]
  refine anyX_ready (rs := [4]) (by kernel_rfl) (by simp) ?_
  refine ReadyX.past rfl (by kernel_rfl) (fun K hK => ?_) (ReadyX.nil)
  go_simp
  refine hK.out _ _ ?_
  clear hK K
  try simp only [Act.put, List.getElem_toArray, List.getElem_cons_zero, List.getElem_cons_succ, List.setIfInBounds_toArray, List.set_cons_zero, List.set_cons_succ]
  refine anyX_done (by kernel_rfl) ?_ _
  go_wp2_with fail
  have tB := ((((turn_set ((W2.setCell ⟨pb, 0, none⟩ (.slice none 0 0)).setCell ⟨pb, 1, none⟩ (.slice none 0 0)) (qb) 0 (.int .i64 0)).trans (turn_set _ (qb) 1 (.int .i64 (g.1 : Nat))) (fun _ _ h => h)).trans (turn_set _ (qb) 2 (.int .i64 (g.2.1 : Nat))) (fun _ _ h => h)).trans (turn_set _ (qb) 3 (.int .i64 g.2.2)) (fun _ _ h => h))
  have h1 := (HTW.out.mono (G := fun k => k = pb ∨ k = qb) (fun _ _ h => h.elim)).trans ((HTA.out.trans tB (fun _ _ h => .inr h)).trans (hdr (fun k => k = pb ∨ k = qb) _) (fun _ _ h => h)) (fun _ _ h => h)
  have h2 := block_turn HPA.out tB hne
  have h3 := (put4_block (b := qb) HQA.out (.int .i64 0) (.int .i64 (g.1 : Nat)) (.int .i64 (g.2.1 : Nat)) (.int .i64 g.2.2))
  refine ⟨rfl, _, rfl, .tuple #[], results_none rfl _ _ _, rfl, rfl, h1, ?_, ?_⟩
  · rw [hdh]; exact h2
  · rw [hdh]; exact h3
set_option maxRecDepth 100000 in
set_option maxHeartbeats 8000000 in
theorem all_mod (w : World) (s : Bt) (hX : LaidX w) : Calls Tryz.prog 43 #[sv s, .func (.func 44) #[] #[]] w fun e w' => Below w.heap.size w w' ∧ ∃ z : List Value, e = .returned (.tuple #[.agg z.toArray, dgV (wholeP moduleP s).2]) ∧ MoG w' (fun j => w.heap.size ≤ j) z (okP moduleP s zeroM) := by
  have hmf : ∀ (fn : Fn) (first cap : Array Value) (w : World), (Instr.makeFunc fn first cap).run Tryz.prog w = .ok (.func fn first cap) w := fun _ _ _ _ => rfl
  have hent : ∀ w : World, (callFunc 44 #[]).run Tryz.prog w = .ok (.enter 44 #[]) w := fun _ => by kernel_rfl
  have hdh : ∀ X : World, X.drew.heap = X.heap := fun _ => rfl
  have hdr : ∀ (G : Nat → Prop) (X : World), Turn G X X.drew := fun _ _ => ⟨rfl, rfl, rfl, Nat.le_refl _, fun _ _ _ => rfl⟩
  obtain ⟨W0, hW0⟩ : ∃ W0, ((w.alloc (.cells #[.slice none 0 0, .slice none 0 0] 40)).alloc (.cells #[.int .i64 0, .int .i64 0, .int .i64 0, .int .i64 0] 55)) = W0 := ⟨_, rfl⟩
  obtain ⟨tw, _, hx0, hd0⟩ := after2 (G := fun _ => False) (Turn.refl _ ((w.alloc (.cells #[.slice none 0 0, .slice none 0 0] 40)).alloc (.cells #[.int .i64 0, .int .i64 0, .int .i64 0, .int .i64 0] 55)))
  have hs0 : W0.heap.size = w.heap.size + 2 := by rw [← hW0]; simp
  have hb0 : Below w.heap.size w W0 := by rw [← hW0]; exact new2 _ _ _
  rw [hW0] at tw hx0 hd0
  have hx0 := hx0 id
  have hd0 := hd0 id
  have HX0 := hid hx0
  have HD0 := hid hd0
  have HB0 := hid hb0
  have HLB := hid ((LaidB.of hX.1).below hb0)
  have HL := hid (lex_any W0 s (hX.below hb0))
  have HW0 := hid hW0
  obtain ⟨Dg, hDg⟩ : ∃ Dg, (wholeP moduleP s).2 = Dg := ⟨_, rfl⟩
  obtain ⟨V, hV⟩ : ∃ V, okP moduleP s zeroM = V := ⟨_, rfl⟩
  rw [hDg, hV]
  clear hX tw hx0 hd0 hb0 hW0
  by_cases hE : (lexL s).2.2.2 = 0
  · have hz := lexL_ok hE
    obtain ⟨T, hT⟩ : ∃ T, lexL s = (T, ((0, 0, 0) : Nat × Nat × Int)) := ⟨(lexL s).1, by rw [← hz]⟩
    obtain ⟨htk, hwf⟩ := lexL_tk hE
    rw [hT] at HL htk hwf
    have HWH : Hid (wholeP moduleP s = outP (thenP moduleP (fun x => thenP (kindP 0) fun _ => retP x) T)) := hid (wholeP_ok hT)
    have HDg := hid hDg
    have HV := hid hV
    have HTK := hid htk
    have HWF := hid hwf
    clear hE hz hT htk hwf hDg hV
    go_enter_defers Tryz.func43, Tryz.ntmps43
    go_wp2_with fail
    rw [HW0.out]
    refine (HL.out).mono ?_
    rintro e w1 ⟨v1, n1, rfl, hown, hb1⟩
    obtain ⟨A1', c1', rfl, _, _⟩ := own_sh hown
    have hs1 := hb1.size
    have hx1 := (hb1.block (w.heap.size) (by omega)).trans HX0.out
    have hd1 := (hb1.block (w.heap.size + 1) (by omega)).trans HD0.out
    have HB1 := hid (HB0.out.trans (hb1.mono (by omega)))
    have HLB1 := hid (HLB.out.below (hb1.mono (by omega)))
    obtain ⟨x0, x1, x2, x3, xz⟩ := cells4 hd1
    have t1 := put4_turn w1 (w.heap.size + 1) (.int .i64 0) (.int .i64 0) (.int .i64 0) (.int .i64 0)
    have HX1 := hid (block_turn hx1 t1 (by omega))
    have HD1 := hid (put4_block hd1 (.int .i64 0) (.int .i64 0) (.int .i64 0) (.int .i64 0))
    have HT1 := hid t1
    have hsp : (put4 w1 (w.heap.size + 1) (.int .i64 0) (.int .i64 0) (.int .i64 0) (.int .i64 0)).heap.size = w1.heap.size := by simp [put4]
    have HOWN := hid hown
    rw [show diagV (0, 0, 0) = .agg #[.int .i64 0, .int .i64 0, .int .i64 0, .int .i64 0] from rfl]
    obtain ⟨W2, hW2⟩ : ∃ W2, (put4 w1 (w.heap.size + 1) (.int .i64 0) (.int .i64 0) (.int .i64 0) (.int .i64 0)).alloc (.cells #[.slice A1' n1 c1', .int .i64 0] 140) = W2 := ⟨_, rfl⟩
    have t2 : Turn (fun k => k = w.heap.size + 1) w1 W2 := by rw [← hW2]; exact t1.trans (Turn.alloc _ _ _) (fun _ _ h => h)
    have hb2 := at1 (put4 w1 (w.heap.size + 1) (.int .i64 0) (.int .i64 0) (.int .i64 0) (.int .i64 0)) (.cells #[.slice A1' n1 c1', .int .i64 0] 140)
    rw [hW2, hsp] at hb2
    have hs2 : W2.heap.size = w1.heap.size + 1 := by rw [← hW2]; simp [put4]
    have HX2 := hid (by have := keep_alloc (o' := (.cells #[.slice A1' n1 c1', .int .i64 0] 140)) HX1.out; rwa [hW2] at this)
    have HD2 := hid (by have := keep_alloc (o' := (.cells #[.slice A1' n1 c1', .int .i64 0] 140)) HD1.out; rwa [hW2] at this)
    have hsl : Sl W2 w1.heap.size 4 (.slice A1' n1 c1') (tokCells T) := ((SlG.own (F := fun j => W0.heap.size ≤ j ∧ j < w1.heap.size) hown (fun g hg => hown.lt g hg)).turn t2 (fun g _ h e => by have := h.1; omega)).to (fun g _ h => h.2)
    have htb : TokB w1.heap.size W2 (.slice A1' n1 c1') := fun b o n c e => by
      injection e with e _ _
      subst e
      rcases hown.2 with ⟨h, _⟩ | ⟨g, cap, cur, h, hg, hob, _⟩
      · injection h with h; cases h
      · injection h with h _ _
        injection h with h
        injection h with h _
        subst h
        exact ⟨block_lt hob, _, block_turn hob t2 (by omega)⟩
    have HLB2 := hid (HLB1.out.below (t2.below (by omega) (fun k hk e => by omega)))
    have HK := hid (show TkAt W2 w1.heap.size w1.heap.size T 0 from ⟨Nat.le_refl _, HTK.out, HWF.out, _, hb2, hsl, fun w' hb' => HLB2.out w' (fun k hk => hb' k (by omega)), htb⟩)
    have HT2 := hid (HB1.out.trans (t2.below (B := w.heap.size) (by omega) (fun k hk e => by omega)))
    have HR := hid (module_any W2 w1.heap.size w1.heap.size T HK.out)
    have HW2 := hid hW2
    clear hown hb1 hx1 hd1 t1 t2 hb2 hsl hW2 HOWN htb
    go_wp2_with fail
    rw [HW2.out]
    refine (HR.out).mono ?_
    rintro e w3 h3
    rcases hq : moduleP T with g | ⟨x, r3⟩
    · obtain ⟨rfl, tn, bn⟩ := h3.bad_ hq
      have HWB : Hid (wholeP moduleP s = (none, g)) := hid (by rw [HWH.out, thenP_bad hq]; rfl)
      have HXP := hid (block_turn HX2.out tn (by omega))
      have HDP := hid (block_turn HD2.out tn (by omega))
      have HTP := hid (HT2.out.trans (tn.below (B := w.heap.size) (by omega) (fun k hk e => by omega)))
      clear h3 tn bn hq
      go_wp2_with fail
      refine leaves_cons (f := 73) (args := #[.pointer (some ⟨w.heap.size, 0, none⟩), .pointer (some ⟨w.heap.size + 1, 0, none⟩)]) (by simp) (by simp [go_sem]) ?_
      refine (catch_mod w.heap.size (w.heap.size + 1) (by omega) g [] _ HXP.out HDP.out).mono ?_
      rintro e u9 w9 ⟨rfl, rfl, t9, p9, q9⟩
      have e1 : Dg = g := by rw [← HDg.out, HWB.out]
      have e2 : V = zeroM := by rw [← HV.out]; unfold okP; rw [HWB.out]; rfl
      subst e1 e2
      exact ⟨_, results_agg2 rfl rfl rfl p9 q9 Tryz.underlying40 rfl (by kernel_rfl) Tryz.underlying55 rfl (by kernel_rfl), HTP.out.trans (t9.below (by have := HTP.out.size; omega) (fun k hk e => by omega)), _, rfl, ⟨_, _, _, _, rfl, SlG.nil _ _ _, .nil, SlG.nil _ _ _, .nil⟩⟩
    · obtain ⟨v3, rfl, tn, ⟨z0, rfl, hz0⟩, kn⟩ := h3.good_ hq
      have hzc := hz0
      obtain ⟨vi, xi, vd, xd, rfl, ⟨A1, n1', c1, rfl, _⟩, _, ⟨A2, n2, c2, rfl, _⟩, _⟩ := hzc
      have hs3 := tn.size
      have hx3 := block_turn HX2.out tn (by omega)
      have hd3 := block_turn HD2.out tn (by omega)
      have t4 : Turn (fun k => k = w.heap.size) w3 ((w3.setCell ⟨w.heap.size, 0, none⟩ (.slice A1 n1' c1)).setCell ⟨w.heap.size, 1, none⟩ (.slice A2 n2 c2)) := ((turn_set w3 (w.heap.size) 0 (.slice A1 n1' c1)).trans (turn_set _ (w.heap.size) 1 (.slice A2 n2 c2)) (fun _ _ h => h))
      have HX4 := hid ((heap_setCell_same _ _ 1 _ _ (.slice A2 n2 c2) (heap_setCell_same _ _ 0 _ _ (.slice A1 n1' c1) hx3)))
      have HD4 := hid (block_turn hd3 t4 (by omega))
      have HLB4 := hid ((HLB2.out.below (tn.below (by omega) (fun k hk e => by omega))).below (t4.below (by omega) (fun k hk e => by omega)))
      have HK4 := hid (kn.apart t4 (by omega) (fun g e _ => by have e : g = w.heap.size := e; subst e; exact ⟨_, _, hx3, by decide⟩) (fun w' hb' => HLB4.out w' (fun k hk => hb' k (by omega))))
      have HT4 := hid (HT2.out.trans ((tn.below (B := w.heap.size) (by omega) (fun k hk e => by omega)).trans (t4.below (B := w.heap.size) (by omega) (fun k hk e => by omega))))
      have HZ4 := hid (hz0.turn t4 (fun g _ h e => by omega))
      have HWG : Hid (wholeP moduleP s = outP (thenP (kindP 0) (fun _ => retP x) r3)) := hid (by rw [HWH.out, thenP_good hq])
      have HKN := hid (kind_any ((w3.setCell ⟨w.heap.size, 0, none⟩ (.slice A1 n1' c1)).setCell ⟨w.heap.size, 1, none⟩ (.slice A2 n2 c2)) w1.heap.size w1.heap.size r3 0 HK4.out 0)
      have u0 : w3.cell? ⟨w.heap.size, 0, none⟩ = some (.slice none 0 0) := (cell_of_row _ _ 0 _ _ _ hx3).trans rfl
      have u1 : w3.cell? ⟨w.heap.size, 1, none⟩ = some (.slice none 0 0) := (cell_of_row _ _ 1 _ _ _ hx3).trans rfl
      have uz : ∀ i, w3.frozen? ⟨w.heap.size, i, none⟩ = false := fun i => frozen_of_row _ _ _ _ _ hx3
      clear h3 tn kn hz0 hq hx3 hd3 t4
      go_wp2_with fail
      refine (HKN.out).mono ?_
      rintro e w5 h5
      rcases hq : kindP 0 r3 with g | ⟨sx, r5⟩
      · obtain ⟨rfl, tn, bn⟩ := h5.bad_ hq
        have HWB : Hid (wholeP moduleP s = (none, g)) := hid (by rw [HWG.out, thenP_bad hq]; rfl)
        have HXP := hid (block_turn HX4.out tn (by omega))
        have HDP := hid (block_turn HD4.out tn (by omega))
        have HTP := hid (HT4.out.trans (tn.below (B := w.heap.size) (by have := HT4.out.size; omega) (fun k hk e => by omega)))
        clear h5 tn bn hq
        go_wp2_with fail
        refine leaves_cons (f := 73) (args := #[.pointer (some ⟨w.heap.size, 0, none⟩), .pointer (some ⟨w.heap.size + 1, 0, none⟩)]) (by simp) (by simp [go_sem]) ?_
        refine (catch_mod w.heap.size (w.heap.size + 1) (by omega) g [] _ HXP.out HDP.out).mono ?_
        rintro e u9 w9 ⟨rfl, rfl, t9, p9, q9⟩
        have e1 : Dg = g := by rw [← HDg.out, HWB.out]
        have e2 : V = zeroM := by rw [← HV.out]; unfold okP; rw [HWB.out]; rfl
        subst e1 e2
        exact ⟨_, results_agg2 rfl rfl rfl p9 q9 Tryz.underlying40 rfl (by kernel_rfl) Tryz.underlying55 rfl (by kernel_rfl), HTP.out.trans (t9.below (by have := HTP.out.size; omega) (fun k hk e => by omega)), _, rfl, ⟨_, _, _, _, rfl, SlG.nil _ _ _, .nil, SlG.nil _ _ _, .nil⟩⟩
      · obtain ⟨v5, rfl, tn, -, kn⟩ := h5.good_ hq
        have HWB : Hid (wholeP moduleP s = (some x, (0, 0, 0))) := hid (by rw [HWG.out, thenP_good hq]; rfl)
        have HX5 := hid (block_turn HX4.out tn (by omega))
        have HD5 := hid (block_turn HD4.out tn (by omega))
        have HT5 := hid (HT4.out.trans (tn.below (B := w.heap.size) (by have := HT4.out.size; omega) (fun k hk e => by omega)))
        have HZ5 := hid (HZ4.out.turn tn (fun g _ h e => by omega))
        clear h5 tn kn hq uz u0 u1
        have PX := hid (fun (w' : World) (h : w'.heap[w.heap.size]? = some (.cells #[.slice A1 n1' c1, .slice A2 n2 c2] 40 (0, 0)) ∧ w'.heap[w.heap.size + 1]? = some (.cells #[.int .i64 0, .int .i64 0, .int .i64 0, .int .i64 0] 55 (0, 0))) => (⟨(cell_of_row _ _ _ _ _ _ h.1).trans rfl, (cell_of_row _ _ _ _ _ _ h.1).trans rfl⟩ : w'.cell? ⟨w.heap.size, 0, none⟩ = some (.slice A1 n1' c1) ∧ w'.cell? ⟨w.heap.size, 1, none⟩ = some (.slice A2 n2 c2)))
        have PD := hid (fun (w' : World) (h : w'.heap[w.heap.size]? = some (.cells #[.slice A1 n1' c1, .slice A2 n2 c2] 40 (0, 0)) ∧ w'.heap[w.heap.size + 1]? = some (.cells #[.int .i64 0, .int .i64 0, .int .i64 0, .int .i64 0] 55 (0, 0))) => (⟨(cell_of_row _ _ _ _ _ _ h.2).trans rfl, (cell_of_row _ _ _ _ _ _ h.2).trans rfl, (cell_of_row _ _ _ _ _ _ h.2).trans rfl, (cell_of_row _ _ _ _ _ _ h.2).trans rfl⟩ : w'.cell? ⟨w.heap.size + 1, 0, none⟩ = some (.int .i64 0) ∧ w'.cell? ⟨w.heap.size + 1, 1, none⟩ = some (.int .i64 0) ∧ w'.cell? ⟨w.heap.size + 1, 2, none⟩ = some (.int .i64 0) ∧ w'.cell? ⟨w.heap.size + 1, 3, none⟩ = some (.int .i64 0)))
        have HS0 : Hid (w5.drew.heap[w.heap.size]? = some (.cells #[.slice A1 n1' c1, .slice A2 n2 c2] 40 (0, 0)) ∧ w5.drew.heap[w.heap.size + 1]? = some (.cells #[.int .i64 0, .int .i64 0, .int .i64 0, .int .i64 0] 55 (0, 0))) := hid ⟨by rw [hdh]; exact HX5.out, by rw [hdh]; exact HD5.out⟩
        have ka0 : w5.cell? ⟨w.heap.size, 0, none⟩ = some (.slice A1 n1' c1) := (cell_of_row _ _ 0 _ _ _ HX5.out).trans rfl
        have ka1 : w5.cell? ⟨w.heap.size, 1, none⟩ = some (.slice A2 n2 c2) := (cell_of_row _ _ 1 _ _ _ HX5.out).trans rfl
        have kaz : ∀ i, w5.frozen? ⟨w.heap.size, i, none⟩ = false := fun i => frozen_of_row _ _ _ _ _ HX5.out
        have la0 : w5.cell? ⟨w.heap.size + 1, 0, none⟩ = some (.int .i64 0) := (cell_of_row _ _ 0 _ _ _ HD5.out).trans rfl
        have la1 : w5.cell? ⟨w.heap.size + 1, 1, none⟩ = some (.int .i64 0) := (cell_of_row _ _ 1 _ _ _ HD5.out).trans rfl
        have la2 : w5.cell? ⟨w.heap.size + 1, 2, none⟩ = some (.int .i64 0) := (cell_of_row _ _ 2 _ _ _ HD5.out).trans rfl
        have la3 : w5.cell? ⟨w.heap.size + 1, 3, none⟩ = some (.int .i64 0) := (cell_of_row _ _ 3 _ _ _ HD5.out).trans rfl
        have laz : ∀ i, w5.frozen? ⟨w.heap.size + 1, i, none⟩ = false := fun i => frozen_of_row _ _ _ _ _ HD5.out
        have tA := ((turn_set w5 (w.heap.size) 0 (.slice A1 n1' c1)).trans (turn_set _ (w.heap.size) 1 (.slice A2 n2 c2)) (fun _ _ h => h))
        have hxA := (heap_setCell_same _ _ 1 _ _ (.slice A2 n2 c2) (heap_setCell_same _ _ 0 _ _ (.slice A1 n1' c1) HX5.out))
        have hdA := block_turn HD5.out tA (by omega)
        have tB := ((((turn_set ((w5.setCell ⟨w.heap.size, 0, none⟩ (.slice A1 n1' c1)).setCell ⟨w.heap.size, 1, none⟩ (.slice A2 n2 c2)) (w.heap.size + 1) 0 (.int .i64 0)).trans (turn_set _ (w.heap.size + 1) 1 (.int .i64 0)) (fun _ _ h => h)).trans (turn_set _ (w.heap.size + 1) 2 (.int .i64 0)) (fun _ _ h => h)).trans (turn_set _ (w.heap.size + 1) 3 (.int .i64 0)) (fun _ _ h => h))
        have HXB := hid (block_turn hxA tB (by omega))
        have HDB := hid ((put4_block (b := w.heap.size + 1) hdA (.int .i64 0) (.int .i64 0) (.int .i64 0) (.int .i64 0)))
        have HTB := hid ((tA.mono (G := fun k => k = w.heap.size ∨ k = w.heap.size + 1) (fun _ _ h => .inl h)).trans tB (fun _ _ h => .inr h))
        have HSA : Hid (((w5.setCell ⟨w.heap.size, 0, none⟩ (.slice A1 n1' c1)).setCell ⟨w.heap.size, 1, none⟩ (.slice A2 n2 c2)).drew.heap[w.heap.size]? = some (.cells #[.slice A1 n1' c1, .slice A2 n2 c2] 40 (0, 0)) ∧ ((w5.setCell ⟨w.heap.size, 0, none⟩ (.slice A1 n1' c1)).setCell ⟨w.heap.size, 1, none⟩ (.slice A2 n2 c2)).drew.heap[w.heap.size + 1]? = some (.cells #[.int .i64 0, .int .i64 0, .int .i64 0, .int .i64 0] 55 (0, 0))) := hid ⟨by rw [hdh]; exact hxA, by rw [hdh]; exact hdA⟩
        clear tA hxA hdA tB
        go_wp2_with fail
        refine region_x (S := fun w' => w'.heap[w.heap.size]? = some (.cells #[.slice A1 n1' c1, .slice A2 n2 c2] 40 (0, 0)) ∧ w'.heap[w.heap.size + 1]? = some (.cells #[.int .i64 0, .int .i64 0, .int .i64 0, .int .i64 0] 55 (0, 0))) (x := 3) (by kernel_rfl) ?_
        try simp only [Act.put, List.getElem_toArray, List.getElem_cons_zero, List.getElem_cons_succ, List.setIfInBounds_toArray, List.set_cons_zero, List.set_cons_succ]
        refine txf 0 (.agg #[.slice A1 n1' c1, .slice A2 n2 c2]) PX.out HS0.out (hQ := hq_two rfl (by decide) (by decide)) ?_
        refine txf 1 (.agg #[.int .i64 0, .int .i64 0, .int .i64 0, .int .i64 0]) PD.out HS0.out (hQ := hq_two rfl (by decide) (by decide)) ?_
        refine anyX_ready (rs := [2]) (by kernel_rfl) (by simp) ?_
        refine ReadyX.cons rfl (fun K hK => ?_) (ReadyX.nil)
        go_simp
        refine hK.out _ _ HSA.out ?_
        clear hK K
        try simp only [Act.put, List.getElem_toArray, List.getElem_cons_zero, List.getElem_cons_succ, List.setIfInBounds_toArray, List.set_cons_zero, List.set_cons_succ]
        refine anyX_ready (rs := [3]) (by kernel_rfl) (by simp) ?_
        refine ReadyX.past rfl (by kernel_rfl) (fun K hK => ?_) (ReadyX.nil)
        go_simp
        refine hK.out _ _ ?_
        clear hK K
        try simp only [Act.put, List.getElem_toArray, List.getElem_cons_zero, List.getElem_cons_succ, List.setIfInBounds_toArray, List.set_cons_zero, List.set_cons_succ]
        refine anyX_done (by kernel_rfl) ?_ _
        go_wp2_with fail
        refine leaves_cons (f := 73) (args := #[.pointer (some ⟨w.heap.size, 0, none⟩), .pointer (some ⟨w.heap.size + 1, 0, none⟩)]) (by simp) (by simp [go_sem]) ?_
        refine (idle_mod _ _ _).mono ?_
        rintro e u9 w9 ⟨rfl, rfl, rfl⟩
        have e1 : Dg = (0, 0, 0) := by rw [← HDg.out, HWB.out]
        have e2 : V = x := by rw [← HV.out]; unfold okP; rw [HWB.out]; rfl
        subst e1 e2
        have hz9 := (HZ5.out.turn HTB.out (fun g _ h e => by omega)).turn (hdr (fun _ => False) _) (fun _ _ _ => id)
        have hb9 := (HT5.out.trans (HTB.out.below (B := w.heap.size) (by have := HT5.out.size; omega) (fun k hk e => by omega))).trans ((hdr (fun _ => False) _).below (by have := HT5.out.size; have := HTB.out.size; omega) (fun _ _ => id))
        exact ⟨_, results_agg2 rfl rfl rfl (by rw [hdh]; exact HXB.out) (by rw [hdh]; exact HDB.out) Tryz.underlying40 rfl (by kernel_rfl) Tryz.underlying55 rfl (by kernel_rfl), hb9, _, rfl, hz9.mono (fun g _ h => by omega)⟩
  · have hwh : wholeP moduleP s = (none, (lexL s).2) := by unfold wholeP; rw [if_neg hE]
    have e1 : Dg = (lexL s).2 := by rw [← hDg, hwh]
    have e2 : V = zeroM := by rw [← hV]; unfold okP; rw [hwh]; rfl
    subst e2
    obtain ⟨T, D1, hT⟩ : ∃ T D1, lexL s = (T, D1) := ⟨_, _, rfl⟩
    rw [hT] at HL e1 hE
    have e1 := e1.symm
    subst e1
    have hE1 : (D1.2.2 != 0) = true := by simpa using hE
    clear hE hwh hDg hV hT
    go_enter_defers Tryz.func43, Tryz.ntmps43
    go_wp2_with fail
    rw [HW0.out]
    have HDV : diagV D1 = .agg #[.int .i64 0, .int .i64 (D1.1 : Nat), .int .i64 (D1.2.1 : Nat), .int .i64 D1.2.2] := rfl
    refine (HL.out).mono ?_
    rintro e w1 ⟨v1, n1, rfl, hown, hb1⟩
    obtain ⟨A1', c1', rfl, _, _⟩ := own_sh hown
    have hs1 := hb1.size
    have hx1 := (hb1.block (w.heap.size) (by omega)).trans HX0.out
    have hd1 := (hb1.block (w.heap.size + 1) (by omega)).trans HD0.out
    have HB1 := hid (HB0.out.trans (hb1.mono (by omega)))
    have HLB1 := hid (HLB.out.below (hb1.mono (by omega)))
    obtain ⟨x0, x1, x2, x3, xz⟩ := cells4 hd1
    have t1 := put4_turn w1 (w.heap.size + 1) (.int .i64 0) (.int .i64 (D1.1 : Nat)) (.int .i64 (D1.2.1 : Nat)) (.int .i64 D1.2.2)
    have HX1 := hid (block_turn hx1 t1 (by omega))
    have HD1 := hid (put4_block hd1 (.int .i64 0) (.int .i64 (D1.1 : Nat)) (.int .i64 (D1.2.1 : Nat)) (.int .i64 D1.2.2))
    have HT1 := hid t1
    have hsp : (put4 w1 (w.heap.size + 1) (.int .i64 0) (.int .i64 (D1.1 : Nat)) (.int .i64 (D1.2.1 : Nat)) (.int .i64 D1.2.2)).heap.size = w1.heap.size := by simp [put4]
    have HOWN := hid hown
    rw [HDV]
    clear hown hb1 hx1 hd1 t1 HDV
    have PX := hid (fun (w' : World) (h : w'.heap[w.heap.size]? = some (.cells #[.slice none 0 0, .slice none 0 0] 40 (0, 0)) ∧ w'.heap[w.heap.size + 1]? = some (.cells #[.int .i64 0, .int .i64 (D1.1 : Nat), .int .i64 (D1.2.1 : Nat), .int .i64 D1.2.2] 55 (0, 0))) => (⟨(cell_of_row _ _ _ _ _ _ h.1).trans rfl, (cell_of_row _ _ _ _ _ _ h.1).trans rfl⟩ : w'.cell? ⟨w.heap.size, 0, none⟩ = some (.slice none 0 0) ∧ w'.cell? ⟨w.heap.size, 1, none⟩ = some (.slice none 0 0)))
    have PD := hid (fun (w' : World) (h : w'.heap[w.heap.size]? = some (.cells #[.slice none 0 0, .slice none 0 0] 40 (0, 0)) ∧ w'.heap[w.heap.size + 1]? = some (.cells #[.int .i64 0, .int .i64 (D1.1 : Nat), .int .i64 (D1.2.1 : Nat), .int .i64 D1.2.2] 55 (0, 0))) => (⟨(cell_of_row _ _ _ _ _ _ h.2).trans rfl, (cell_of_row _ _ _ _ _ _ h.2).trans rfl, (cell_of_row _ _ _ _ _ _ h.2).trans rfl, (cell_of_row _ _ _ _ _ _ h.2).trans rfl⟩ : w'.cell? ⟨w.heap.size + 1, 0, none⟩ = some (.int .i64 0) ∧ w'.cell? ⟨w.heap.size + 1, 1, none⟩ = some (.int .i64 (D1.1 : Nat)) ∧ w'.cell? ⟨w.heap.size + 1, 2, none⟩ = some (.int .i64 (D1.2.1 : Nat)) ∧ w'.cell? ⟨w.heap.size + 1, 3, none⟩ = some (.int .i64 D1.2.2)))
    have HS0 : Hid ((put4 w1 (w.heap.size + 1) (.int .i64 0) (.int .i64 (D1.1 : Nat)) (.int .i64 (D1.2.1 : Nat)) (.int .i64 D1.2.2)).drew.heap[w.heap.size]? = some (.cells #[.slice none 0 0, .slice none 0 0] 40 (0, 0)) ∧ (put4 w1 (w.heap.size + 1) (.int .i64 0) (.int .i64 (D1.1 : Nat)) (.int .i64 (D1.2.1 : Nat)) (.int .i64 D1.2.2)).drew.heap[w.heap.size + 1]? = some (.cells #[.int .i64 0, .int .i64 (D1.1 : Nat), .int .i64 (D1.2.1 : Nat), .int .i64 D1.2.2] 55 (0, 0))) := hid ⟨by rw [hdh]; exact HX1.out, by rw [hdh]; exact HD1.out⟩
    have ka0 : (put4 w1 (w.heap.size + 1) (.int .i64 0) (.int .i64 (D1.1 : Nat)) (.int .i64 (D1.2.1 : Nat)) (.int .i64 D1.2.2)).cell? ⟨w.heap.size, 0, none⟩ = some (.slice none 0 0) := (cell_of_row _ _ 0 _ _ _ HX1.out).trans rfl
    have ka1 : (put4 w1 (w.heap.size + 1) (.int .i64 0) (.int .i64 (D1.1 : Nat)) (.int .i64 (D1.2.1 : Nat)) (.int .i64 D1.2.2)).cell? ⟨w.heap.size, 1, none⟩ = some (.slice none 0 0) := (cell_of_row _ _ 1 _ _ _ HX1.out).trans rfl
    have kaz : ∀ i, (put4 w1 (w.heap.size + 1) (.int .i64 0) (.int .i64 (D1.1 : Nat)) (.int .i64 (D1.2.1 : Nat)) (.int .i64 D1.2.2)).frozen? ⟨w.heap.size, i, none⟩ = false := fun i => frozen_of_row _ _ _ _ _ HX1.out
    have la0 : (put4 w1 (w.heap.size + 1) (.int .i64 0) (.int .i64 (D1.1 : Nat)) (.int .i64 (D1.2.1 : Nat)) (.int .i64 D1.2.2)).cell? ⟨w.heap.size + 1, 0, none⟩ = some (.int .i64 0) := (cell_of_row _ _ 0 _ _ _ HD1.out).trans rfl
    have la1 : (put4 w1 (w.heap.size + 1) (.int .i64 0) (.int .i64 (D1.1 : Nat)) (.int .i64 (D1.2.1 : Nat)) (.int .i64 D1.2.2)).cell? ⟨w.heap.size + 1, 1, none⟩ = some (.int .i64 (D1.1 : Nat)) := (cell_of_row _ _ 1 _ _ _ HD1.out).trans rfl
    have la2 : (put4 w1 (w.heap.size + 1) (.int .i64 0) (.int .i64 (D1.1 : Nat)) (.int .i64 (D1.2.1 : Nat)) (.int .i64 D1.2.2)).cell? ⟨w.heap.size + 1, 2, none⟩ = some (.int .i64 (D1.2.1 : Nat)) := (cell_of_row _ _ 2 _ _ _ HD1.out).trans rfl
    have la3 : (put4 w1 (w.heap.size + 1) (.int .i64 0) (.int .i64 (D1.1 : Nat)) (.int .i64 (D1.2.1 : Nat)) (.int .i64 D1.2.2)).cell? ⟨w.heap.size + 1, 3, none⟩ = some (.int .i64 D1.2.2) := (cell_of_row _ _ 3 _ _ _ HD1.out).trans rfl
    have laz : ∀ i, (put4 w1 (w.heap.size + 1) (.int .i64 0) (.int .i64 (D1.1 : Nat)) (.int .i64 (D1.2.1 : Nat)) (.int .i64 D1.2.2)).frozen? ⟨w.heap.size + 1, i, none⟩ = false := fun i => frozen_of_row _ _ _ _ _ HD1.out
    have tA := ((turn_set (put4 w1 (w.heap.size + 1) (.int .i64 0) (.int .i64 (D1.1 : Nat)) (.int .i64 (D1.2.1 : Nat)) (.int .i64 D1.2.2)) (w.heap.size) 0 (.slice none 0 0)).trans (turn_set _ (w.heap.size) 1 (.slice none 0 0)) (fun _ _ h => h))
    have hxA := (heap_setCell_same _ _ 1 _ _ (.slice none 0 0) (heap_setCell_same _ _ 0 _ _ (.slice none 0 0) HX1.out))
    have hdA := block_turn HD1.out tA (by omega)
    have tB := ((((turn_set (((put4 w1 (w.heap.size + 1) (.int .i64 0) (.int .i64 (D1.1 : Nat)) (.int .i64 (D1.2.1 : Nat)) (.int .i64 D1.2.2)).setCell ⟨w.heap.size, 0, none⟩ (.slice none 0 0)).setCell ⟨w.heap.size, 1, none⟩ (.slice none 0 0)) (w.heap.size + 1) 0 (.int .i64 0)).trans (turn_set _ (w.heap.size + 1) 1 (.int .i64 (D1.1 : Nat))) (fun _ _ h => h)).trans (turn_set _ (w.heap.size + 1) 2 (.int .i64 (D1.2.1 : Nat))) (fun _ _ h => h)).trans (turn_set _ (w.heap.size + 1) 3 (.int .i64 D1.2.2)) (fun _ _ h => h))
    have HXB := hid (block_turn hxA tB (by omega))
    have HDB := hid ((put4_block (b := w.heap.size + 1) hdA (.int .i64 0) (.int .i64 (D1.1 : Nat)) (.int .i64 (D1.2.1 : Nat)) (.int .i64 D1.2.2)))
    have HTB := hid ((tA.mono (G := fun k => k = w.heap.size ∨ k = w.heap.size + 1) (fun _ _ h => .inl h)).trans tB (fun _ _ h => .inr h))
    have HSA : Hid ((((put4 w1 (w.heap.size + 1) (.int .i64 0) (.int .i64 (D1.1 : Nat)) (.int .i64 (D1.2.1 : Nat)) (.int .i64 D1.2.2)).setCell ⟨w.heap.size, 0, none⟩ (.slice none 0 0)).setCell ⟨w.heap.size, 1, none⟩ (.slice none 0 0)).drew.heap[w.heap.size]? = some (.cells #[.slice none 0 0, .slice none 0 0] 40 (0, 0)) ∧ (((put4 w1 (w.heap.size + 1) (.int .i64 0) (.int .i64 (D1.1 : Nat)) (.int .i64 (D1.2.1 : Nat)) (.int .i64 D1.2.2)).setCell ⟨w.heap.size, 0, none⟩ (.slice none 0 0)).setCell ⟨w.heap.size, 1, none⟩ (.slice none 0 0)).drew.heap[w.heap.size + 1]? = some (.cells #[.int .i64 0, .int .i64 (D1.1 : Nat), .int .i64 (D1.2.1 : Nat), .int .i64 D1.2.2] 55 (0, 0))) := hid ⟨by rw [hdh]; exact hxA, by rw [hdh]; exact hdA⟩
    clear tA hxA hdA tB
    go_wp2_with fail
    refine region_x (S := fun w' => w'.heap[w.heap.size]? = some (.cells #[.slice none 0 0, .slice none 0 0] 40 (0, 0)) ∧ w'.heap[w.heap.size + 1]? = some (.cells #[.int .i64 0, .int .i64 (D1.1 : Nat), .int .i64 (D1.2.1 : Nat), .int .i64 D1.2.2] 55 (0, 0))) (x := 3) (by kernel_rfl) ?_
    try simp only [Act.put, List.getElem_toArray, List.getElem_cons_zero, List.getElem_cons_succ, List.setIfInBounds_toArray, List.set_cons_zero, List.set_cons_succ]
    refine txf 0 (.agg #[.slice none 0 0, .slice none 0 0]) PX.out HS0.out (hQ := fun c a w h => hq_two rfl (by decide) (by decide) c a w h) ?_
    refine txf 1 (.agg #[.int .i64 0, .int .i64 (D1.1 : Nat), .int .i64 (D1.2.1 : Nat), .int .i64 D1.2.2]) PD.out HS0.out (hQ := fun c a w h => hq_two rfl (by decide) (by decide) c a w h) ?_
    refine anyX_ready (rs := [2]) (by kernel_rfl) (by simp) ?_
    refine ReadyX.cons rfl (fun K hK => ?_) (ReadyX.nil)
    go_simp
    refine hK.out _ _ HSA.out ?_
    clear hK K
    try simp only [Act.put, List.getElem_toArray, List.getElem_cons_zero, List.getElem_cons_succ, List.setIfInBounds_toArray, List.set_cons_zero, List.set_cons_succ]
    refine anyX_ready (rs := [3]) (by kernel_rfl) (by simp) ?_
    refine ReadyX.past rfl (by kernel_rfl) (fun K hK => ?_) (ReadyX.nil)
    go_simp
    refine hK.out _ _ ?_
    clear hK K
    try simp only [Act.put, List.getElem_toArray, List.getElem_cons_zero, List.getElem_cons_succ, List.setIfInBounds_toArray, List.set_cons_zero, List.set_cons_succ]
    refine anyX_done (by kernel_rfl) ?_ _
    go_wp2_with fail
    have hb9 := ((HB1.out.trans (HT1.out.below (B := w.heap.size) (by omega) (fun k hk e => by omega))).trans (HTB.out.below (B := w.heap.size) (by rw [hsp]; omega) (fun k hk e => by omega))).trans ((hdr (fun _ => False) _).below (by have := HTB.out.size; rw [hsp] at this; omega) (fun _ _ => id))
    exact ⟨_, results_agg2 rfl rfl rfl (by rw [hdh]; exact HXB.out) (by rw [hdh]; exact HDB.out) Tryz.underlying40 rfl (by kernel_rfl) Tryz.underlying55 rfl (by kernel_rfl), hb9, _, rfl, ⟨_, _, _, _, rfl, SlG.nil _ _ _, .nil, SlG.nil _ _ _, .nil⟩⟩
set_option maxRecDepth 100000 in
set_option maxHeartbeats 4000000 in
theorem tmod_any (w : World) (s : Bt) (hX : LaidX w) : Calls Tryz.prog 21 #[sv s] w fun e w' => Below w.heap.size w w' ∧ ∃ z : List Value, e = .returned (.tuple #[.agg z.toArray, dgV (wholeP moduleP s).2]) ∧ MoG w' (fun j => w.heap.size ≤ j) z (okP moduleP s zeroM) := by
  obtain ⟨W0, hW0⟩ : ∃ W0, ((w.alloc (.cells #[.slice none 0 0, .slice none 0 0] 40)).alloc (.cells #[.int .i64 0, .int .i64 0, .int .i64 0, .int .i64 0] 55)) = W0 := ⟨_, rfl⟩
  obtain ⟨tw, _, hx0, hd0⟩ := after2 (G := fun _ => False) (Turn.refl _ ((w.alloc (.cells #[.slice none 0 0, .slice none 0 0] 40)).alloc (.cells #[.int .i64 0, .int .i64 0, .int .i64 0, .int .i64 0] 55)))
  have hs0 : W0.heap.size = w.heap.size + 2 := by rw [← hW0]; simp
  have hb0 : Below w.heap.size w W0 := by rw [← hW0]; exact new2 _ _ _
  rw [hW0] at tw hx0 hd0
  have HX0 := hid (hx0 id)
  have HD0 := hid (hd0 id)
  have HB0 := hid hb0
  have HA := hid (all_mod W0 s (hX.below hb0))
  have HW0 := hid hW0
  obtain ⟨Dg, hDg⟩ : ∃ Dg, (wholeP moduleP s).2 = Dg := ⟨_, rfl⟩
  obtain ⟨V, hV⟩ : ∃ V, okP moduleP s zeroM = V := ⟨_, rfl⟩
  rw [hDg, hV] at HA
  rw [hDg, hV]
  clear hX tw hx0 hd0 hb0 hW0 hDg hV
  go_enter Tryz.func21, Tryz.ntmps21
  go_wp2_with fail
  rw [HW0.out]
  refine (HA.out).mono ?_
  rintro e w1 ⟨hb1, z0, rfl, hz0⟩
  have hzc := hz0
  obtain ⟨vi, xi, vd, xd, rfl, ⟨A1, n1', c1, rfl, _⟩, _, ⟨A2, n2, c2, rfl, _⟩, _⟩ := hzc
  have hs1 := hb1.size
  have hx1 := (hb1.block (w.heap.size) (by omega)).trans HX0.out
  have hd1 := (hb1.block (w.heap.size + 1) (by omega)).trans HD0.out
  have tA : Turn (fun k => k = w.heap.size) w1 ((w1.setCell ⟨w.heap.size, 0, none⟩ (.slice A1 n1' c1)).setCell ⟨w.heap.size, 1, none⟩ (.slice A2 n2 c2)) := ((turn_set w1 (w.heap.size) 0 (.slice A1 n1' c1)).trans (turn_set _ (w.heap.size) 1 (.slice A2 n2 c2)) (fun _ _ h => h))
  have hxA := (heap_setCell_same _ _ 1 _ _ (.slice A2 n2 c2) (heap_setCell_same _ _ 0 _ _ (.slice A1 n1' c1) hx1))
  have hdA := block_turn hd1 tA (by omega)
  have tB := ((((turn_set ((w1.setCell ⟨w.heap.size, 0, none⟩ (.slice A1 n1' c1)).setCell ⟨w.heap.size, 1, none⟩ (.slice A2 n2 c2)) (w.heap.size + 1) 0 (.int .i64 0)).trans (turn_set _ (w.heap.size + 1) 1 (.int .i64 (Dg.1 : Nat))) (fun _ _ h => h)).trans (turn_set _ (w.heap.size + 1) 2 (.int .i64 (Dg.2.1 : Nat))) (fun _ _ h => h)).trans (turn_set _ (w.heap.size + 1) 3 (.int .i64 Dg.2.2)) (fun _ _ h => h))
  have HXB := hid (block_turn hxA tB (by omega))
  have HDB := hid ((put4_block (b := w.heap.size + 1) hdA (.int .i64 0) (.int .i64 (Dg.1 : Nat)) (.int .i64 (Dg.2.1 : Nat)) (.int .i64 Dg.2.2)))
  have HTB := hid ((tA.mono (G := fun k => k = w.heap.size ∨ k = w.heap.size + 1) (fun _ _ h => .inl h)).trans tB (fun _ _ h => .inr h))
  have HZ := hid hz0
  have HB1 := hid (HB0.out.trans (hb1.mono (by omega)))
  have u0 : w1.cell? ⟨w.heap.size, 0, none⟩ = some (.slice none 0 0) := (cell_of_row _ _ 0 _ _ _ hx1).trans rfl
  have u1 : w1.cell? ⟨w.heap.size, 1, none⟩ = some (.slice none 0 0) := (cell_of_row _ _ 1 _ _ _ hx1).trans rfl
  have l0 : w1.cell? ⟨w.heap.size + 1, 0, none⟩ = some (.int .i64 0) := (cell_of_row _ _ 0 _ _ _ hd1).trans rfl
  have l1 : w1.cell? ⟨w.heap.size + 1, 1, none⟩ = some (.int .i64 0) := (cell_of_row _ _ 1 _ _ _ hd1).trans rfl
  have l2 : w1.cell? ⟨w.heap.size + 1, 2, none⟩ = some (.int .i64 0) := (cell_of_row _ _ 2 _ _ _ hd1).trans rfl
  have l3 : w1.cell? ⟨w.heap.size + 1, 3, none⟩ = some (.int .i64 0) := (cell_of_row _ _ 3 _ _ _ hd1).trans rfl
  have uz : ∀ i, w1.frozen? ⟨w.heap.size, i, none⟩ = false := fun i => frozen_of_row _ _ _ _ _ hx1
  have lz : ∀ i, w1.frozen? ⟨w.heap.size + 1, i, none⟩ = false := fun i => frozen_of_row _ _ _ _ _ hd1
  clear hb1 hz0 hx1 hd1 tA hxA hdA tB 
  go_wp2_with fail
  refine bodyPost_ret (results_agg2 rfl rfl rfl HXB.out HDB.out Tryz.underlying40 rfl (by kernel_rfl) Tryz.underlying55 rfl (by kernel_rfl)) rfl ?_
  exact ⟨HB1.out.trans (HTB.out.below (B := w.heap.size) (by omega) (fun k hk e => by omega)), _, rfl, (HZ.out.turn HTB.out (fun g _ h e => by omega)).mono (fun g _ h => by omega)⟩
end Go.Proofs.YtmbppnbekkbibaaGreatDoor
end
