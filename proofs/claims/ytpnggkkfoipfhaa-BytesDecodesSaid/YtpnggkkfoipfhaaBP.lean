/- Codes as bytes, in plain Lean: how they are written and read. -/
import Derived.Test.YtpnggkkfoipfhaaPB
set_option linter.unusedVariables false
namespace Go.Proofs.Ytpnggkkfoipfhaa

abbrev Bt := List UInt8
/-- A coercion, in plain words. -/
inductive CoD where
  | mk (tags : List Int) (needs : List (Bt × Int)) (names : List Bt) (fields funs : List CoD) : CoD
structure ProcD where
  caps : Int
  regs : Int
  code : List (Int × Int × Int × Int)
structure CodeD where
  ints : List Int
  strs : List Bt
  shapes : List (List Bt)
  cos : List CoD
  procs : List ProcD
  main : Int
  merge : Bool

def textE (s : Bt) : Bt := putL (s.length : Int) ++ s
def listE {α : Type} (f : α → Bt) (l : List α) : Bt := putL (l.length : Int) ++ l.flatMap f
def needE (n : Bt × Int) : Bt := textE n.1 ++ putL n.2
mutual
def coE : CoD → Bt
  | .mk tags needs names fields funs => listE putL tags ++ (listE needE needs ++ (listE textE names ++ (putL (fields.length : Int) ++ (cosE fields ++ (putL (funs.length : Int) ++ cosE funs)))))
def cosE : List CoD → Bt
  | [] => []
  | c :: l => coE c ++ cosE l
end
def instrE (i : Int × Int × Int × Int) : Bt := putL i.1 ++ (putL i.2.1 ++ (putL i.2.2.1 ++ putL i.2.2.2))
def procE (p : ProcD) : Bt := putL p.caps ++ (putL p.regs ++ listE instrE p.code)
def codeE (c : CodeD) : Bt :=
  putL (if c.merge then 1 else 0) ++ (putL c.main ++ (listE putL c.ints ++ (listE textE c.strs ++ (listE (listE textE) c.shapes ++ (putL (c.cos.length : Int) ++ (cosE c.cos ++ listE procE c.procs))))))
theorem cosE_flat : ∀ l : List CoD, cosE l = l.flatMap coE
  | [] => rfl
  | c :: l => by rw [cosE, cosE_flat l]; rfl
theorem cosE_list (l : List CoD) : putL (l.length : Int) ++ cosE l = listE coE l := by rw [cosE_flat]; rfl

/-- What stands at the beginning of bytes, and the bytes that are left. -/
def numD (l : Bt) : Option (Int × Bt) := if (getV l).2 = 0 then none else some ((getV l).1, l.drop (getV l).2.toNat)
def manyD (l : Bt) : Option (Nat × Bt) :=
  match numD l with
  | none => none
  | some (n, r) => if 0 ≤ n ∧ n ≤ (r.length : Int) then some (n.toNat, r) else none
def textD (l : Bt) : Option (Bt × Bt) :=
  match manyD l with
  | none => none
  | some (n, r) => some (r.take n, r.drop n)
def timesD {α : Type} (one : Bt → Option (α × Bt)) : Nat → Bt → Option (List α × Bt)
  | 0, l => some ([], l)
  | n + 1, l =>
    match one l with
    | none => none
    | some (x, r) =>
      match timesD one n r with
      | none => none
      | some (xs, r') => some (x :: xs, r')
def allD {α : Type} (one : Bt → Option (α × Bt)) (l : Bt) : Option (List α × Bt) :=
  match manyD l with
  | none => none
  | some (n, r) => timesD one n r
def andD {α β : Type} (a : Bt → Option (α × Bt)) (b : Bt → Option (β × Bt)) (l : Bt) : Option ((α × β) × Bt) :=
  match a l with
  | none => none
  | some (x, r) =>
    match b r with
    | none => none
    | some (y, r') => some ((x, y), r')
def mapD {α β : Type} (f : α → β) (a : Bt → Option (α × Bt)) (l : Bt) : Option (β × Bt) :=
  match a l with
  | none => none
  | some (x, r) => some (f x, r)
def needD : Bt → Option ((Bt × Int) × Bt) := andD textD numD
def coD : Nat → Bt → Option (CoD × Bt)
  | 0, _ => none
  | d + 1, l => mapD (fun (t, n, m, f, u) => .mk t n m f u) (andD (allD numD) (andD (allD needD) (andD (allD textD) (andD (allD (coD d)) (allD (coD d)))))) l
def instrD : Bt → Option ((Int × Int × Int × Int) × Bt) := andD numD (andD numD (andD numD numD))
def procD : Bt → Option (ProcD × Bt) := mapD (fun (c, r, l) => ⟨c, r, l⟩) (andD numD (andD numD (allD instrD)))
def mergeD (l : Bt) : Option (Bool × Bt) :=
  match numD l with
  | none => none
  | some (n, r) => if n = 0 ∨ n = 1 then some (decide (n = 1), r) else none
def codeD : Bt → Option (CodeD × Bt) :=
  mapD (fun (g, m, i, s, h, c, p) => ⟨i, s, h, c, p, m, g⟩) (andD mergeD (andD numD (andD (allD numD) (andD (allD textD) (andD (allD (allD textD)) (andD (allD (coD 40)) (allD procD)))))))
/-- The code that bytes are, if they are one. -/
def wholeD (l : Bt) : Option CodeD :=
  match codeD l with
  | some (c, []) => some c
  | _ => none

/-- What is written is read, whatever stands behind it. -/
def Back {α : Type} (e : α → Bt) (d : Bt → Option (α × Bt)) (P : α → Prop) : Prop := ∀ x, P x → ∀ t, d (e x ++ t) = some (x, t)
/-- What is read is written as it was read. -/
def Again {α : Type} (e : α → Bt) (d : Bt → Option (α × Bt)) (P : α → Prop) : Prop := ∀ l x r, d l = some (x, r) → l = e x ++ r ∧ P x

theorem putL_some (n : Int) : 1 ≤ (putL n).length ∧ (putL n).length ≤ 10 := grp_length 9 (zz n)
theorem num_back : Back putL numD In64 := by
  intro n hn t
  unfold numD
  rw [get_put hn t]
  have h := putL_some n
  rw [if_neg (by simp only; omega)]
  simp
theorem num_again : Again putL numD In64 := by
  intro l x r h
  unfold numD at h
  split at h
  · cases h
  · rename_i hk
    obtain ⟨k, h1, h2, h3, h4, h5, h6⟩ := put_get hk
    injection h with h
    simp only [Prod.mk.injEq] at h
    obtain ⟨rfl, rfl⟩ := h
    rw [h1, h6, Int.toNat_natCast, List.take_append_drop]
    exact ⟨rfl, h5⟩
theorem many_back (n : Nat) (hn : In64 n) (t : Bt) (ht : n ≤ t.length) : manyD (putL (n : Int) ++ t) = some (n, t) := by
  unfold manyD
  rw [num_back _ hn t]
  simp only
  rw [if_pos (by omega), Int.toNat_natCast]
theorem many_again {l : Bt} {n : Nat} {r : Bt} (h : manyD l = some (n, r)) : l = putL (n : Int) ++ r ∧ In64 n ∧ n ≤ r.length := by
  unfold manyD at h
  split at h
  · cases h
  · rename_i m r' hm
    split at h
    · rename_i hc
      injection h with h
      simp only [Prod.mk.injEq] at h
      obtain ⟨rfl, rfl⟩ := h
      obtain ⟨h1, h2⟩ := num_again _ _ _ hm
      have : ((m.toNat : Nat) : Int) = m := Int.toNat_of_nonneg hc.1
      rw [this]
      exact ⟨h1, h2, by omega⟩
    · cases h
theorem text_back : Back textE textD (fun s => In64 s.length) := by
  intro s hs t
  unfold textD textE
  rw [List.append_assoc, many_back _ hs _ (by simp)]
  simp
theorem text_again : Again textE textD (fun s => In64 s.length) := by
  intro l x r h
  unfold textD at h
  split at h
  · cases h
  · rename_i n r' hm
    injection h with h
    simp only [Prod.mk.injEq] at h
    obtain ⟨rfl, rfl⟩ := h
    obtain ⟨h1, h2, h3⟩ := many_again hm
    have hl : (r'.take n).length = n := by rw [List.length_take]; omega
    unfold textE
    rw [hl, List.append_assoc, List.take_append_drop]
    exact ⟨h1, by simp only [hl]; exact h2⟩
theorem times_back {α : Type} {e : α → Bt} {d : Bt → Option (α × Bt)} {P : α → Prop} : ∀ (l : List α), (∀ x ∈ l, ∀ t, d (e x ++ t) = some (x, t)) → ∀ t, timesD d l.length (l.flatMap e ++ t) = some (l, t)
  | [], _, t => rfl
  | x :: l, hP, t => by
    rw [List.length_cons, timesD, List.flatMap_cons, List.append_assoc, hP x (by simp)]
    simp only
    rw [times_back (P := P) l (fun y hy => hP y (by simp [hy]))]
theorem times_again {α : Type} {e : α → Bt} {d : Bt → Option (α × Bt)} {P : α → Prop} (h : Again e d P) : ∀ (n : Nat) (l : Bt) (xs : List α) (r : Bt), timesD d n l = some (xs, r) → l = xs.flatMap e ++ r ∧ xs.length = n ∧ ∀ x ∈ xs, P x
  | 0, l, xs, r, hh => by
    simp only [timesD, Option.some.injEq, Prod.mk.injEq] at hh
    obtain ⟨rfl, rfl⟩ := hh
    simp
  | n + 1, l, xs, r, hh => by
    rw [timesD] at hh
    split at hh
    · cases hh
    · rename_i x r1 h1
      split at hh
      · cases hh
      · rename_i ys r2 h2
        injection hh with hh
        simp only [Prod.mk.injEq] at hh
        obtain ⟨rfl, rfl⟩ := hh
        obtain ⟨a1, a2⟩ := h _ _ _ h1
        obtain ⟨b1, b2, b3⟩ := times_again h n _ _ _ h2
        refine ⟨by rw [a1, b1, List.flatMap_cons, List.append_assoc], by simp [b2], fun y hy => ?_⟩
        rcases List.mem_cons.1 hy with rfl | hy
        · exact a2
        · exact b3 y hy
theorem flat_len {α : Type} {e : α → Bt} {l : List α} (h : ∀ x ∈ l, 1 ≤ (e x).length) : l.length ≤ (l.flatMap e).length := by
  induction l with
  | nil => simp
  | cons x l ih =>
    rw [List.flatMap_cons, List.length_append, List.length_cons]
    have := h x (by simp)
    have := ih (fun y hy => h y (by simp [hy]))
    omega
theorem all_back {α : Type} {e : α → Bt} {d : Bt → Option (α × Bt)} (l : List α) (hl : In64 l.length) (h1 : ∀ x ∈ l, 1 ≤ (e x).length) (hP : ∀ x ∈ l, ∀ t, d (e x ++ t) = some (x, t)) (t : Bt) : allD d (listE e l ++ t) = some (l, t) := by
  unfold allD listE
  have := flat_len h1
  rw [List.append_assoc, many_back _ hl _ (by rw [List.length_append]; omega)]
  exact times_back (P := fun _ => True) l hP t
theorem all_again {α : Type} {e : α → Bt} {d : Bt → Option (α × Bt)} {P : α → Prop} (h : Again e d P) : Again (listE e) (allD d) (fun l => In64 l.length ∧ ∀ x ∈ l, P x) := by
  intro l x r hh
  unfold allD at hh
  split at hh
  · cases hh
  · rename_i n r1 hm
    obtain ⟨h1, h2, h3⟩ := many_again hm
    obtain ⟨a1, a2, a3⟩ := times_again h _ _ _ _ hh
    subst a2
    refine ⟨?_, h2, a3⟩
    unfold listE
    rw [h1, a1, List.append_assoc]
theorem and_back {α β : Type} {e : α → Bt} {d : Bt → Option (α × Bt)} {f : β → Bt} {g : Bt → Option (β × Bt)} {x : α} {y : β} (h1 : ∀ t, d (e x ++ t) = some (x, t)) (h2 : ∀ t, g (f y ++ t) = some (y, t)) (t : Bt) :
    andD d g ((e x ++ f y) ++ t) = some ((x, y), t) := by
  unfold andD
  rw [List.append_assoc, h1]
  simp only
  rw [h2]
theorem and_again {α β : Type} {e : α → Bt} {d : Bt → Option (α × Bt)} {P : α → Prop} {f : β → Bt} {g : Bt → Option (β × Bt)} {Q : β → Prop} (h1 : Again e d P) (h2 : Again f g Q) : Again (fun p : α × β => e p.1 ++ f p.2) (andD d g) (fun p => P p.1 ∧ Q p.2) := by
  intro l x r hh
  unfold andD at hh
  split at hh
  · cases hh
  · rename_i a r1 h3
    split at hh
    · cases hh
    · rename_i b r2 h4
      injection hh with hh
      simp only [Prod.mk.injEq] at hh
      obtain ⟨rfl, rfl⟩ := hh
      obtain ⟨a1, a2⟩ := h1 _ _ _ h3
      obtain ⟨b1, b2⟩ := h2 _ _ _ h4
      exact ⟨by rw [a1, b1, List.append_assoc], a2, b2⟩
theorem map_again {α β : Type} {e : α → Bt} {d : Bt → Option (α × Bt)} {P : α → Prop} {f : α → β} {e' : β → Bt} {P' : β → Prop} (h : Again e d P) (he : ∀ x, e' (f x) = e x) (hP : ∀ x, P x → P' (f x)) : Again e' (mapD f d) P' := by
  intro l x r hh
  unfold mapD at hh
  split at hh
  · cases hh
  · rename_i a r1 h3
    injection hh with hh
    simp only [Prod.mk.injEq] at hh
    obtain ⟨rfl, rfl⟩ := hh
    obtain ⟨a1, a2⟩ := h _ _ _ h3
    exact ⟨by rw [he]; exact a1, hP _ a2⟩
end Go.Proofs.Ytpnggkkfoipfhaa
