/- RB, YB, ZF, Shelf, WG, GE -/
import Derived.Test.YtmbppnbekkbibaaGreatDoorPF01
import Derived.Shelf.Strings.Builder1
import Derived.Shelf.Strings.Builder2
import Derived.Shelf.Strings.OnBuilder
import Derived.Shelf.Small.Strs
import Derived.Shelf.Strconv.Atoi
import Derived.Shelf.Strconv.Itoa0
import Derived.Shelf.Strconv.Itoa1
import Derived.Shelf.LaysM
import Derived.Shelf.Strconv.Itoa2
import Derived.Shelf.Strconv.Itoa3
import Derived.Shelf.Strconv.AtoiErrFast
import Derived.Shelf.Strconv.ParseIntEmpty
import Derived.Shelf.Strconv.AtoiFail
import Derived.Shelf.Strconv.Clone
import Derived.Shelf.Strconv.SyntaxError
import Derived.Shelf.LaysC
import Derived.Shelf.Strconv.ToError
import Derived.Shelf.Strconv.Lower
import Derived.Shelf.Strconv.ParseUint10
import Derived.Shelf.Strconv.ParseUint10Empty
import Derived.Shelf.Strconv.ParseUint10Any
import Derived.Shelf.Strconv.ParseInt10
import Derived.Shelf.Strconv.AtoiLong
import Derived.Shelf.Strconv.AtoiInnerAll
import Derived.Shelf.Strconv.RangeError
import Derived.Shelf.Strconv.ToErrorRange
import Derived.Shelf.Strconv.AtoiAll
import Derived.Shelf.Strconv.ErrVarAll
import Derived.Shelf.Strings.Search1
import Derived.Shelf.Strings.Search2
import Derived.Shelf.Strings.Search3
import Derived.Shelf.Strings.Count
import Derived.Shelf.Strings.Shaped
import Derived.Shelf.GgClosure.StringsIndexFunc
import Derived.Shelf.Strings.Split
import Derived.Shelf.Strings.Fields
import Derived.Shelf.Strings.SplitShaped
import Derived.Shelf.Unicode.Latin
import Derived.Shelf.Unicode.Is16White
import Derived.Shelf.Unicode.IsSpaceAny
import Derived.Shelf.Unicode.Is16WhiteD
import Derived.Shelf.Unicode.IsSpaceAnyD
import Derived.Shelf.Strings.FieldsAny
import Derived.Shelf.Strings.FieldsFuncAny
import Derived.Shelf.Unicode.Is16Any
import Derived.Shelf.Unicode.Is32Any
import Derived.Shelf.Unicode.ExclAny
import Derived.Shelf.Slices.Turned
import Derived.Test.YtmbppnbekkbibaaGreatDoorProg
import Derived.WalkKit
import Derived.WalkSpells
import Derived.WalkLawsBesides
import Derived.RegionTactic
import Derived.Deep.QuietTactic
import Derived.Test.YtmbppnbekkbibaaGreatDoorRows
import Derived.Lib.ConvBytes
set_option linter.unusedSimpArgs false
set_option linter.unusedVariables false
section
/- What the parser leaves of a row of tokens, and where its faults lie. -/
set_option linter.unusedVariables false
namespace Go.Proofs.YtmbppnbekkbibaaGreatDoor

/-- A row of tokens with its end; no word is a colon. -/
def Wf (ts : List TokD) : Prop := ∃ a e, ts = a ++ [e] ∧ e.kind = 0 ∧ ∀ t ∈ a, t.kind ≠ 0 ∧ (t.kind = 2 → t.text ≠ [58])
theorem Wf.one {e : TokD} (h : e.kind = 0) : Wf [e] := ⟨[], e, rfl, h, by simp⟩
theorem Wf.pos {ts : List TokD} (h : Wf ts) : 1 ≤ ts.length := by obtain ⟨a, e, rfl, _⟩ := h; simp
theorem Wf.cases {ts : List TokD} (h : Wf ts) : (∃ e, ts = [e] ∧ e.kind = 0) ∨ ∃ t r, ts = t :: r ∧ t.kind ≠ 0 ∧ (t.kind = 2 → t.text ≠ [58]) ∧ Wf r := by
  obtain ⟨a, e, rfl, h0, h1⟩ := h
  cases a with
  | nil => exact .inl ⟨e, rfl, h0⟩
  | cons t a => exact .inr ⟨t, a ++ [e], rfl, (h1 t (by simp)).1, (h1 t (by simp)).2, a, e, rfl, h0, fun x hx => h1 x (by simp [hx])⟩
theorem Wf.next_mem {ts : List TokD} (h : Wf ts) : nextP ts ∈ ts := by
  rcases h.cases with ⟨e, rfl, _⟩ | ⟨t, r, rfl, _⟩ <;> simp [nextP]
theorem Wf.drop {ts : List TokD} (h : Wf ts) (hk : (nextP ts).kind ≠ 0) : Wf (ts.drop 1) := by
  rcases h.cases with ⟨e, rfl, h0⟩ | ⟨t, r, rfl, _, _, hr⟩
  · exact absurd h0 (by simpa [nextP] using hk)
  · simpa using hr
theorem isT_kind {t : TokD} {s : Bt} (h : isT t s = true) : t.kind ≠ 0 := by
  unfold isT at h
  intro h0
  rw [h0] at h
  simp at h
/-- A reader that leaves a part of its tokens, or has a fault at one of them. -/
def Sf {α : Type} (p : Ps α) : Prop := ∀ ts, Wf ts → match p ts with
  | .bad d => (∃ t ∈ ts, d.1 = t.line ∧ d.2.1 = t.col) ∧ (d.2.2 = 6 ∨ d.2.2 = 7)
  | .good _ r => Wf r ∧ r <:+ ts
section
variable {α β : Type}
theorem Sf.bad {p : Ps α} (h : Sf p) {ts : List TokD} (hw : Wf ts) {d : DgD} (hp : p ts = .bad d) : (∃ t ∈ ts, d.1 = t.line ∧ d.2.1 = t.col) ∧ (d.2.2 = 6 ∨ d.2.2 = 7) := by
  have := h ts hw; rwa [hp] at this
theorem Sf.good {p : Ps α} (h : Sf p) {ts : List TokD} (hw : Wf ts) {a : α} {r : List TokD} (hp : p ts = .good a r) : Wf r ∧ r <:+ ts := by
  have := h ts hw; rwa [hp] at this
theorem Sf.ret (a : α) : Sf (retP a) := fun ts hw => ⟨hw, List.suffix_refl _⟩
theorem Sf.then_ {p : Ps α} {f : α → Ps β} (h : Sf p) (hf : ∀ a, Sf (f a)) : Sf (thenP p f) := by
  intro ts hw
  unfold thenP
  rcases hp : p ts with d | ⟨a, r⟩
  · exact h.bad hw hp
  · obtain ⟨hr, hs⟩ := h.good hw hp
    have h2 := hf a r hr
    simp only
    rcases hq : f a r with d | ⟨b, r2⟩
    · rw [hq] at h2
      obtain ⟨⟨t, ht, e⟩, h3⟩ := h2
      exact ⟨⟨t, hs.subset ht, e⟩, h3⟩
    · rw [hq] at h2
      exact ⟨h2.1, h2.2.trans hs⟩
theorem Sf.fail {e : Int} (he : e = 6 ∨ e = 7) : Sf (failP (α := α) e) := fun ts hw => ⟨⟨_, hw.next_mem, rfl, rfl⟩, he⟩
theorem drop_suf (ts : List TokD) : ts.drop 1 <:+ ts := List.drop_suffix 1 ts
theorem Sf.take_ (l : List Bt) : Sf (takeP l) := by
  intro ts hw
  unfold takeP
  rcases h : l.findIdx? (isT (nextP ts)) with _ | i
  · exact ⟨hw, List.suffix_refl _⟩
  · obtain ⟨hi, h1, _⟩ := List.findIdx?_eq_some_iff_getElem.1 h
    exact ⟨hw.drop (isT_kind h1), drop_suf ts⟩
theorem Sf.has (s : Bt) : Sf (hasP s) := by
  intro ts hw
  unfold hasP
  by_cases h : isT (nextP ts) s = true
  · rw [if_pos h]; exact ⟨hw.drop (isT_kind h), drop_suf ts⟩
  · rw [if_neg h]; exact ⟨hw, List.suffix_refl _⟩
theorem Sf.want (s : Bt) : Sf (wantP s) := Sf.then_ (Sf.has s) fun b => by
  cases b
  · exact Sf.fail (.inr rfl)
  · exact Sf.ret ()
theorem Sf.wants : ∀ l : List Bt, Sf (wantsP l)
  | [] => Sf.ret ()
  | s :: l => Sf.then_ (Sf.want s) fun _ => Sf.wants l
theorem Sf.kind (k : Int) : Sf (kindP k) := by
  intro ts hw
  unfold kindP
  by_cases h : (nextP ts).kind = k
  · rw [if_pos h]
    by_cases h0 : k = 0
    · rw [if_pos h0]; exact ⟨hw, List.suffix_refl _⟩
    · rw [if_neg h0]; exact ⟨hw.drop (by rw [h]; exact h0), drop_suf ts⟩
  · rw [if_neg h]; exact ⟨⟨_, hw.next_mem, rfl, rfl⟩, .inr rfl⟩
theorem Sf.name : Sf nameP := Sf.kind 1
theorem Sf.here : Sf hereP := fun ts hw => ⟨hw, List.suffix_refl _⟩
theorem Sf.seen (f : TokD → List TokD → Bool) : Sf (seenP f) := fun ts hw => ⟨hw, List.suffix_refl _⟩
theorem Sf.fuel {p : List TokD → Ps α} (h : ∀ ts, Sf (p ts)) : Sf (fun ts => p ts ts) := fun ts hw => h ts ts hw
theorem Sf.sepf {one : Ps α} (h : Sf one) : ∀ (f : Nat) (l : List α), Sf (sepF one f l)
  | 0, l => Sf.ret l
  | f + 1, l => Sf.then_ (Sf.has _) fun b => by
    cases b
    · exact Sf.ret l
    · exact Sf.then_ h fun a => Sf.sepf h f _
theorem Sf.sep {one : Ps α} (h : Sf one) : Sf (sepP one) := Sf.then_ h fun a => Sf.fuel (p := fun ts => sepF one ts.length [a]) fun ts => Sf.sepf h _ _
end
section
variable {typ : Ps TyD} (ht : Sf typ) {expr unary : Ps NoD} (he : Sf expr) (hu : Sf unary)
include ht
theorem Sf.prim : Sf (primP typ) := by
  refine Sf.then_ (Sf.take_ _) fun b => ?_
  rcases b with _ | k
  · refine Sf.then_ (Sf.take_ _) fun c => ?_
    rcases c with _ | _ | k
    · exact Sf.then_ Sf.name fun s => Sf.ret _
    · exact Sf.then_ ht fun t => Sf.then_ (Sf.want _) fun _ => Sf.ret _
    · refine Sf.then_ (Sf.has _) fun e => ?_
      cases e
      · exact Sf.then_ (Sf.sep (Sf.then_ Sf.name fun s => Sf.then_ (Sf.want _) fun _ => Sf.then_ ht fun t => Sf.ret _)) fun l => Sf.then_ (Sf.want _) fun _ => Sf.ret _
      · exact Sf.ret _
  · exact Sf.ret _
theorem Sf.alt : ∀ (f : Nat) (l : List TyD), Sf (altF typ f l)
  | 0, l => Sf.ret l
  | f + 1, l => Sf.then_ (Sf.has _) fun b => by
    cases b
    · exact Sf.ret l
    · exact Sf.then_ (Sf.prim ht) fun a => Sf.alt f _
theorem Sf.typp : Sf (typP typ) := Sf.then_ (Sf.prim ht) fun a => Sf.then_ (Sf.fuel (p := fun ts => altF typ ts.length [a]) fun ts => Sf.alt ht _ _) fun l => Sf.then_ (Sf.has _) fun b => by
  cases b
  · exact Sf.ret _
  · exact Sf.then_ ht fun r => Sf.ret _
theorem Sf.note (l n : List TyD) : Sf (noteR typ l n) := Sf.then_ (Sf.has _) fun b => by
  cases b
  · exact Sf.ret _
  · exact Sf.then_ ht fun r => Sf.ret _
theorem Sf.head (n : List TyD) : Sf (headP typ n) := Sf.then_ (Sf.want _) fun _ => Sf.then_ Sf.name fun s => Sf.then_ (Sf.note ht _ _) fun l => Sf.then_ (Sf.want _) fun _ => Sf.then_ (Sf.note ht _ _) fun m => Sf.ret _
omit ht
include he
theorem Sf.kids : ∀ (a : List Bt) (l : List NoD), Sf (kidsP expr a l)
  | [], l => Sf.ret l
  | s :: r, l => Sf.then_ (by split; exact Sf.ret (); exact Sf.want s) fun _ => Sf.then_ he fun x => Sf.kids r _
omit he
theorem Sf.left {sub : Ps NoD} (hs : Sf sub) (ops : List Bt) : ∀ (f : Nat) (a : NoD), Sf (leftF ops sub f a)
  | 0, a => Sf.ret a
  | f + 1, a => Sf.then_ Sf.here fun h => Sf.then_ (Sf.take_ _) fun i => by
    rcases i with _ | i
    · exact Sf.ret a
    · exact Sf.then_ hs fun b => Sf.left hs ops f _
theorem Sf.leftp {sub : Ps NoD} (hs : Sf sub) (ops : List Bt) : Sf (leftP ops sub) := Sf.then_ hs fun a => Sf.fuel (p := fun ts => leftF ops sub ts.length a) fun ts => Sf.left hs _ _ _
include ht
theorem Sf.cmp {sub : Ps NoD} (hs : Sf sub) : Sf (cmpP typ sub) := Sf.then_ hs fun a => Sf.then_ Sf.here fun h => Sf.then_ (Sf.take_ _) fun i => by
  rcases i with _ | i
  · exact Sf.ret a
  · simp only
    split
    · refine Sf.then_ (Sf.take_ _) fun t => ?_
      rcases t with _ | t
      · exact Sf.fail (.inr rfl)
      · exact Sf.ret _
    · split
      · exact Sf.then_ ht fun t => Sf.ret _
      · exact Sf.then_ hs fun b => Sf.ret _
include hu
theorem Sf.rank : ∀ f : Nat, Sf (rankF typ unary f)
  | 0 => hu
  | f + 1 => by
    unfold rankF
    split
    · exact Sf.cmp ht (Sf.rank f)
    · exact Sf.leftp (Sf.rank f) _
include he
theorem Sf.exprp : Sf (exprP typ expr unary) := Sf.then_ Sf.here fun h => Sf.then_ (Sf.take_ _) fun i => by
  rcases i with _ | _ | _ | i
  · exact Sf.rank ht hu 6
  · exact Sf.then_ Sf.name fun s => Sf.then_ (Sf.note ht _ _) fun t => Sf.then_ (Sf.kids he _ _) fun k => Sf.ret _
  · exact Sf.then_ (Sf.kids he _ _) fun k => Sf.ret _
  · exact Sf.then_ (Sf.head ht _) fun s => Sf.then_ (Sf.kids he _ _) fun k => Sf.ret _
omit hu ht
theorem Sf.nfield : Sf (nfieldP expr) := Sf.then_ Sf.name fun s => Sf.then_ (Sf.want _) fun _ => Sf.then_ he fun x => Sf.ret _
theorem Sf.rec_ (h : TokD) : Sf (recP expr h) := Sf.then_ (Sf.seen _) fun e => by
  cases e
  · rw [if_neg Bool.false_ne_true]
    refine Sf.then_ (Sf.seen _) fun c => ?_
    cases c
    · exact Sf.then_ (Sf.kids he _ _) fun k => Sf.then_ (Sf.want _) fun _ => Sf.then_ Sf.name fun s => Sf.then_ (Sf.kids he _ _) fun m => Sf.ret _
    · exact Sf.then_ (Sf.sep (Sf.nfield he)) fun l => Sf.ret _
  · exact Sf.ret _
include ht
omit he
theorem Sf.named (h : TokD) : Sf (namedP typ h) := Sf.then_ Sf.name fun s => Sf.then_ (Sf.has _) fun b => by
  cases b
  · exact Sf.ret _
  · exact Sf.then_ (Sf.sep ht) fun l => Sf.then_ (Sf.want _) fun _ => Sf.ret _
include he
theorem Sf.atom : Sf (atomP typ expr) := Sf.then_ Sf.here fun h => by
  split
  · exact Sf.then_ (Sf.kind 3) fun s => Sf.ret _
  · split
    · exact Sf.then_ (Sf.kind 4) fun s => Sf.ret _
    · refine Sf.then_ (Sf.take_ _) fun i => ?_
      rcases i with _ | _ | _ | _ | _ | _ | _ | i
      · exact Sf.named ht h
      · exact Sf.ret _
      · exact Sf.ret _
      · exact Sf.ret _
      · exact Sf.then_ (Sf.wants _) fun _ => Sf.ret _
      · exact Sf.then_ (Sf.kids he _ _) fun k => Sf.then_ (Sf.want _) fun _ => Sf.ret _
      · exact Sf.then_ he fun k => Sf.then_ (Sf.want _) fun _ => Sf.ret _
      · exact Sf.then_ (Sf.rec_ he h) fun k => Sf.then_ (Sf.want _) fun _ => Sf.ret _
omit ht
theorem Sf.postf : ∀ (f : Nat) (a : NoD), Sf (postF expr f a)
  | 0, a => Sf.ret a
  | f + 1, a => Sf.then_ Sf.here fun h => Sf.then_ (Sf.take_ _) fun i => by
    rcases i with _ | _ | i
    · exact Sf.ret a
    · exact Sf.then_ (Sf.kids he _ _) fun k => Sf.then_ (Sf.want _) fun _ => Sf.postf f _
    · exact Sf.then_ Sf.name fun k => Sf.postf f _
include ht
theorem Sf.post : Sf (postP typ expr) := Sf.then_ (Sf.atom ht he) fun a => Sf.fuel (p := fun ts => postF expr ts.length a) fun ts => Sf.postf he _ _
include hu
theorem Sf.unaryp : Sf (unaryP typ expr unary) := Sf.then_ Sf.here fun h => Sf.then_ (Sf.take_ _) fun i => by
  rcases i with _ | _ | i
  · exact Sf.post ht he
  · exact Sf.then_ hu fun x => Sf.ret _
  · exact Sf.then_ hu fun x => Sf.ret _
end
theorem Sf.lev : ∀ n : Nat, Sf (levP n).typ ∧ Sf (levP n).expr ∧ Sf (levP n).unary
  | 0 => ⟨Sf.fail (.inl rfl), Sf.fail (.inl rfl), Sf.fail (.inl rfl)⟩
  | n + 1 => by
    obtain ⟨h1, h2, h3⟩ := Sf.lev n
    exact ⟨Sf.typp h1, Sf.exprp h1 h2 h3, Sf.unaryp h1 h2 h3⟩
theorem Sf.var : Sf varP := Sf.then_ Sf.name fun s => Sf.then_ (Sf.has _) fun b => by
  cases b
  · exact Sf.ret _
  · exact Sf.then_ (Sf.lev 100).1 fun t => Sf.ret _
theorem Sf.vars : Sf varsP := Sf.then_ (Sf.has _) fun b => by
  cases b
  · exact Sf.ret _
  · exact Sf.then_ (Sf.sep Sf.var) fun l => Sf.then_ (Sf.want _) fun _ => Sf.ret _
theorem Sf.import_ (h : TokD) : Sf (importP h) := Sf.then_ Sf.name fun s => Sf.then_ (Sf.want _) fun _ => Sf.then_ (Sf.sep Sf.name) fun l => Sf.then_ (Sf.want _) fun _ => Sf.ret _
theorem Sf.decl : Sf declP := Sf.then_ (Sf.has _) fun e => Sf.then_ Sf.here fun h => Sf.then_ (Sf.want _) fun _ => Sf.then_ Sf.name fun s => Sf.then_ Sf.vars fun v =>
  Sf.then_ (Sf.head (Sf.lev 100).1 _) fun p => Sf.then_ (Sf.want _) fun _ => Sf.then_ (Sf.lev 100).2.1 fun b => Sf.then_ (Sf.want _) fun _ => Sf.ret _
theorem Sf.imps : ∀ (f : Nat) (l : List ImD), Sf (impsF f l)
  | 0, l => Sf.ret l
  | f + 1, l => Sf.then_ Sf.here fun h => Sf.then_ (Sf.has _) fun b => by
    cases b
    · exact Sf.ret l
    · exact Sf.then_ (Sf.import_ h) fun i => Sf.imps f _
theorem Sf.decls : ∀ (f : Nat) (l : List DeD), Sf (declsF f l)
  | 0, l => Sf.ret l
  | f + 1, l => Sf.then_ (Sf.seen _) fun b => by
    cases b
    · exact Sf.then_ Sf.decl fun d => Sf.decls f _
    · exact Sf.ret l
theorem Sf.module : Sf moduleP := Sf.then_ (Sf.fuel (p := fun ts => impsF ts.length []) fun ts => Sf.imps _ _) fun i => Sf.then_ (Sf.fuel (p := fun ts => declsF ts.length []) fun ts => Sf.decls _ _) fun d => Sf.ret _
end Go.Proofs.YtmbppnbekkbibaaGreatDoor
end
section
/- What modules read as in memory. -/
set_option linter.unusedVariables false
namespace Go.Proofs.YtmbppnbekkbibaaGreatDoor
open Go.RowKit

theorem TRow.imp {α : Type} {R S : List Value → α → Prop} {k : Nat} (hS : ∀ z c, R z c → S z c) : ∀ {xs : List Value} {ys : List α}, TRow R k xs ys → TRow S k xs ys
  | _, _, .nil => .nil
  | _, _, .cons h1 h2 h3 => .cons h1 (hS _ _ h2) (TRow.imp hS h3)
theorem TRow.at {α : Type} {R : List Value → α → Prop} {k : Nat} : ∀ {xs : List Value} {ys : List α}, TRow R k xs ys → ∀ (i : Nat) (hi : i < ys.length), R ((xs.drop (i * k)).take k) ys[i]
  | _, _, .nil, i, hi => by simp at hi
  | _, _, .cons (x := x) (y := y) h1 h2 h3, i, hi => by
    rcases i with _ | i
    · rw [Nat.zero_mul, List.drop_zero, ← h1, List.take_left]; exact h2
    · have : (x ++ y).drop ((i + 1) * k) = y.drop (i * k) := by
        rw [show (i + 1) * k = x.length + i * k by rw [h1, Nat.add_mul, Nat.one_mul, Nat.add_comm], ← List.drop_drop, List.drop_left]
      rw [this]
      exact TRow.at h3 i (by simpa using hi)
theorem TRow.and {α : Type} {R S : List Value → α → Prop} {k : Nat} : ∀ {xs : List Value} {ys : List α}, TRow (fun z c => R z c ∧ S z c) k xs ys → TRow R k xs ys ∧ TRow S k xs ys
  | _, _, .nil => ⟨.nil, .nil⟩
  | _, _, .cons h1 h2 h3 => ⟨.cons h1 h2.1 (TRow.and h3).1, .cons h1 h2.2 (TRow.and h3).2⟩
theorem TRow.app {α : Type} {R : List Value → α → Prop} {k : Nat} {xt : List Value} {yt : List α} (h : TRow R k xt yt) : ∀ {xs : List Value} {ys : List α}, TRow R k xs ys → TRow R k (xs ++ xt) (ys ++ yt)
  | _, _, .nil => h
  | _, _, .cons h1 h2 h3 => by rw [List.append_assoc, List.cons_append]; exact .cons h1 h2 (TRow.app h h3)

/-- Four cells read as an import. -/
def ImR (w : World) (B : Nat) (z : List Value) (i : ImD) : Prop := ∃ vn, z = [sv i.from_, vn, .int .i64 i.line, .int .i64 i.col] ∧ Ss w B vn i.names
/-- Five cells read as a variable for a type. -/
def VaR (w : World) (B : Nat) (z : List Value) (v : VaD) : Prop := ∃ y, z = sv v.name :: y ∧ TyR w B y v.bound
/-- Fifteen cells read as a function. -/
def DeR (w : World) (B : Nat) (z : List Value) (d : DeD) : Prop :=
  ∃ vv xv vt xt y, z = [sv d.name, .bool d.exp, vv, sv d.param, vt] ++ (y ++ [.int .i64 d.line, .int .i64 d.col]) ∧ Sl w B 5 vv xv ∧ TRow (VaR w B) 5 xv d.vars ∧ Sl w B 4 vt xt ∧ TysR w B xt d.types ∧ NoR w B y d.body
/-- Two cells read as a module. -/
def MoR (w : World) (B : Nat) (z : List Value) (m : MoD) : Prop :=
  ∃ vi xi vd xd, z = [vi, vd] ∧ Sl w B 4 vi xi ∧ TRow (ImR w B) 4 xi m.imps ∧ Sl w B 15 vd xd ∧ TRow (DeR w B) 15 xd m.decls
section
variable {w w' : World} {B B' : Nat} {z : List Value}
theorem ImR.keep {i : ImD} (h : ImR w B z i) (hb : Below B w w') : ImR w' B z i := by
  obtain ⟨vn, e, h1⟩ := h
  exact ⟨vn, e, h1.below hb⟩
theorem ImR.more {i : ImD} (h : ImR w B z i) (hb : B ≤ B') : ImR w B' z i := by
  obtain ⟨vn, e, h1⟩ := h
  exact ⟨vn, e, h1.more hb⟩
theorem VaR.keep {i : VaD} (h : VaR w B z i) (hb : Below B w w') : VaR w' B z i := by
  obtain ⟨vn, e, h1⟩ := h
  exact ⟨vn, e, h1.keep hb⟩
theorem VaR.more {i : VaD} (h : VaR w B z i) (hb : B ≤ B') : VaR w B' z i := by
  obtain ⟨vn, e, h1⟩ := h
  exact ⟨vn, e, h1.more hb⟩
theorem DeR.keep {i : DeD} (h : DeR w B z i) (hb : Below B w w') : DeR w' B z i := by
  obtain ⟨vv, xv, vt, xt, y, e, h1, h2, h3, h4, h5⟩ := h
  exact ⟨vv, xv, vt, xt, y, e, Sl.below h1 hb, h2.imp fun _ _ h => h.keep hb, Sl.below h3 hb, h4.keep hb, h5.keep hb⟩
theorem DeR.more {i : DeD} (h : DeR w B z i) (hb : B ≤ B') : DeR w B' z i := by
  obtain ⟨vv, xv, vt, xt, y, e, h1, h2, h3, h4, h5⟩ := h
  exact ⟨vv, xv, vt, xt, y, e, Sl.more h1 hb, h2.imp fun _ _ h => h.more hb, Sl.more h3 hb, h4.more hb, h5.more hb⟩
theorem MoR.keep {i : MoD} (h : MoR w B z i) (hb : Below B w w') : MoR w' B z i := by
  obtain ⟨vi, xi, vd, xd, e, h1, h2, h3, h4⟩ := h
  exact ⟨vi, xi, vd, xd, e, Sl.below h1 hb, h2.imp fun _ _ h => h.keep hb, Sl.below h3 hb, h4.imp fun _ _ h => h.keep hb⟩
theorem MoR.more {i : MoD} (h : MoR w B z i) (hb : B ≤ B') : MoR w B' z i := by
  obtain ⟨vi, xi, vd, xd, e, h1, h2, h3, h4⟩ := h
  exact ⟨vi, xi, vd, xd, e, Sl.more h1 hb, h2.imp fun _ _ h => h.more hb, Sl.more h3 hb, h4.imp fun _ _ h => h.more hb⟩
theorem MoR.far {i : MoD} (h : MoR w B z i) (hB : B ≤ w.heap.size) (hb : Below w.heap.size w w') : MoR w' w'.heap.size z i :=
  (h.keep (hb.mono hB)).more (Nat.le_trans hB hb.size)
theorem DeR.far {i : DeD} (h : DeR w B z i) (hB : B ≤ w.heap.size) (hb : Below w.heap.size w w') : DeR w' w'.heap.size z i :=
  (h.keep (hb.mono hB)).more (Nat.le_trans hB hb.size)
theorem DeR.len {d : DeD} (h : DeR w B z d) : z.length = 15 := by
  obtain ⟨vv, xv, vt, xt, y, rfl, _, _, _, _, h5⟩ := h
  have := h5.len
  simp only [List.length_append, List.length_cons, List.length_nil]; omega
theorem VaR.len {d : VaD} (h : VaR w B z d) : z.length = 5 := by
  obtain ⟨y, rfl, h5⟩ := h
  have := h5.len
  simp only [List.length_cons]; omega
/-- A function's cells. -/
theorem DeR.parts {d : DeD} (h : DeR w B z d) :
    ∃ A1 c1 A2 c2 k s n l c A3 n3 c3 A4 n4 c4 A5 n5 c5 xv xt, z = [sv d.name, .bool d.exp, .slice A1 d.vars.length c1, sv d.param, .slice A2 d.types.length c2, .int .i64 k, .string s, .int .i64 n, .int .i64 l, .int .i64 c, .slice A3 n3 c3, .slice A4 n4 c4, .slice A5 n5 c5, .int .i64 d.line, .int .i64 d.col] ∧
      Sl w B 5 (.slice A1 d.vars.length c1) xv ∧ TRow (VaR w B) 5 xv d.vars ∧ Sl w B 4 (.slice A2 d.types.length c2) xt ∧ TysR w B xt d.types ∧ NoR w B [.int .i64 k, .string s, .int .i64 n, .int .i64 l, .int .i64 c, .slice A3 n3 c3, .slice A4 n4 c4, .slice A5 n5 c5] d.body := by
  obtain ⟨vv, xv, vt, xt, y, rfl, h1, h2, h3, h4, h5⟩ := h
  obtain ⟨A1, c1, rfl⟩ := t_sl_exact h1 (by omega) (m := d.vars.length) h2.len
  obtain ⟨A2, c2, rfl⟩ := t_sl_exact h3 (by omega) (m := d.types.length) h4.length
  obtain ⟨k, s, n, l, c, A3, n3, c3, A4, n4, c4, A5, n5, c5, rfl⟩ := h5.shape
  exact ⟨A1, c1, A2, c2, k, s, n, l, c, A3, n3, c3, A4, n4, c4, A5, n5, c5, xv, xt, rfl, h1, h2, h3, h4, h5⟩
/-- A module's cells. -/
theorem MoR.parts {m : MoD} (h : MoR w B z m) :
    ∃ A1 c1 A2 c2 xi xd, z = [.slice A1 m.imps.length c1, .slice A2 m.decls.length c2] ∧ Sl w B 4 (.slice A1 m.imps.length c1) xi ∧ TRow (ImR w B) 4 xi m.imps ∧ Sl w B 15 (.slice A2 m.decls.length c2) xd ∧ TRow (DeR w B) 15 xd m.decls := by
  obtain ⟨vi, xi, vd, xd, rfl, h1, h2, h3, h4⟩ := h
  obtain ⟨A1, c1, rfl⟩ := t_sl_exact h1 (by omega) (m := m.imps.length) h2.len
  obtain ⟨A2, c2, rfl⟩ := t_sl_exact h3 (by omega) (m := m.decls.length) h4.len
  exact ⟨A1, c1, A2, c2, xi, xd, rfl, h1, h2, h3, h4⟩
end
end Go.Proofs.YtmbppnbekkbibaaGreatDoor
end
section
/- Types and nodes with a footprint: what they are read from lies in blocks of F. -/
set_option linter.unusedVariables false
namespace Go.Proofs.YtmbppnbekkbibaaGreatDoor
open Go.RowKit

/-- The slice value v reads as the cells xs, which lie in a block of F. -/
def SlG (w : World) (F : Nat → Prop) (k : Nat) (v : Value) (xs : List Value) : Prop :=
  ∃ (A : Option Addr) (n c : Nat), v = .slice A n c ∧ xs.length = n * k ∧ n ≤ c ∧ c ≤ maxLen ∧
    (0 < n → ∃ b off, A = some ⟨b, off, none⟩ ∧ F b ∧ b < w.heap.size ∧ ∀ (j : Nat) u, xs[j]? = some u → w.cell? ⟨b, off + j, none⟩ = some u)
section
variable {w w' : World} {F G : Nat → Prop} {B k : Nat} {v : Value} {xs : List Value}
theorem SlG.turn (h : SlG w F k v xs) (t : Turn G w w') (hd : ∀ g, g < w.heap.size → F g → ¬ G g) : SlG w' F k v xs := by
  obtain ⟨A, n, c, hv, hl, hn, hc, hx⟩ := h
  refine ⟨A, n, c, hv, hl, hn, hc, fun h0 => ?_⟩
  obtain ⟨b, off, hA, hb, hs, hcell⟩ := hx h0
  refine ⟨b, off, hA, hb, t.lt hs, fun j u hu => ?_⟩
  rw [← hcell j u hu]
  have h1 := t.block hs (hd b hs hb)
  simp only [World.cell?, h1]
theorem SlG.mono (h : SlG w F k v xs) (hF : ∀ g, g < w.heap.size → F g → G g) : SlG w G k v xs := by
  obtain ⟨A, n, c, hv, hl, hn, hc, hx⟩ := h
  refine ⟨A, n, c, hv, hl, hn, hc, fun h0 => ?_⟩
  obtain ⟨b, off, hA, hb, hs, hcell⟩ := hx h0
  exact ⟨b, off, hA, hF b hs hb, hs, hcell⟩
theorem SlG.of (h : Sl w B k v xs) (hB : B ≤ w.heap.size) : SlG w (· < B) k v xs := by
  obtain ⟨A, n, c, hv, hl, hn, hc, hx⟩ := h
  refine ⟨A, n, c, hv, hl, hn, hc, fun h0 => ?_⟩
  obtain ⟨b, off, hA, hb, hcell⟩ := hx h0
  exact ⟨b, off, hA, hb, Nat.lt_of_lt_of_le hb hB, hcell⟩
theorem SlG.to (h : SlG w F k v xs) (hF : ∀ g, g < w.heap.size → F g → g < B) : Sl w B k v xs := by
  obtain ⟨A, n, c, hv, hl, hn, hc, hx⟩ := h
  refine ⟨A, n, c, hv, hl, hn, hc, fun h0 => ?_⟩
  obtain ⟨b, off, hA, hb, hs, hcell⟩ := hx h0
  exact ⟨b, off, hA, hF b hs hb, hcell⟩
theorem SlG.all (h : SlG w F k v xs) : Sl w w.heap.size k v xs := h.to fun _ hg _ => hg
theorem SlG.nil (w : World) (F : Nat → Prop) (k : Nat) : SlG w F k (.slice none 0 0) [] :=
  ⟨none, 0, 0, rfl, by simp, Nat.le_refl _, Nat.zero_le _, fun h => absurd h (by omega)⟩
/-- What is a row of one's own, in a block of F. -/
theorem SlG.own {base : Nat} {e : TypeId} {n : Nat} (h : w.ownsRow base e k v n xs) (hF : ∀ g, v.ownBlock = some g → F g) : SlG w F k v xs := by
  have h1 := Sl.of_own h
  obtain ⟨A, n', c, hv, hl, hn, hc, hx⟩ := h1
  refine ⟨A, n', c, hv, hl, hn, hc, fun h0 => ?_⟩
  obtain ⟨b, off, hA, hb, hcell⟩ := hx h0
  exact ⟨b, off, hA, hF b (by subst hv hA; rfl), hb, hcell⟩
theorem SlG.below (h : SlG w F k v xs) (hb : Below w.heap.size w w') : SlG w' F k v xs := h.turn (Turn.of_below (F := fun _ => False) hb) fun _ _ _ h => h
end
mutual
/-- Four cells read as a type, from blocks of F. -/
inductive TyG (w : World) (F : Nat → Prop) : List Value → TyD → Prop
  | mk {k : Int} {nm : Bt} {vn vk : Value} {ns : List Bt} {ks : List TyD} {xk : List Value} : SlG w F 1 vn (svs ns) → SlG w F 4 vk xk → TysG w F xk ks → TyG w F [.int .i64 k, sv nm, vn, vk] (.mk k nm ns ks)
inductive TysG (w : World) (F : Nat → Prop) : List Value → List TyD → Prop
  | nil : TysG w F [] []
  | cons {x y : List Value} {c : TyD} {l : List TyD} : TyG w F x c → TysG w F y l → TysG w F (x ++ y) (c :: l)
end
mutual
/-- Eight cells read as a node, from blocks of F. -/
inductive NoG (w : World) (F : Nat → Prop) : List Value → NoD → Prop
  | mk {k n line col : Int} {text : Bt} {vt vn vk : Value} {ts : List TyD} {xt : List Value} {ns : List Bt} {ks : List NoD} {xk : List Value} : SlG w F 4 vt xt → TysG w F xt ts → SlG w F 1 vn (svs ns) → SlG w F 8 vk xk → NosG w F xk ks →
      NoG w F [.int .i64 k, sv text, .int .i64 n, .int .i64 line, .int .i64 col, vt, vn, vk] (.mk k text n line col ts ns ks)
inductive NosG (w : World) (F : Nat → Prop) : List Value → List NoD → Prop
  | nil : NosG w F [] []
  | cons {x y : List Value} {c : NoD} {l : List NoD} : NoG w F x c → NosG w F y l → NosG w F (x ++ y) (c :: l)
end
section
variable {w w' : World} {F G : Nat → Prop} {B : Nat}
mutual
theorem TyG.turn {x : List Value} {c : TyD} (h : TyG w F x c) (t : Turn G w w') (hd : ∀ g, g < w.heap.size → F g → ¬ G g) : TyG w' F x c :=
  match h with
  | .mk h1 h2 h3 => .mk (h1.turn t hd) (h2.turn t hd) (h3.turn t hd)
theorem TysG.turn {x : List Value} {l : List TyD} (h : TysG w F x l) (t : Turn G w w') (hd : ∀ g, g < w.heap.size → F g → ¬ G g) : TysG w' F x l :=
  match h with
  | .nil => .nil
  | .cons h1 h2 => .cons (h1.turn t hd) (h2.turn t hd)
end
mutual
theorem TyG.mono {x : List Value} {c : TyD} (h : TyG w F x c) (hF : ∀ g, g < w.heap.size → F g → G g) : TyG w G x c :=
  match h with
  | .mk h1 h2 h3 => .mk (h1.mono hF) (h2.mono hF) (h3.mono hF)
theorem TysG.mono {x : List Value} {l : List TyD} (h : TysG w F x l) (hF : ∀ g, g < w.heap.size → F g → G g) : TysG w G x l :=
  match h with
  | .nil => .nil
  | .cons h1 h2 => .cons (h1.mono hF) (h2.mono hF)
end
mutual
theorem TyG.of {x : List Value} {c : TyD} (h : TyR w B x c) (hB : B ≤ w.heap.size) : TyG w (· < B) x c :=
  match h with
  | .mk h1 h2 h3 => .mk (SlG.of h1 hB) (SlG.of h2 hB) (TysG.of h3 hB)
theorem TysG.of {x : List Value} {l : List TyD} (h : TysR w B x l) (hB : B ≤ w.heap.size) : TysG w (· < B) x l :=
  match h with
  | .nil => .nil
  | .cons h1 h2 => .cons (TyG.of h1 hB) (TysG.of h2 hB)
end
mutual
theorem TyG.to {x : List Value} {c : TyD} (h : TyG w F x c) (hF : ∀ g, g < w.heap.size → F g → g < B) : TyR w B x c :=
  match h with
  | .mk h1 h2 h3 => .mk (h1.to hF) (h2.to hF) (h3.to hF)
theorem TysG.to {x : List Value} {l : List TyD} (h : TysG w F x l) (hF : ∀ g, g < w.heap.size → F g → g < B) : TysR w B x l :=
  match h with
  | .nil => .nil
  | .cons h1 h2 => .cons (h1.to hF) (h2.to hF)
end
mutual
theorem NoG.turn {x : List Value} {c : NoD} (h : NoG w F x c) (t : Turn G w w') (hd : ∀ g, g < w.heap.size → F g → ¬ G g) : NoG w' F x c :=
  match h with
  | .mk h1 h2 h3 h4 h5 => .mk (h1.turn t hd) (h2.turn t hd) (h3.turn t hd) (h4.turn t hd) (h5.turn t hd)
theorem NosG.turn {x : List Value} {l : List NoD} (h : NosG w F x l) (t : Turn G w w') (hd : ∀ g, g < w.heap.size → F g → ¬ G g) : NosG w' F x l :=
  match h with
  | .nil => .nil
  | .cons h1 h2 => .cons (h1.turn t hd) (h2.turn t hd)
end
mutual
theorem NoG.mono {x : List Value} {c : NoD} (h : NoG w F x c) (hF : ∀ g, g < w.heap.size → F g → G g) : NoG w G x c :=
  match h with
  | .mk h1 h2 h3 h4 h5 => .mk (h1.mono hF) (h2.mono hF) (h3.mono hF) (h4.mono hF) (h5.mono hF)
theorem NosG.mono {x : List Value} {l : List NoD} (h : NosG w F x l) (hF : ∀ g, g < w.heap.size → F g → G g) : NosG w G x l :=
  match h with
  | .nil => .nil
  | .cons h1 h2 => .cons (h1.mono hF) (h2.mono hF)
end
mutual
theorem NoG.of {x : List Value} {c : NoD} (h : NoR w B x c) (hB : B ≤ w.heap.size) : NoG w (· < B) x c :=
  match h with
  | .mk h1 h2 h3 h4 h5 => .mk (SlG.of h1 hB) (TysG.of h2 hB) (SlG.of h3 hB) (SlG.of h4 hB) (NosG.of h5 hB)
theorem NosG.of {x : List Value} {l : List NoD} (h : NosR w B x l) (hB : B ≤ w.heap.size) : NosG w (· < B) x l :=
  match h with
  | .nil => .nil
  | .cons h1 h2 => .cons (NoG.of h1 hB) (NosG.of h2 hB)
end
mutual
theorem NoG.to {x : List Value} {c : NoD} (h : NoG w F x c) (hF : ∀ g, g < w.heap.size → F g → g < B) : NoR w B x c :=
  match h with
  | .mk h1 h2 h3 h4 h5 => .mk (h1.to hF) (h2.to hF) (h3.to hF) (h4.to hF) (h5.to hF)
theorem NosG.to {x : List Value} {l : List NoD} (h : NosG w F x l) (hF : ∀ g, g < w.heap.size → F g → g < B) : NosR w B x l :=
  match h with
  | .nil => .nil
  | .cons h1 h2 => .cons (h1.to hF) (h2.to hF)
end
theorem TyG.all {x : List Value} {c : TyD} (h : TyG w F x c) : TyR w w.heap.size x c := h.to fun _ hg _ => hg
theorem TysG.all {x : List Value} {c : List TyD} (h : TysG w F x c) : TysR w w.heap.size x c := h.to fun _ hg _ => hg
theorem NoG.all {x : List Value} {c : NoD} (h : NoG w F x c) : NoR w w.heap.size x c := h.to fun _ hg _ => hg
theorem NosG.all {x : List Value} {c : List NoD} (h : NosG w F x c) : NosR w w.heap.size x c := h.to fun _ hg _ => hg
theorem TyG.bel {x : List Value} {c : TyD} (h : TyG w F x c) (hb : Below w.heap.size w w') : TyG w' F x c := h.turn (Turn.of_below (F := fun _ => False) hb) fun _ _ _ h => h
theorem TysG.bel {x : List Value} {c : List TyD} (h : TysG w F x c) (hb : Below w.heap.size w w') : TysG w' F x c := h.turn (Turn.of_below (F := fun _ => False) hb) fun _ _ _ h => h
theorem NoG.bel {x : List Value} {c : NoD} (h : NoG w F x c) (hb : Below w.heap.size w w') : NoG w' F x c := h.turn (Turn.of_below (F := fun _ => False) hb) fun _ _ _ h => h
theorem NosG.bel {x : List Value} {c : List NoD} (h : NosG w F x c) (hb : Below w.heap.size w w') : NosG w' F x c := h.turn (Turn.of_below (F := fun _ => False) hb) fun _ _ _ h => h
theorem NosG.at : ∀ {x : List Value} {l : List NoD}, NosG w F x l → ∀ (i : Nat) (hi : i < l.length), NoG w F ((x.drop (i * 8)).take 8) l[i]
  | _, _, .nil, i, hi => by simp at hi
  | _, _, .cons (x := x) (y := y) h1 h2, i, hi => by
    have h5 := h1.all.len
    rcases i with _ | i
    · rw [Nat.zero_mul, List.drop_zero, ← h5, List.take_left]; exact h1
    · have : (x ++ y).drop ((i + 1) * 8) = y.drop (i * 8) := by
        rw [show (i + 1) * 8 = x.length + i * 8 by omega, ← List.drop_drop, List.drop_left]
      rw [this]
      exact NosG.at h2 i (by simpa using hi)
end
end Go.Proofs.YtmbppnbekkbibaaGreatDoor
end
section
/- The contracts of library functions that this seat reaches, each an application of a theorem of the library at this translation. -/
namespace Go.Proofs
open Go.Shelf
def Tryz.lays137_ren : Go.Shelf.Ren := ⟨fun | 137 => 150 | 217 => 174 | 266 => 192 | n => n, fun | 9 => 9 | 5 => 5 | 3 => 3 | n => n, fun | n => n⟩
theorem Tryz.lays137 : Go.Proofs.Lays.n137 Tryz.prog Tryz.lays137_ren := {
  mixed := by kernel_rfl
  f137 := Tryz.func150.trans (congrArg some (by kernel_rfl))
  f217 := Tryz.func174.trans (congrArg some (by kernel_rfl))
  f266 := Tryz.func192.trans (congrArg some (by kernel_rfl))
  t3 := Tryz.underlying3
  a3 := Tryz.isAgg3
  z3 := Tryz.sizeOf3
  v3 := Tryz.zeroValue3
  t5 := Tryz.underlying5
  a5 := Tryz.isAgg5
  z5 := Tryz.sizeOf5
  v5 := Tryz.zeroValue5
  t9 := Tryz.underlying9
  a9 := Tryz.isAgg9
  z9 := Tryz.sizeOf9
  v9 := Tryz.zeroValue9 }
open Go.RowKit in
theorem Tryz.strings_IndexByte (s : ByteArray) (c : Int) (w : World) :
    Calls Tryz.prog 150 #[.string s, .int .u8 c] w fun e w' => e = .returned (.int .i64 (Lib.indexByte s.data.toList c.toNat.toUInt8)) ∧ w' = w := Any.strings_IndexByte Tryz.lays137 s c w
def Tryz.laysM171_ren : Go.Shelf.Ren := ⟨fun | 171 => 182 | 243 => 197 | 246 => 212 | 283 => 225 | 284 => 226 | 285 => 227 | 286 => 228 | 129 => 238 | 317 => 237 | 318 => 239 | 319 => 240 | 320 => 241 | 337 => 248 | 338 => 249 | n => n, fun | 3 => 3 | 9 => 9 | 2 => 2 | 4 => 4 | 171 => 276 | 0 => 0 | 53 => 219 | 37 => 163 | 5 => 5 | 173 => 279 | 212 => 303 | 51 => 227 | 20 => 20 | 213 => 304 | 46 => 272 | 232 => 333 | 233 => 334 | n => n, fun | 17 => 5 | 18 => 6 | 19 => 7 | n => n⟩
theorem Tryz.laysM171 : Go.Proofs.LaysM.n171 Tryz.prog Tryz.laysM171_ren := {
  mixed := by kernel_rfl
  f129 := Tryz.func238.trans (congrArg some (by kernel_rfl))
  f171 := Tryz.func182.trans (congrArg some (by kernel_rfl))
  f243 := Tryz.func197.trans (congrArg some (by kernel_rfl))
  f246 := Tryz.func212.trans (congrArg some (by kernel_rfl))
  f283 := Tryz.func225.trans (congrArg some (by kernel_rfl))
  f284 := Tryz.func226.trans (congrArg some (by kernel_rfl))
  f285 := Tryz.func227.trans (congrArg some (by kernel_rfl))
  f286 := Tryz.func228.trans (congrArg some (by kernel_rfl))
  f317 := Tryz.func237.trans (congrArg some (by kernel_rfl))
  f318 := Tryz.func239.trans (congrArg some (by kernel_rfl))
  f319 := Tryz.func240.trans (congrArg some (by kernel_rfl))
  f320 := Tryz.func241.trans (congrArg some (by kernel_rfl))
  f337 := Tryz.func248.trans (congrArg some (by kernel_rfl))
  f338 := Tryz.func249.trans (congrArg some (by kernel_rfl))
  t0 := Tryz.underlying0
  a0 := Tryz.isAgg0
  z0 := Tryz.sizeOf0
  v0 := Tryz.zeroValue0
  t2 := Tryz.underlying2
  a2 := Tryz.isAgg2
  z2 := Tryz.sizeOf2
  v2 := Tryz.zeroValue2
  t3 := Tryz.underlying3
  a3 := Tryz.isAgg3
  z3 := Tryz.sizeOf3
  v3 := Tryz.zeroValue3
  t4 := Tryz.underlying4
  a4 := Tryz.isAgg4
  z4 := Tryz.sizeOf4
  v4 := Tryz.zeroValue4
  t5 := Tryz.underlying5
  a5 := Tryz.isAgg5
  z5 := Tryz.sizeOf5
  v5 := Tryz.zeroValue5
  t9 := Tryz.underlying9
  a9 := Tryz.isAgg9
  z9 := Tryz.sizeOf9
  v9 := Tryz.zeroValue9
  t20 := Tryz.underlying20
  a20 := Tryz.isAgg20
  z20 := Tryz.sizeOf20
  v20 := Tryz.zeroValue20
  t37 := Tryz.underlying163
  a37 := Tryz.isAgg163
  z37 := Tryz.sizeOf163
  v37 := Tryz.zeroValue163
  t46 := Tryz.underlying272
  a46 := Tryz.isAgg272
  z46 := Tryz.sizeOf272
  v46 := Tryz.zeroValue272
  t51 := Tryz.underlying227
  a51 := Tryz.isAgg227
  z51 := Tryz.sizeOf227
  v51 := Tryz.zeroValue227
  t53 := Tryz.underlying219
  a53 := Tryz.isAgg219
  z53 := Tryz.sizeOf219
  v53 := Tryz.zeroValue219
  t171 := Tryz.underlying276
  a171 := Tryz.isAgg276
  z171 := Tryz.sizeOf276
  v171 := Tryz.zeroValue276
  t173 := Tryz.underlying279
  a173 := Tryz.isAgg279
  z173 := Tryz.sizeOf279
  v173 := Tryz.zeroValue279
  t212 := Tryz.underlying303
  a212 := Tryz.isAgg303
  z212 := Tryz.sizeOf303
  v212 := Tryz.zeroValue303
  t213 := Tryz.underlying304
  a213 := Tryz.isAgg304
  z213 := Tryz.sizeOf304
  t232 := Tryz.underlying333
  a232 := Tryz.isAgg333
  z232 := Tryz.sizeOf333
  v232 := Tryz.zeroValue333
  t233 := Tryz.underlying334
  a233 := Tryz.isAgg334
  z233 := Tryz.sizeOf334
  v233 := Tryz.zeroValue334
  g17 := by kernel_rfl
  g18 := by kernel_rfl
  g19 := by kernel_rfl
  i0 := by kernel_rfl
  i2 := by kernel_rfl
  i3 := by kernel_rfl
  i4 := by kernel_rfl
  i5 := by kernel_rfl
  i9 := by kernel_rfl
  i20 := by kernel_rfl
  i37 := by kernel_rfl
  i46 := by kernel_rfl
  i51 := by kernel_rfl
  i53 := by kernel_rfl
  i171 := by kernel_rfl
  i173 := by kernel_rfl
  i212 := by kernel_rfl
  i232 := by kernel_rfl
  i233 := by kernel_rfl
  m17 := by kernel_rfl
  m18 := by kernel_rfl
  m19 := by kernel_rfl }
open Go.RowKit Go.Sort Go.Lib in
theorem Tryz.strconv_Itoa (n : Int) (h0 : -9223372036854775808 ≤ n) (h1 : n ≤ 9223372036854775807) (w : World) (htab : Lib.TabIs Tryz.prog w "internal/strconv.uint64pow10" .u64 Lib.pow10Tab) :
    Calls Tryz.prog 182 #[.int .i64 n] w fun e w' => e = .returned (.string ⟨(Lib.itoa n).toArray⟩) ∧ ∃ k os, w' = grow (w.drewN k) os := Any.strconv_Itoa Tryz.laysM171 n h0 h1 w htab
def Tryz.laysC172_ren : Go.Shelf.Ren := ⟨fun | 172 => 173 | 244 => 190 | 245 => 191 | 247 => 204 | 279 => 205 | 280 => 206 | 281 => 207 | 282 => 208 | 287 => 222 | 316 => 223 | 171 => 182 | 205 => 224 | 321 => 235 | 322 => 236 | 243 => 197 | 246 => 212 | 283 => 225 | 284 => 226 | 285 => 227 | 286 => 228 | 129 => 238 | 317 => 237 | 318 => 239 | 319 => 240 | 320 => 241 | 337 => 248 | 338 => 249 | n => n, fun | 9 => 9 | 3 => 3 | 75 => 205 | 76 => 206 | 4 => 4 | 5 => 5 | 167 => 246 | 37 => 163 | 0 => 0 | 85 => 247 | 2 => 2 | 168 => 249 | 53 => 219 | 175 => 270 | 46 => 272 | 210 => 274 | 127 => 222 | 145 => 300 | 143 => 298 | 21 => 21 | 171 => 276 | 173 => 279 | 212 => 303 | 51 => 227 | 20 => 20 | 213 => 304 | 232 => 333 | 233 => 334 | 80 => 147 | n => n, fun | 15 => 3 | 16 => 4 | 17 => 5 | 18 => 6 | 19 => 7 | n => n⟩
theorem Tryz.laysC172 : Go.Proofs.LaysC.n172 Tryz.prog Tryz.laysC172_ren := {
  mixed := by kernel_rfl
  f129 := Tryz.func238.trans (congrArg some (by kernel_rfl))
  f171 := Tryz.func182.trans (congrArg some (by kernel_rfl))
  f172 := Tryz.func173.trans (congrArg some (by kernel_rfl))
  f205 := Tryz.func224.trans (congrArg some (by kernel_rfl))
  f243 := Tryz.func197.trans (congrArg some (by kernel_rfl))
  f244 := Tryz.func190.trans (congrArg some (by kernel_rfl))
  f245 := Tryz.func191.trans (congrArg some (by kernel_rfl))
  f246 := Tryz.func212.trans (congrArg some (by kernel_rfl))
  f247 := Tryz.func204.trans (congrArg some (by kernel_rfl))
  f279 := Tryz.func205.trans (congrArg some (by kernel_rfl))
  f280 := Tryz.func206.trans (congrArg some (by kernel_rfl))
  f281 := Tryz.func207.trans (congrArg some (by kernel_rfl))
  f282 := Tryz.func208.trans (congrArg some (by kernel_rfl))
  f283 := Tryz.func225.trans (congrArg some (by kernel_rfl))
  f284 := Tryz.func226.trans (congrArg some (by kernel_rfl))
  f285 := Tryz.func227.trans (congrArg some (by kernel_rfl))
  f286 := Tryz.func228.trans (congrArg some (by kernel_rfl))
  f287 := Tryz.func222.trans (congrArg some (by kernel_rfl))
  f316 := Tryz.func223.trans (congrArg some (by kernel_rfl))
  f317 := Tryz.func237.trans (congrArg some (by kernel_rfl))
  f318 := Tryz.func239.trans (congrArg some (by kernel_rfl))
  f319 := Tryz.func240.trans (congrArg some (by kernel_rfl))
  f320 := Tryz.func241.trans (congrArg some (by kernel_rfl))
  f321 := Tryz.func235.trans (congrArg some (by kernel_rfl))
  f322 := Tryz.func236.trans (congrArg some (by kernel_rfl))
  f337 := Tryz.func248.trans (congrArg some (by kernel_rfl))
  f338 := Tryz.func249.trans (congrArg some (by kernel_rfl))
  t0 := Tryz.underlying0
  a0 := Tryz.isAgg0
  z0 := Tryz.sizeOf0
  v0 := Tryz.zeroValue0
  t2 := Tryz.underlying2
  a2 := Tryz.isAgg2
  z2 := Tryz.sizeOf2
  v2 := Tryz.zeroValue2
  t3 := Tryz.underlying3
  a3 := Tryz.isAgg3
  z3 := Tryz.sizeOf3
  v3 := Tryz.zeroValue3
  t4 := Tryz.underlying4
  a4 := Tryz.isAgg4
  z4 := Tryz.sizeOf4
  v4 := Tryz.zeroValue4
  t5 := Tryz.underlying5
  a5 := Tryz.isAgg5
  z5 := Tryz.sizeOf5
  v5 := Tryz.zeroValue5
  t9 := Tryz.underlying9
  a9 := Tryz.isAgg9
  z9 := Tryz.sizeOf9
  v9 := Tryz.zeroValue9
  t20 := Tryz.underlying20
  a20 := Tryz.isAgg20
  z20 := Tryz.sizeOf20
  v20 := Tryz.zeroValue20
  t21 := Tryz.underlying21
  a21 := Tryz.isAgg21
  z21 := Tryz.sizeOf21
  v21 := Tryz.zeroValue21
  t37 := Tryz.underlying163
  a37 := Tryz.isAgg163
  z37 := Tryz.sizeOf163
  v37 := Tryz.zeroValue163
  t46 := Tryz.underlying272
  a46 := Tryz.isAgg272
  z46 := Tryz.sizeOf272
  v46 := Tryz.zeroValue272
  t51 := Tryz.underlying227
  a51 := Tryz.isAgg227
  z51 := Tryz.sizeOf227
  v51 := Tryz.zeroValue227
  t53 := Tryz.underlying219
  a53 := Tryz.isAgg219
  z53 := Tryz.sizeOf219
  v53 := Tryz.zeroValue219
  t75 := Tryz.underlying205
  a75 := Tryz.isAgg205
  z75 := Tryz.sizeOf205
  v75 := Tryz.zeroValue205
  t76 := Tryz.underlying206
  a76 := Tryz.isAgg206
  z76 := Tryz.sizeOf206
  v76 := Tryz.zeroValue206
  t85 := Tryz.underlying247
  a85 := Tryz.isAgg247
  z85 := Tryz.sizeOf247
  v85 := Tryz.zeroValue247
  t127 := Tryz.underlying222
  a127 := Tryz.isAgg222
  z127 := Tryz.sizeOf222
  v127 := Tryz.zeroValue222
  t143 := Tryz.underlying298
  a143 := Tryz.isAgg298
  z143 := Tryz.sizeOf298
  v143 := Tryz.zeroValue298
  t145 := Tryz.underlying300
  a145 := Tryz.isAgg300
  z145 := Tryz.sizeOf300
  v145 := Tryz.zeroValue300
  t167 := Tryz.underlying246
  a167 := Tryz.isAgg246
  z167 := Tryz.sizeOf246
  v167 := Tryz.zeroValue246
  t168 := Tryz.underlying249
  a168 := Tryz.isAgg249
  z168 := Tryz.sizeOf249
  v168 := Tryz.zeroValue249
  t171 := Tryz.underlying276
  a171 := Tryz.isAgg276
  z171 := Tryz.sizeOf276
  v171 := Tryz.zeroValue276
  t173 := Tryz.underlying279
  a173 := Tryz.isAgg279
  z173 := Tryz.sizeOf279
  v173 := Tryz.zeroValue279
  t175 := Tryz.underlying270
  a175 := Tryz.isAgg270
  z175 := Tryz.sizeOf270
  v175 := Tryz.zeroValue270
  t210 := Tryz.underlying274
  a210 := Tryz.isAgg274
  z210 := Tryz.sizeOf274
  v210 := Tryz.zeroValue274
  t212 := Tryz.underlying303
  a212 := Tryz.isAgg303
  z212 := Tryz.sizeOf303
  v212 := Tryz.zeroValue303
  t213 := Tryz.underlying304
  a213 := Tryz.isAgg304
  z213 := Tryz.sizeOf304
  t232 := Tryz.underlying333
  a232 := Tryz.isAgg333
  z232 := Tryz.sizeOf333
  v232 := Tryz.zeroValue333
  t233 := Tryz.underlying334
  a233 := Tryz.isAgg334
  z233 := Tryz.sizeOf334
  v233 := Tryz.zeroValue334
  g15 := by kernel_rfl
  g16 := by kernel_rfl
  g17 := by kernel_rfl
  g18 := by kernel_rfl
  g19 := by kernel_rfl
  t80 := Tryz.underlying147
  a80 := Tryz.isAgg147
  z80 := Tryz.sizeOf147
  v80 := Tryz.zeroValue147
  i0 := by kernel_rfl
  i2 := by kernel_rfl
  i3 := by kernel_rfl
  i4 := by kernel_rfl
  i5 := by kernel_rfl
  i9 := by kernel_rfl
  i20 := by kernel_rfl
  i21 := by kernel_rfl
  i37 := by kernel_rfl
  i46 := by kernel_rfl
  i51 := by kernel_rfl
  i53 := by kernel_rfl
  i75 := by kernel_rfl
  i76 := by kernel_rfl
  i80 := by kernel_rfl
  i85 := by kernel_rfl
  i127 := by kernel_rfl
  i143 := by kernel_rfl
  i145 := by kernel_rfl
  i167 := by kernel_rfl
  i168 := by kernel_rfl
  i171 := by kernel_rfl
  i173 := by kernel_rfl
  i175 := by kernel_rfl
  i210 := by kernel_rfl
  i212 := by kernel_rfl
  i232 := by kernel_rfl
  i233 := by kernel_rfl
  m15 := by kernel_rfl
  m16 := by kernel_rfl
  m17 := by kernel_rfl
  m18 := by kernel_rfl
  m19 := by kernel_rfl
  c0 := by kernel_rfl
  c2 := by kernel_rfl
  c3 := by kernel_rfl
  c4 := by kernel_rfl
  c5 := by kernel_rfl
  c9 := by kernel_rfl
  c20 := by kernel_rfl
  c21 := by kernel_rfl
  c37 := by kernel_rfl
  c46 := by kernel_rfl
  c51 := by kernel_rfl
  c53 := by kernel_rfl
  c75 := by kernel_rfl
  c76 := by kernel_rfl
  c80 := by kernel_rfl
  c85 := by kernel_rfl
  c127 := by kernel_rfl
  c143 := by kernel_rfl
  c145 := by kernel_rfl
  c167 := by kernel_rfl
  c168 := by kernel_rfl
  c171 := by kernel_rfl
  c173 := by kernel_rfl
  c175 := by kernel_rfl
  c210 := by kernel_rfl
  c212 := by kernel_rfl
  c213 := by kernel_rfl
  c232 := by kernel_rfl
  c233 := by kernel_rfl }
open Go.RowKit in
theorem Tryz.strconv_Atoi_ok (s : ByteArray) (hmax : s.size ≤ 9223372036854775806) (v : Int) (h : Lib.atoiAll s.data.toList = .ok v) (w : World) :
    Calls Tryz.prog 173 #[.string s] w fun e w' => e = .returned (.tuple #[.int .i64 v, .nilIface]) ∧ (w' = w ∨ ∃ t, w' = Lib.bytesWorld w 5 t) := Any.strconv_Atoi_ok Tryz.laysC172 s hmax v h w
open Go.RowKit in
theorem Tryz.strconv_Atoi_syntax_var (s : ByteArray) (hlim : s.size ≤ 281474976710656) (h : Lib.atoiAll s.data.toList = Lib.NumEnd.syntax) (tp : TypeId) (p : Value) (w : World) (hvar : w.var? Tryz.prog "strconv.ErrSyntax" = some #[.iface tp p]) :
    Calls Tryz.prog 173 #[.string s] w fun e w' => ∃ N, e = .returned (.tuple #[.int .i64 0, .iface 249 (.pointer (some ⟨N, 0, none⟩))]) ∧ w.heap.size ≤ N ∧ w'.heap[N]? = some (.cells #[.string ⟨#[65, 116, 111, 105]⟩, .string s, .iface tp p] 274 (0, 0)) ∧ Below w.heap.size w w' := Any.strconv_Atoi_syntax_var Tryz.laysC172 s hlim h tp p w hvar
open Go.RowKit in
theorem Tryz.strconv_Atoi_range_var (s : ByteArray) (hlim : s.size ≤ 281474976710656) (h : Lib.atoiAll s.data.toList = .range) (tp : TypeId) (p : Value) (w : World) (hvar : w.var? Tryz.prog "strconv.ErrRange" = some #[.iface tp p]) :
    Calls Tryz.prog 173 #[.string s] w fun e w' => ∃ N, e = .returned (.tuple #[.int .i64 (Lib.atoiSat s.data.toList), .iface 249 (.pointer (some ⟨N, 0, none⟩))]) ∧ w.heap.size ≤ N ∧ w'.heap[N]? = some (.cells #[.string ⟨#[65, 116, 111, 105]⟩, .string s, .iface tp p] 274 (0, 0)) ∧ Below w.heap.size w w' := Any.strconv_Atoi_range_var Tryz.laysC172 s hlim h tp p w hvar
def Tryz.lays157_ren : Go.Shelf.Ren := ⟨fun | 157 => 164 | 229 => 186 | 199 => 187 | 261 => 200 | 311 => 216 | 312 => 217 | n => n, fun | 9 => 9 | 31 => 25 | 3 => 3 | 5 => 5 | 4 => 4 | 119 => 217 | 0 => 0 | 40 => 209 | 152 => 240 | 21 => 21 | 154 => 242 | 51 => 227 | 141 => 244 | 196 => 262 | 193 => 259 | 198 => 265 | 49 => 263 | 194 => 260 | 201 => 268 | 226 => 295 | 46 => 272 | 227 => 296 | n => n, fun | 0 => 0 | 6 => 1 | n => n⟩
theorem Tryz.lays157 : Go.Proofs.Lays.n157 Tryz.prog Tryz.lays157_ren := {
  mixed := by kernel_rfl
  f157 := Tryz.func164.trans (congrArg some (by kernel_rfl))
  f199 := Tryz.func187.trans (congrArg some (by kernel_rfl))
  f229 := Tryz.func186.trans (congrArg some (by kernel_rfl))
  f261 := Tryz.func200.trans (congrArg some (by kernel_rfl))
  f311 := Tryz.func216.trans (congrArg some (by kernel_rfl))
  f312 := Tryz.func217.trans (congrArg some (by kernel_rfl))
  t0 := Tryz.underlying0
  a0 := Tryz.isAgg0
  z0 := Tryz.sizeOf0
  v0 := Tryz.zeroValue0
  t3 := Tryz.underlying3
  a3 := Tryz.isAgg3
  z3 := Tryz.sizeOf3
  v3 := Tryz.zeroValue3
  t4 := Tryz.underlying4
  a4 := Tryz.isAgg4
  z4 := Tryz.sizeOf4
  v4 := Tryz.zeroValue4
  t5 := Tryz.underlying5
  a5 := Tryz.isAgg5
  z5 := Tryz.sizeOf5
  v5 := Tryz.zeroValue5
  t9 := Tryz.underlying9
  a9 := Tryz.isAgg9
  z9 := Tryz.sizeOf9
  v9 := Tryz.zeroValue9
  t21 := Tryz.underlying21
  a21 := Tryz.isAgg21
  z21 := Tryz.sizeOf21
  v21 := Tryz.zeroValue21
  t31 := Tryz.underlying25
  a31 := Tryz.isAgg25
  z31 := Tryz.sizeOf25
  v31 := Tryz.zeroValue25
  t40 := Tryz.underlying209
  a40 := Tryz.isAgg209
  z40 := Tryz.sizeOf209
  v40 := Tryz.zeroValue209
  t46 := Tryz.underlying272
  a46 := Tryz.isAgg272
  z46 := Tryz.sizeOf272
  v46 := Tryz.zeroValue272
  t49 := Tryz.underlying263
  a49 := Tryz.isAgg263
  z49 := Tryz.sizeOf263
  v49 := Tryz.zeroValue263
  t51 := Tryz.underlying227
  a51 := Tryz.isAgg227
  z51 := Tryz.sizeOf227
  v51 := Tryz.zeroValue227
  t119 := Tryz.underlying217
  a119 := Tryz.isAgg217
  z119 := Tryz.sizeOf217
  t141 := Tryz.underlying244
  a141 := Tryz.isAgg244
  z141 := Tryz.sizeOf244
  v141 := Tryz.zeroValue244
  t152 := Tryz.underlying240
  a152 := Tryz.isAgg240
  z152 := Tryz.sizeOf240
  v152 := Tryz.zeroValue240
  t154 := Tryz.underlying242
  a154 := Tryz.isAgg242
  z154 := Tryz.sizeOf242
  v154 := Tryz.zeroValue242
  t193 := Tryz.underlying259
  a193 := Tryz.isAgg259
  z193 := Tryz.sizeOf259
  v193 := Tryz.zeroValue259
  t194 := Tryz.underlying260
  a194 := Tryz.isAgg260
  z194 := Tryz.sizeOf260
  v194 := Tryz.zeroValue260
  t196 := Tryz.underlying262
  a196 := Tryz.isAgg262
  z196 := Tryz.sizeOf262
  v196 := Tryz.zeroValue262
  t198 := Tryz.underlying265
  a198 := Tryz.isAgg265
  z198 := Tryz.sizeOf265
  v198 := Tryz.zeroValue265
  t201 := Tryz.underlying268
  a201 := Tryz.isAgg268
  z201 := Tryz.sizeOf268
  v201 := Tryz.zeroValue268
  t226 := Tryz.underlying295
  a226 := Tryz.isAgg295
  z226 := Tryz.sizeOf295
  v226 := Tryz.zeroValue295
  t227 := Tryz.underlying296
  a227 := Tryz.isAgg296
  z227 := Tryz.sizeOf296
  v227 := Tryz.zeroValue296
  g0 := by kernel_rfl
  g6 := by kernel_rfl }
open Go.RowKit Go.Lib in
theorem Tryz.strings_Fields (s : ByteArray) (w : World) (hs : s.size < 4294967281) (hascii : ∀ (j : Nat) b, s.data.toList[j]? = some b → b.toNat < 128) (htab : Lib.TabIs Tryz.prog w "strings.asciiSpace" .u8 Lib.asciiSpaceTab) :
    Calls Tryz.prog 164 #[.string s] w fun e w' =>
      e = .returned (.slice (some ⟨w.heap.size, 0, none⟩) (Lib.fields s.data.toList).length (Lib.fields s.data.toList).length) ∧ w' = w.alloc (.cells ((Lib.fields s.data.toList).map fun l => Value.string ⟨l.toArray⟩).toArray 9) := Any.strings_Fields Tryz.lays157 (by kernel_rfl) (by kernel_rfl) s w hs hascii htab
end Go.Proofs
end
section
/- The contracts of word's Show and Parse. -/
set_option linter.unusedVariables false
namespace Go.Proofs.YtmbppnbekkbibaaGreatDoor
open Go.RowKit

theorem below_grow (w : World) (k : Nat) (os : Array Obj) : Below w.heap.size w (Sort.grow (w.drewN k) os) :=
  ⟨rfl, rfl, rfl, by simp [Sort.grow], fun i hi => by simp only [Sort.grow, World.heap_drewN]; rw [Array.getElem?_append, if_pos hi]⟩

/-- The bytes of a text, by either name. -/
theorem blist (s : ByteArray) : s.toList = s.data.toList := ByteArray.toList_eq s

/-- What the listed variables of the library hold. -/
structure LaidW (w : World) : Prop where
  tab : Lib.TabIs Tryz.prog w "internal/strconv.uint64pow10" .u64 Lib.pow10Tab
  syn : ∃ tp p, w.var? Tryz.prog "strconv.ErrSyntax" = some #[.iface tp p]
  rng : ∃ tp p, w.var? Tryz.prog "strconv.ErrRange" = some #[.iface tp p]
theorem var_below {w w' : World} {name : String} {cs : Array Value} (h : w.var? Tryz.prog name = some cs) (hb : Below w.heap.size w w') : w'.var? Tryz.prog name = some cs := by
  unfold World.var? at h ⊢
  cases hg : Tryz.prog.globalNamed name with
  | none => rw [hg] at h; cases h
  | some g =>
    rw [hg] at h
    simp only [Option.bind_some] at h ⊢
    by_cases hlt : g < w.heap.size
    · rw [hb.block g hlt]; exact h
    · rw [Array.getElem?_eq_none (by omega)] at h; cases h
theorem LaidW.below {w w' : World} (h : LaidW w) (hb : Below w.heap.size w w') : LaidW w' := by
  obtain ⟨h1, ⟨tp, p, h2⟩, ⟨tp', p', h3⟩⟩ := h
  exact ⟨var_below h1 hb, ⟨tp, p, var_below h2 hb⟩, ⟨tp', p', var_below h3 hb⟩⟩
theorem LaidW.drewN {w : World} (h : LaidW w) (n : Nat) : LaidW (w.drewN n) := h.below ⟨rfl, rfl, rfl, Nat.le_refl _, fun _ _ => rfl⟩

set_option maxHeartbeats 400000 in
theorem show_tab (n : Int) (w : World) (hn : In64 n) (htab : Lib.TabIs Tryz.prog w "internal/strconv.uint64pow10" .u64 Lib.pow10Tab) :
    Calls Tryz.prog 160 #[.int .i64 n] w fun e w' => e = .returned (sv (Lib.itoa n)) ∧ Below w.heap.size w w' := by
  go_enter Tryz.func160, Tryz.ntmps160
  go_wp2_with (go_at_call 182; refine (Tryz.strconv_Itoa n hn.1 hn.2 _ htab).mono ?_; rintro e w' ⟨rfl, k, os, rfl⟩)
  go_ret
  exact ⟨rfl, below_grow _ _ _⟩
theorem show_any (n : Int) (w : World) (hn : In64 n) (hL : LaidW w) :
    Calls Tryz.prog 160 #[.int .i64 n] w fun e w' => e = .returned (sv (Lib.itoa n)) ∧ Below w.heap.size w w' := show_tab n w hn hL.tab
set_option maxHeartbeats 400000 in
/-- Atoi at every text: the number, and whether there is an error. -/
theorem atoi_any (s : ByteArray) (w : World) (hs : s.size ≤ 281474976710656) (hL : LaidW w) :
    Calls Tryz.prog 173 #[.string s] w fun e w' => ∃ v x, e = .returned (.tuple #[.int .i64 v, x]) ∧ Below w.heap.size w w' ∧
      ((Lib.atoiAll s.data.toList = .ok v ∧ x = .nilIface) ∨ ((∀ u, Lib.atoiAll s.data.toList ≠ .ok u) ∧ ∃ t y, x = .iface t y)) := by
  obtain ⟨_, ⟨tp, p, h2⟩, ⟨tp', p', h3⟩⟩ := hL
  rcases h : Lib.atoiAll s.data.toList with v | _ | _
  · refine (Tryz.strconv_Atoi_ok s (by omega) v h w).mono ?_
    rintro e w' ⟨rfl, hw⟩
    refine ⟨v, _, rfl, ?_, .inl ⟨rfl, rfl⟩⟩
    rcases hw with rfl | ⟨t, rfl⟩
    · exact Below.refl _ _
    · exact Lib.bytesWorld_below w _ t
  · refine (Tryz.strconv_Atoi_syntax_var s hs h tp p w h2).mono ?_
    rintro e w' ⟨N, rfl, _, _, hb⟩
    exact ⟨_, _, rfl, hb, .inr ⟨fun u hu => (by cases hu), _, _, rfl⟩⟩
  · refine (Tryz.strconv_Atoi_range_var s hs h tp' p' w h3).mono ?_
    rintro e w' ⟨N, rfl, _, _, hb⟩
    exact ⟨_, _, rfl, hb, .inr ⟨fun u hu => (by cases hu), _, _, rfl⟩⟩

theorem parse_bad {l : List UInt8} (h : ∀ u, Lib.atoiAll l ≠ .ok u) : parseV l = (0, false) := by
  rw [parse_of_atoi]
  cases ha : Lib.atoiAll l with
  | ok u => exact absurd ha (h u)
  | _ => rfl
theorem parse_neg {l : List UInt8} {v : Int} (h : Lib.atoiAll l = .ok v) (h0 : v < 0) : parseV l = (0, false) := by
  rw [parse_of_atoi, h]; dsimp only; rw [if_pos (.inl h0)]
theorem parse_else {l : List UInt8} {v : Int} (h : Lib.atoiAll l = .ok v) (h0 : Lib.itoa v ≠ l) : parseV l = (0, false) := by
  rw [parse_of_atoi, h]; dsimp only; rw [if_pos (.inr h0)]
theorem parse_good {l : List UInt8} {v : Int} (h : Lib.atoiAll l = .ok v) (h0 : 0 ≤ v) (h1 : Lib.itoa v = l) : parseV l = (v, true) := by
  rw [parse_of_atoi, h]; dsimp only; rw [if_neg]
  rintro (h | h)
  · omega
  · exact h h1
theorem ret_ib {a c : Int} {b d : Bool} (h : (a, b) = (c, d)) : Ending.returned (.tuple #[.int .i64 a, .bool b]) = .returned (.tuple #[.int .i64 c, .bool d]) := by
  cases h; rfl

set_option maxHeartbeats 400000 in
theorem parse_any (s : ByteArray) (w : World) (hs : s.size ≤ 281474976710656) (hL : LaidW w) :
    Calls Tryz.prog 148 #[.string s] w fun e w' => e = .returned (.tuple #[.int .i64 (parseV s.data.toList).1, .bool (parseV s.data.toList).2]) ∧ Below w.heap.size w w' := by
  go_enter Tryz.func148, Tryz.ntmps148
  go_wp2_with fail
  refine (atoi_any s _ hs hL).mono ?_
  rintro e w1 ⟨v, x, rfl, hb1, hx⟩
  have hL1 := hL.below hb1
  rcases hx with ⟨ha, rfl⟩ | ⟨ha, t, y, rfl⟩
  · by_cases h0 : v < 0
    · have HV := hid (parse_neg ha h0)
      clear ha
      go_wp2_with fail
      go_ret2
      exact ⟨ret_ib (by rw [HV.out]), hb1⟩
    · have hv : In64 v := by
        have := atoi_lt ha
        unfold In64; omega
      have HA := hid ha
      clear ha
      go_wp2_with (go_at_call 160; refine (show_any v _ hv hL1).mono ?_; rintro e w2 ⟨rfl, hb2⟩)
      · rename_i h
        have hne : Lib.itoa v ≠ s.data.toList := by
          rcases h with h | h
          · omega
          · simpa [blist] using h
        go_ret2
        exact ⟨ret_ib (by rw [parse_else HA.out hne]), hb1.trans (hb2.mono hb1.size)⟩
      · rename_i h
        have he : Lib.itoa v = s.data.toList := by simpa [blist] using h.2
        go_ret2
        exact ⟨ret_ib (by rw [parse_good HA.out h.1 he]), hb1.trans (hb2.mono hb1.size)⟩
  · have HV := hid (parse_bad ha)
    clear ha
    go_wp2_with fail
    go_ret2
    exact ⟨ret_ib (by rw [HV.out]), hb1⟩
end Go.Proofs.YtmbppnbekkbibaaGreatDoor
end
section
/- Texts that belong together: XA, XB, XC, XD. -/
/- The contracts of lex's functions on bytes, and of how many bytes are of a sort. -/
set_option linter.unusedVariables false
namespace Go.Proofs.YtmbppnbekkbibaaGreatDoor
open Go.RowKit

theorem letter_any (c : UInt8) (w : World) : Calls Tryz.prog 104 #[.int .u8 (c.toNat : Int)] w fun e w' => e = .returned (.bool (letterB c)) ∧ w' = w := by
  unfold letterB
  generalize c.toNat = n
  go_enter Tryz.func104, Tryz.ntmps104
  go_wp2_with fail
  all_goals
    go_ret
    refine ⟨?_, rfl⟩
    congr 2
    try simp
    try omega
    try (rw [Bool.eq_iff_iff]; simp only [Bool.or_eq_true, Bool.and_eq_true, decide_eq_true_eq, beq_iff_eq]; omega)
theorem digit_any (c : UInt8) (w : World) : Calls Tryz.prog 106 #[.int .u8 (c.toNat : Int)] w fun e w' => e = .returned (.bool (digitB c)) ∧ w' = w := by
  unfold digitB
  generalize c.toNat = n
  go_enter Tryz.func106, Tryz.ntmps106
  go_wp2_with fail
  all_goals
    go_ret
    refine ⟨?_, rfl⟩
    congr 2
    try simp
    try omega
    try (rw [Bool.eq_iff_iff]; simp only [Bool.or_eq_true, Bool.and_eq_true, decide_eq_true_eq, beq_iff_eq]; omega)
theorem blank_any (c : UInt8) (w : World) : Calls Tryz.prog 102 #[.int .u8 (c.toNat : Int)] w fun e w' => e = .returned (.bool (blankB c)) ∧ w' = w := by
  unfold blankB
  generalize c.toNat = n
  go_enter Tryz.func102, Tryz.ntmps102
  go_wp2_with fail
  all_goals
    go_ret
    refine ⟨?_, rfl⟩
    congr 2
    try simp
    try omega
    try (rw [Bool.eq_iff_iff]; simp only [Bool.or_eq_true, Bool.and_eq_true, decide_eq_true_eq, beq_iff_eq]; omega)
theorem notline_any (c : UInt8) (w : World) : Calls Tryz.prog 103 #[.int .u8 (c.toNat : Int)] w fun e w' => e = .returned (.bool (notLine c)) ∧ w' = w := by
  unfold notLine
  generalize c.toNat = n
  go_enter Tryz.func103, Tryz.ntmps103
  go_wp2_with fail
  all_goals
    go_ret
    refine ⟨?_, rfl⟩
    congr 2
    try simp
    try omega
    try (rw [Bool.eq_iff_iff]; simp only [Bool.not_eq_true', bne_iff_ne, ne_eq, decide_eq_false_iff_not]; omega)
theorem inner_any (c : UInt8) (w : World) : Calls Tryz.prog 119 #[.int .u8 (c.toNat : Int)] w fun e w' => e = .returned (.bool (innerB c)) ∧ w' = w := by
  have hi : innerB c = (letterB c || digitB c) := rfl
  rw [hi]
  clear hi
  cases hl : letterB c
  · go_enter Tryz.func119, Tryz.ntmps119
    go_wp2_with fail
    refine (letter_any c _).mono ?_
    rintro e w1 ⟨rfl, rfl⟩
    rw [hl]
    go_wp2_with fail
    refine (digit_any c _).mono ?_
    rintro e w1 ⟨rfl, rfl⟩
    go_wp2_with fail
    go_ret
    exact ⟨rfl, rfl⟩
  · go_enter Tryz.func119, Tryz.ntmps119
    go_wp2_with fail
    refine (letter_any c _).mono ?_
    rintro e w1 ⟨rfl, rfl⟩
    rw [hl]
    go_wp2_with fail
    go_ret
    exact ⟨rfl, rfl⟩

theorem sv_size (s : Bt) : (ByteArray.mk s.toArray).size = s.length := by simp [ByteArray.size]
theorem sv_index (s : Bt) (k : Nat) (h : k < s.length) : (ByteArray.mk s.toArray)[k]'(by rw [sv_size]; exact h) = s[k] := by simp [ByteArray.getElem_eq_getElem_data]

set_option maxHeartbeats 400000 in
theorem row_blank (s : Bt) (w : World) (hs : s.length ≤ 281474976710656) : Calls Tryz.prog 101 #[sv s, .func (.func 102) #[] #[]] w fun e w' => e = .returned (.int .i64 (rowL blankB s : Nat)) ∧ w' = w := by
  have hsz := sv_size s
  go_enter Tryz.func101, Tryz.ntmps101
  go_wp2_with fail
  go_loop [5, 8] (fun v5 v8 => ∃ k : Nat, v8 = .int .i64 k ∧ k ≤ s.length ∧ ∀ j (hj : j < s.length), j < k → blankB s[j] = true) (fun _ v8 => s.length - (intOf v8).toNat)
  case atStart => exact ⟨0, rfl, by omega, fun j hj h => by omega⟩
  case round =>
    obtain ⟨k, rfl, hk, hall⟩ := hrel
    by_cases hlt : k < s.length
    · have hix := sv_index s k hlt
      have hrow := fun hn => rowL_at (p := blankB) hlt (fun j hj => hall j (by omega) hj) hn
      have hnext : blankB s[k] = true → ∀ j (hj : j < s.length), j < k + 1 → blankB s[j] = true := by
        intro h j hj hjk
        rcases Nat.lt_or_ge j k with h1 | h1
        · exact hall j hj h1
        · obtain rfl : j = k := by omega
          exact h
      have HROW := hid hrow
      have HNEXT := hid hnext
      clear hall hrow hnext
      generalize hX : s[k] = X at *
      cases hq : blankB X
      · have hres := HROW.out hq
        go_wp2_with fail
        refine (blank_any X _).mono ?_
        rintro e w1 ⟨rfl, rfl⟩
        rw [hq]
        go_wp2_with fail
        go_ret
        exact ⟨by rw [hres]; rfl, rfl⟩
      · have hall := HNEXT.out hq
        have HALL := hid hall
        clear hall
        go_wp2_with fail
        refine (blank_any X _).mono ?_
        rintro e w1 ⟨rfl, rfl⟩
        rw [hq]
        go_wp2_with fail
        go_round
        case rel => exact ⟨k + 1, rfl, by omega, HALL.out⟩
        case measure => simp [intOf]; omega
    · obtain rfl : k = s.length := by omega
      have hres := rowL_all (p := blankB) (s := s) (fun j hj => hall j hj hj)
      clear hall
      go_wp2_with fail
      go_ret
      first | exact ⟨rfl, rfl⟩ | exact ⟨by rw [hres]; rfl, rfl⟩

set_option maxHeartbeats 400000 in
theorem row_inner (s : Bt) (w : World) (hs : s.length ≤ 281474976710656) : Calls Tryz.prog 101 #[sv s, .func (.func 119) #[] #[]] w fun e w' => e = .returned (.int .i64 (rowL innerB s : Nat)) ∧ w' = w := by
  have hsz := sv_size s
  go_enter Tryz.func101, Tryz.ntmps101
  go_wp2_with fail
  go_loop [5, 8] (fun v5 v8 => ∃ k : Nat, v8 = .int .i64 k ∧ k ≤ s.length ∧ ∀ j (hj : j < s.length), j < k → innerB s[j] = true) (fun _ v8 => s.length - (intOf v8).toNat)
  case atStart => exact ⟨0, rfl, by omega, fun j hj h => by omega⟩
  case round =>
    obtain ⟨k, rfl, hk, hall⟩ := hrel
    by_cases hlt : k < s.length
    · have hix := sv_index s k hlt
      have hrow := fun hn => rowL_at (p := innerB) hlt (fun j hj => hall j (by omega) hj) hn
      have hnext : innerB s[k] = true → ∀ j (hj : j < s.length), j < k + 1 → innerB s[j] = true := by
        intro h j hj hjk
        rcases Nat.lt_or_ge j k with h1 | h1
        · exact hall j hj h1
        · obtain rfl : j = k := by omega
          exact h
      have HROW := hid hrow
      have HNEXT := hid hnext
      clear hall hrow hnext
      generalize hX : s[k] = X at *
      cases hq : innerB X
      · have hres := HROW.out hq
        go_wp2_with fail
        refine (inner_any X _).mono ?_
        rintro e w1 ⟨rfl, rfl⟩
        rw [hq]
        go_wp2_with fail
        go_ret
        exact ⟨by rw [hres]; rfl, rfl⟩
      · have hall := HNEXT.out hq
        have HALL := hid hall
        clear hall
        go_wp2_with fail
        refine (inner_any X _).mono ?_
        rintro e w1 ⟨rfl, rfl⟩
        rw [hq]
        go_wp2_with fail
        go_round
        case rel => exact ⟨k + 1, rfl, by omega, HALL.out⟩
        case measure => simp [intOf]; omega
    · obtain rfl : k = s.length := by omega
      have hres := rowL_all (p := innerB) (s := s) (fun j hj => hall j hj hj)
      clear hall
      go_wp2_with fail
      go_ret
      first | exact ⟨rfl, rfl⟩ | exact ⟨by rw [hres]; rfl, rfl⟩

set_option maxHeartbeats 400000 in
theorem row_digit (s : Bt) (w : World) (hs : s.length ≤ 281474976710656) : Calls Tryz.prog 101 #[sv s, .func (.func 106) #[] #[]] w fun e w' => e = .returned (.int .i64 (rowL digitB s : Nat)) ∧ w' = w := by
  have hsz := sv_size s
  go_enter Tryz.func101, Tryz.ntmps101
  go_wp2_with fail
  go_loop [5, 8] (fun v5 v8 => ∃ k : Nat, v8 = .int .i64 k ∧ k ≤ s.length ∧ ∀ j (hj : j < s.length), j < k → digitB s[j] = true) (fun _ v8 => s.length - (intOf v8).toNat)
  case atStart => exact ⟨0, rfl, by omega, fun j hj h => by omega⟩
  case round =>
    obtain ⟨k, rfl, hk, hall⟩ := hrel
    by_cases hlt : k < s.length
    · have hix := sv_index s k hlt
      have hrow := fun hn => rowL_at (p := digitB) hlt (fun j hj => hall j (by omega) hj) hn
      have hnext : digitB s[k] = true → ∀ j (hj : j < s.length), j < k + 1 → digitB s[j] = true := by
        intro h j hj hjk
        rcases Nat.lt_or_ge j k with h1 | h1
        · exact hall j hj h1
        · obtain rfl : j = k := by omega
          exact h
      have HROW := hid hrow
      have HNEXT := hid hnext
      clear hall hrow hnext
      generalize hX : s[k] = X at *
      cases hq : digitB X
      · have hres := HROW.out hq
        go_wp2_with fail
        refine (digit_any X _).mono ?_
        rintro e w1 ⟨rfl, rfl⟩
        rw [hq]
        go_wp2_with fail
        go_ret
        exact ⟨by rw [hres]; rfl, rfl⟩
      · have hall := HNEXT.out hq
        have HALL := hid hall
        clear hall
        go_wp2_with fail
        refine (digit_any X _).mono ?_
        rintro e w1 ⟨rfl, rfl⟩
        rw [hq]
        go_wp2_with fail
        go_round
        case rel => exact ⟨k + 1, rfl, by omega, HALL.out⟩
        case measure => simp [intOf]; omega
    · obtain rfl : k = s.length := by omega
      have hres := rowL_all (p := digitB) (s := s) (fun j hj => hall j hj hj)
      clear hall
      go_wp2_with fail
      go_ret
      first | exact ⟨rfl, rfl⟩ | exact ⟨by rw [hres]; rfl, rfl⟩

set_option maxHeartbeats 400000 in
theorem row_notline (s : Bt) (w : World) (hs : s.length ≤ 281474976710656) : Calls Tryz.prog 101 #[sv s, .func (.func 103) #[] #[]] w fun e w' => e = .returned (.int .i64 (rowL notLine s : Nat)) ∧ w' = w := by
  have hsz := sv_size s
  go_enter Tryz.func101, Tryz.ntmps101
  go_wp2_with fail
  go_loop [5, 8] (fun v5 v8 => ∃ k : Nat, v8 = .int .i64 k ∧ k ≤ s.length ∧ ∀ j (hj : j < s.length), j < k → notLine s[j] = true) (fun _ v8 => s.length - (intOf v8).toNat)
  case atStart => exact ⟨0, rfl, by omega, fun j hj h => by omega⟩
  case round =>
    obtain ⟨k, rfl, hk, hall⟩ := hrel
    by_cases hlt : k < s.length
    · have hix := sv_index s k hlt
      have hrow := fun hn => rowL_at (p := notLine) hlt (fun j hj => hall j (by omega) hj) hn
      have hnext : notLine s[k] = true → ∀ j (hj : j < s.length), j < k + 1 → notLine s[j] = true := by
        intro h j hj hjk
        rcases Nat.lt_or_ge j k with h1 | h1
        · exact hall j hj h1
        · obtain rfl : j = k := by omega
          exact h
      have HROW := hid hrow
      have HNEXT := hid hnext
      clear hall hrow hnext
      generalize hX : s[k] = X at *
      cases hq : notLine X
      · have hres := HROW.out hq
        go_wp2_with fail
        refine (notline_any X _).mono ?_
        rintro e w1 ⟨rfl, rfl⟩
        rw [hq]
        go_wp2_with fail
        go_ret
        exact ⟨by rw [hres]; rfl, rfl⟩
      · have hall := HNEXT.out hq
        have HALL := hid hall
        clear hall
        go_wp2_with fail
        refine (notline_any X _).mono ?_
        rintro e w1 ⟨rfl, rfl⟩
        rw [hq]
        go_wp2_with fail
        go_round
        case rel => exact ⟨k + 1, rfl, by omega, HALL.out⟩
        case measure => simp [intOf]; omega
    · obtain rfl : k = s.length := by omega
      have hres := rowL_all (p := notLine) (s := s) (fun j hj => hall j hj hj)
      clear hall
      go_wp2_with fail
      go_ret
      first | exact ⟨rfl, rfl⟩ | exact ⟨by rw [hres]; rfl, rfl⟩
end Go.Proofs.YtmbppnbekkbibaaGreatDoor

/- The contracts of lex's words, of the library's Index over texts, and of how a lexer passes over bytes. -/
set_option linter.unusedVariables false
namespace Go.Proofs.YtmbppnbekkbibaaGreatDoor
open Go.RowKit

theorem el_str : ElemIs Tryz.prog 25 9 (sv []) 1 16 := ⟨Tryz.underlying25, by kernel_rfl, rfl, by decide⟩
/-- What the listed variables hold that a lexer looks at. -/
def LaidX (w : World) : Prop := LaidW w ∧ Lib.TabIs Tryz.prog w "strings.asciiSpace" .u8 Lib.asciiSpaceTab
/-- The tables alone. -/
def LaidT (w : World) : Prop := Lib.TabIs Tryz.prog w "internal/strconv.uint64pow10" .u64 Lib.pow10Tab ∧ Lib.TabIs Tryz.prog w "strings.asciiSpace" .u8 Lib.asciiSpaceTab
theorem LaidT.below {w w' : World} (h : LaidT w) (hb : Below w.heap.size w w') : LaidT w' := ⟨var_below h.1 hb, var_below h.2 hb⟩
theorem LaidX.t {w : World} (h : LaidX w) : LaidT w := ⟨h.1.tab, h.2⟩
theorem LaidX.below {w w' : World} (h : LaidX w) (hb : Below w.heap.size w w') : LaidX w' := ⟨h.1.below hb, var_below h.2 hb⟩

def wordsT : Bt := [97, 110, 100, 32, 97, 110, 121, 32, 97, 115, 32, 98, 111, 111, 108, 32, 101, 108, 115, 101, 32, 101, 120, 112, 111, 114, 116, 32, 102, 97, 108, 115, 101, 32, 102, 110, 32, 102, 117, 110, 99, 116, 105, 111, 110, 32, 105, 102, 32, 105, 109, 112, 111, 114, 116, 32, 105, 110, 32, 105, 110, 116, 32, 105, 115, 32, 108, 101, 116, 32, 110, 111, 116, 32, 110, 117, 108, 108, 32, 111, 114, 32, 112, 114, 105, 110, 116, 32, 114, 101, 97, 100, 32, 114, 101, 99, 111, 114, 100, 32, 115, 116, 114, 32, 116, 104, 101, 110, 32, 116, 114, 117, 101, 32, 119, 105, 116, 104]
set_option maxRecDepth 100000 in
theorem words_fields : Lib.fields wordsT = wordsL := by kernel_rfl
set_option maxRecDepth 100000 in
theorem words_ascii : (wordsT.all fun b => decide (b.toNat < 128)) = true := by kernel_rfl
theorem words_list : (⟨wordsT.toArray⟩ : ByteArray).data.toList = wordsT := rfl
set_option maxRecDepth 100000 in
theorem words_any (w : World) (hL : LaidT w) : Calls Tryz.prog 121 #[] w fun e w' => ∃ v, e = .returned v ∧ Ss w' w'.heap.size v wordsL ∧ Below w.heap.size w w' := by
  go_enter Tryz.func121, Tryz.ntmps121
  go_wp2_with fail
  refine (Tryz.strings_Fields ⟨wordsT.toArray⟩ _ ?h1 ?h2 hL.2).mono ?_
  case h1 => decide
  case h2 =>
    intro j b hb
    rw [words_list] at hb
    exact of_decide_eq_true (List.all_eq_true.1 words_ascii b (List.mem_of_getElem? hb))
  rintro e w1 ⟨rfl, rfl⟩
  rw [words_list, words_fields]
  have hss : Ss (w.alloc (.cells (wordsL.map fun l => Value.string ⟨l.toArray⟩).toArray 9)) (w.alloc (.cells (wordsL.map fun l => Value.string ⟨l.toArray⟩).toArray 9)).heap.size (.slice (some ⟨w.heap.size, 0, none⟩) wordsL.length wordsL.length) wordsL := by
    have := sl_new w (wordsL.map fun l => Value.string ⟨l.toArray⟩).toArray 9 1 wordsL.length (by simp) (by decide)
    rw [World.size_alloc]
    simpa [Ss, svs] using this
  have hb : Below w.heap.size w (w.alloc (.cells (wordsL.map fun l => Value.string ⟨l.toArray⟩).toArray 9)) := (Below.refl _ _).alloc (Nat.le_refl _) _
  generalize (w.alloc (.cells (wordsL.map fun l => Value.string ⟨l.toArray⟩).toArray 9)) = w2 at *
  generalize wordsL.length = n at *
  go_wp2_with fail
  go_ret
  exact ⟨_, rfl, hss, hb⟩

set_option maxHeartbeats 400000 in
theorem index_any (v : Value) (l : List Bt) (x : Bt) (w : World) (hv : Ss w w.heap.size v l) :
    Calls Tryz.prog 163 #[v, sv x] w fun e w' => (∃ k : Int, e = .returned (.int .i64 k) ∧ (0 ≤ k ↔ x ∈ l)) ∧ w' = w := by
  obtain ⟨A, c, rfl, hn, hc, hx⟩ := hv.open_
  unfold maxLen at hc
  go_enter Tryz.func163, Tryz.ntmps163
  go_wp2_with fail
  go_loop [5, 8] (fun v5 v8 => ∃ k : Nat, v8 = .int .i64 k ∧ k ≤ l.length ∧ x ∉ l.take k) (fun _ v8 => l.length - (intOf v8).toNat)
  case atStart => exact ⟨0, rfl, by omega, by simp⟩
  case round =>
    obtain ⟨k, rfl, hk, hnot⟩ := hrel
    by_cases hlt : k < l.length
    · obtain ⟨b, o, rfl, hb, hcell⟩ := hx (by omega)
      have d1 := hcell k hlt
      have e1 : x = l[k] → x ∈ l := fun h => by rw [h]; exact List.getElem_mem hlt
      have e2 : ¬ x = l[k] → x ∉ l.take (k + 1) := fun h hh => by
        rw [List.take_succ_eq_append_getElem hlt, List.mem_append] at hh
        rcases hh with hh | hh
        · exact hnot hh
        · simp at hh; exact h hh
      clear hcell hx hv hnot
      generalize l[k] = X at *
      by_cases hX : x = X
      · have e3 := e1 hX
        have hq : (x == X) = true := by rw [beq_iff_eq]; exact hX
        clear hX e1 e2
        go_wp2_with fail
        go_ret
        exact ⟨⟨k, rfl, by simp [e3]⟩, rfl⟩
      · have e3 := e2 hX
        have hq : (x == X) = false := by rw [beq_eq_false_iff_ne]; exact hX
        clear hX e1 e2
        go_wp2_with fail
        go_round
        case rel => exact ⟨k + 1, rfl, by omega, e3⟩
        case measure => simp [intOf]; omega
    · obtain rfl : k = l.length := by omega
      rw [List.take_length] at hnot
      go_wp2_with fail
      go_ret
      exact ⟨⟨-1, rfl, by simp [hnot]⟩, rfl⟩
theorem contains_any (v : Value) (l : List Bt) (x : Bt) (w : World) (hv : Ss w w.heap.size v l) :
    Calls Tryz.prog 120 #[v, sv x] w fun e w' => e = .returned (.bool (decide (x ∈ l))) ∧ w' = w := by
  go_enter Tryz.func120, Tryz.ntmps120
  go_wp2_with fail
  refine (index_any v l x _ hv).mono ?_
  rintro e w1 ⟨⟨k, rfl, hk⟩, rfl⟩
  by_cases h : x ∈ l
  · have h0 := hk.2 h
    clear hk
    go_wp2_with fail
    go_ret
    exact ⟨by simp [h], rfl⟩
  · have h0 : ¬ (0 ≤ k) := fun hh => h (hk.1 hh)
    clear hk
    go_wp2_with fail
    go_ret
    exact ⟨by first | (simp [h]; done) | (simp [h]; exact h0) | (simp [h]; omega), rfl⟩
end Go.Proofs.YtmbppnbekkbibaaGreatDoor

/- A lexer in memory; how it passes over bytes. -/
set_option linter.unusedVariables false
namespace Go.Proofs.YtmbppnbekkbibaaGreatDoor
open Go.RowKit

/-- Block bl is a lexer: what is left of its text, where it stands, its map of pairs, its tokens. -/
def LexAt (w : World) (bl bp : Nat) (s : Bt) (p : Nat × Nat) (outv : Value) : Prop :=
  w.heap[bl]? = some (.cells #[sv s, .int .i64 (p.1 : Nat), .int .i64 (p.2 : Nat), .map (some bp), outv] 110 (0, 0))
section
variable {w w' : World} {bl bp : Nat} {s : Bt} {p : Nat × Nat} {outv : Value}
theorem LexAt.c0 (h : LexAt w bl bp s p outv) : w.cell? ⟨bl, 0, none⟩ = some (sv s) := (cell_of_row _ _ _ _ _ (0, 0) h).trans rfl
theorem LexAt.c1 (h : LexAt w bl bp s p outv) : w.cell? ⟨bl, 1, none⟩ = some (.int .i64 (p.1 : Nat)) := (cell_of_row _ _ _ _ _ (0, 0) h).trans rfl
theorem LexAt.c2 (h : LexAt w bl bp s p outv) : w.cell? ⟨bl, 2, none⟩ = some (.int .i64 (p.2 : Nat)) := (cell_of_row _ _ _ _ _ (0, 0) h).trans rfl
theorem LexAt.c3 (h : LexAt w bl bp s p outv) : w.cell? ⟨bl, 3, none⟩ = some (.map (some bp)) := (cell_of_row _ _ _ _ _ (0, 0) h).trans rfl
theorem LexAt.c4 (h : LexAt w bl bp s p outv) : w.cell? ⟨bl, 4, none⟩ = some outv := (cell_of_row _ _ _ _ _ (0, 0) h).trans rfl
theorem LexAt.free (h : LexAt w bl bp s p outv) (i : Nat) : w.frozen? ⟨bl, i, none⟩ = false := by simp [World.frozen?, show w.heap[bl]? = _ from h]
theorem LexAt.lt (h : LexAt w bl bp s p outv) : bl < w.heap.size := block_lt h
theorem LexAt.turn {G : Nat → Prop} (h : LexAt w bl bp s p outv) (t : Turn G w w') (hd : ¬ G bl) : LexAt w' bl bp s p outv := block_turn h t hd
end
theorem ss_cell' {w wr : World} {F : Nat → Prop} {b off : Nat} (t : Turn F w wr) (hb : b < w.heap.size) (hF : ¬ F b) {u : Value} (h : w.cell? ⟨b, off, none⟩ = some u) : wr.cell? ⟨b, off, none⟩ = some u := by
  rw [← h]; simp only [World.cell?, t.block hb hF]
theorem advL_le (p : Nat × Nat) (s : Bt) : (advL p s).1 ≤ p.1 + s.length ∧ (advL p s).2 ≤ p.2 + s.length + 1 := by
  induction s generalizing p with
  | nil => exact ⟨Nat.le_refl _, by simp [advL]⟩
  | cons c s ih =>
    have h : advL p (c :: s) = advL (advB p c) s := rfl
    rw [h]
    obtain ⟨a, b⟩ := ih (advB p c)
    have h1 : (advB p c).1 ≤ p.1 + 1 ∧ (advB p c).2 ≤ p.2 + 1 ∨ (advB p c).2 ≤ 1 ∧ (advB p c).1 ≤ p.1 + 1 := by
      unfold advB; split
      · exact .inr ⟨Nat.le_refl _, Nat.le_refl _⟩
      · exact .inl ⟨Nat.le_succ _, Nat.le_refl _⟩
    simp only [List.length_cons]
    omega

theorem extract_list (s : Bt) (a b : Nat) : (ByteArray.extract ⟨s.toArray⟩ a b).data.toList = (s.take b).drop a := by
  rw [ByteArray.data_extract]
  simp [List.extract_eq_take_drop, List.drop_take]
theorem extract_sv (s : Bt) (a b : Nat) : Value.string (ByteArray.extract ⟨s.toArray⟩ a b) = sv ((s.take b).drop a) := by
  rw [← extract_list]
theorem conv_take {P : Program} (w : World) (src dst e : TypeId) (hs : P.underlying src = some .string) (hd : P.underlying dst = some (.slice e)) (he : P.underlying e = some (.int .u8)) (s : Bt) (n : Nat) (hn : n ≤ s.length) :
    ∃ C w5, (convert src dst (.string (ByteArray.extract ⟨s.toArray⟩ 0 n))).run P w = .ok (.slice (some ⟨w.heap.size, 0, none⟩) n C) w5 ∧ Turn (fun _ => False) w w5 ∧ w.heap.size < w5.heap.size ∧
      ∀ j (hj : j < n), w5.cell? ⟨w.heap.size, j, none⟩ = some (.int .u8 ((s[j]'(by omega)).toNat : Int)) := by
  have hsz : (ByteArray.extract ⟨s.toArray⟩ 0 n).size = n := by
    have h : (ByteArray.extract ⟨s.toArray⟩ 0 n).data.toList.length = (ByteArray.extract ⟨s.toArray⟩ 0 n).size := Array.length_toList
    rw [← h, extract_list]; simp; omega
  have hrun := Lib.run_convert_string_bytes (P := P) w src dst e (ByteArray.extract ⟨s.toArray⟩ 0 n) hs hd he
  have hcell := Lib.bytesWorld_cell w e (ByteArray.extract ⟨s.toArray⟩ 0 n)
  have hsize := Lib.bytesWorld_size w e (ByteArray.extract ⟨s.toArray⟩ 0 n)
  have hold := Lib.bytesWorld_at_old w e (ByteArray.extract ⟨s.toArray⟩ 0 n)
  rw [hsz] at hrun hcell
  refine ⟨_, _, hrun, ⟨rfl, rfl, rfl, by rw [hsize]; omega, fun k hk _ => hold k hk⟩, by rw [hsize]; omega, fun j hj => ?_⟩
  rw [hcell j hj, extract_list]
  simp [List.getD_eq_getElem?_getD, List.getElem?_take, hj, List.getElem?_eq_getElem (show j < s.length by omega)]

theorem LexAt.set1 {w : World} {bl bp : Nat} {s : Bt} {p : Nat × Nat} {outv : Value} (h : LexAt w bl bp s p outv) (n : Nat) : LexAt (w.setCell ⟨bl, 1, none⟩ (.int .i64 (n : Nat))) bl bp s (n, p.2) outv := heap_setCell_same w bl 1 _ _ _ h
theorem LexAt.set2 {w : World} {bl bp : Nat} {s : Bt} {p : Nat × Nat} {outv : Value} (h : LexAt w bl bp s p outv) (n : Nat) : LexAt (w.setCell ⟨bl, 2, none⟩ (.int .i64 (n : Nat))) bl bp s (p.1, n) outv := heap_setCell_same w bl 2 _ _ _ h
theorem LexAt.set0 {w : World} {bl bp : Nat} {s : Bt} {p : Nat × Nat} {outv : Value} (h : LexAt w bl bp s p outv) (s' : Bt) : LexAt (w.setCell ⟨bl, 0, none⟩ (sv s')) bl bp s' p outv := heap_setCell_same w bl 0 _ _ _ h
theorem LexAt.set4 {w : World} {bl bp : Nat} {s : Bt} {p : Nat × Nat} {outv : Value} (h : LexAt w bl bp s p outv) (v : Value) : LexAt (w.setCell ⟨bl, 4, none⟩ v) bl bp s p v := heap_setCell_same w bl 4 _ _ _ h

set_option maxRecDepth 100000 in
set_option maxHeartbeats 1000000 in
theorem pass_any (w : World) (bl bp : Nat) (s : Bt) (p : Nat × Nat) (outv : Value) (n : Nat) (hL : LexAt w bl bp s p outv) (hn : n ≤ s.length) (hs : s.length ≤ 100000) (hp : p.1 ≤ 1000000 ∧ p.2 ≤ 1000000) :
    Calls Tryz.prog 58 #[.pointer (some ⟨bl, 0, none⟩), .int .i64 (n : Nat)] w fun e w' =>
      e = .returned (.tuple #[]) ∧ LexAt w' bl bp (s.drop n) (advL p (s.take n)) outv ∧ Turn (fun k => k = bl) w w' := by
  have hsz := sv_size s
  have c0 := hL.c0
  obtain ⟨C, w5, hconv, ht5, hlt5, hcells⟩ := conv_take (P := Tryz.prog) w 9 163 5 Tryz.underlying9 Tryz.underlying163 Tryz.underlying5 s n hn
  have hL5 := hL.turn ht5 id
  have hbl := hL.lt
  have HC := hid hcells
  clear hcells
  go_enter Tryz.func58, Tryz.ntmps58
  go_wp2_with fail
  go_loopw [14] (fun v14 wr => ∃ k : Nat, v14 = .int .i64 k ∧ k ≤ n ∧ LexAt wr bl bp s (advL p (s.take k)) outv ∧ Turn (fun k => k = bl) w5 wr) (fun v14 _ => n - (intOf v14).toNat)
  case atStart => exact ⟨0, rfl, by omega, hL5, Turn.refl _ _⟩
  case round =>
    obtain ⟨k, rfl, hk, hLr, htr⟩ := hrel
    have hq := advL_le p (s.take k)
    have hkl : (s.take k).length ≤ k := by simp; omega
    by_cases hlt : k < n
    · have hnext := advL_take (p := p) (show k < s.length by omega)
      have d1 := ss_cell' htr hlt5 (by omega) (HC.out k hlt)
      generalize advL p (s.take k) = q at *
      generalize s[k] = X at *
      have c1 := hLr.c1
      have c2 := hLr.c2
      have f1 := hLr.free 1
      have f2 := hLr.free 2
      have hb : q.1 < 2000000 ∧ q.2 < 2000000 := by omega
      have HNX := hid hnext
      clear hnext hq hL hL5 c0 hconv
      by_cases hX : X.toNat = 10
      · have hl1 := ((hLr.set2 (q.2 + 1)).set1 (q.1 + 1)).set2 1
        have ht1 := ((htr.trans (turn_set _ bl 2 (.int .i64 ((q.2 + 1 : Nat) : Int))) (fun _ _ h => h)).trans (turn_set _ bl 1 (.int .i64 ((q.1 + 1 : Nat) : Int))) (fun _ _ h => h)).trans (turn_set _ bl 2 (.int .i64 ((1 : Nat) : Int))) (fun _ _ h => h)
        have e1 : advB q X = (q.1 + 1, 1) := by unfold advB; rw [if_pos hX]
        have HL1 := hid hl1
        have HT1 := hid ht1
        have HE := hid e1
        clear hLr htr hl1 ht1 e1
        go_wp2_with fail
        go_roundw
        case rel => exact ⟨k + 1, rfl, by omega, by rw [HNX.out, HE.out]; exact HL1.out, HT1.out⟩
        case measure => simp [intOf]; omega
      · have hl1 := hLr.set2 (q.2 + 1)
        have ht1 := htr.trans (turn_set _ bl 2 (.int .i64 ((q.2 + 1 : Nat) : Int))) (fun _ _ h => h)
        have e1 : advB q X = (q.1, q.2 + 1) := by unfold advB; rw [if_neg hX]
        have HL1 := hid hl1
        have HT1 := hid ht1
        have HE := hid e1
        clear hLr htr hl1 ht1 e1
        go_wp2_with fail
        go_roundw
        case rel => exact ⟨k + 1, rfl, by omega, by rw [HNX.out, HE.out]; exact HL1.out, HT1.out⟩
        case measure => simp [intOf]; omega
    · obtain rfl : k = n := by omega
      have c0r := hLr.c0
      have f0 := hLr.free 0
      have hl1 := hLr.set0 (s.drop k)
      have ht1 := ((ht5.mono (G := fun k => k = bl) (fun _ _ h => h.elim)).trans htr (fun _ _ h => h)).trans (turn_set _ bl 0 (sv (s.drop k))) (fun _ _ h => h)
      have he : Value.string (ByteArray.extract ⟨s.toArray⟩ k s.length) = sv (s.drop k) := by rw [extract_sv, List.take_length]
      have HL1 := hid hl1
      have HT1 := hid ht1
      clear hL hL5 hLr htr ht5 hl1 ht1 hq c0 hconv
      go_wp2_with fail
      go_end0
      exact ⟨rfl, HL1.out, HT1.out⟩
end Go.Proofs.YtmbppnbekkbibaaGreatDoor

/- How a lexer goes over blanks. -/
set_option linter.unusedVariables false
namespace Go.Proofs.YtmbppnbekkbibaaGreatDoor
open Go.RowKit

theorem skipOne_le (s : Bt) : skipOne s ≤ s.length := by
  unfold skipOne
  have h1 := rowL_le blankB s
  split
  · have h2 := rowL_le notLine (s.drop (rowL blankB s))
    rw [List.length_drop] at h2; omega
  · omega
theorem blank_step (s : Bt) (p : Nat × Nat) : s.drop (skipL s) = (s.drop (skipOne s)).drop (skipL (s.drop (skipOne s))) ∧ advL p (s.take (skipL s)) = advL (advL p (s.take (skipOne s))) ((s.drop (skipOne s)).take (skipL (s.drop (skipOne s)))) := by
  have h := skip_one s
  generalize skipL (s.drop (skipOne s)) = m at *
  rw [h]
  refine ⟨by rw [List.drop_drop], ?_⟩
  rw [List.take_add, advL_append]

def textOf (w : World) (bl : Nat) : Nat := match w.cell? ⟨bl, 0, none⟩ with | some (.string b) => b.size | _ => 0
theorem textOf_at {w : World} {bl bp : Nat} {s : Bt} {p : Nat × Nat} {outv : Value} (h : LexAt w bl bp s p outv) : textOf w bl = s.length := by
  unfold textOf; rw [h.c0]; exact sv_size s

/-- What the round over blanks keeps. -/
def BlankRel (w : World) (bl bp : Nat) (s : Bt) (p : Nat × Nat) (outv : Value) (wr : World) : Prop :=
  ∃ (c : Bt) (q : Nat × Nat), LexAt wr bl bp c q outv ∧ Turn (fun k => k = bl) w wr ∧ c.length ≤ s.length ∧ s.drop (skipL s) = c.drop (skipL c) ∧ advL p (s.take (skipL s)) = advL q (c.take (skipL c)) ∧
    q.1 + c.length ≤ p.1 + s.length ∧ q.2 + c.length ≤ p.2 + s.length ∧ 1 ≤ q.2

theorem advL_le2 {p : Nat × Nat} (s : Bt) (h : 1 ≤ p.2) : (advL p s).1 ≤ p.1 + s.length ∧ (advL p s).2 ≤ p.2 + s.length ∧ 1 ≤ (advL p s).2 := by
  induction s generalizing p with
  | nil => exact ⟨Nat.le_refl _, Nat.le_refl _, h⟩
  | cons c s ih =>
    have h0 : advL p (c :: s) = advL (advB p c) s := rfl
    rw [h0]
    have h1 : (advB p c).1 ≤ p.1 + 1 ∧ (advB p c).2 ≤ p.2 + 1 ∧ 1 ≤ (advB p c).2 := by
      unfold advB; split
      · exact ⟨Nat.le_refl _, by show 1 ≤ _; omega, Nat.le_refl _⟩
      · exact ⟨Nat.le_succ _, Nat.le_refl _, by show 1 ≤ _ + 1; omega⟩
    obtain ⟨a, b, d⟩ := ih h1.2.2
    simp only [List.length_cons]
    omega
theorem BlankRel.step {w wr w2 : World} {bl bp : Nat} {s c : Bt} {p q : Nat × Nat} {outv : Value} (htr : Turn (fun k => k = bl) w wr) (hcl : c.length ≤ s.length) (hd : s.drop (skipL s) = c.drop (skipL c)) (ha : advL p (s.take (skipL s)) = advL q (c.take (skipL c)))
    (hq1 : q.1 + c.length ≤ p.1 + s.length) (hq2 : q.2 + c.length ≤ p.2 + s.length) (hq3 : 1 ≤ q.2) (h : LexAt w2 bl bp (c.drop (skipOne c)) (advL q (c.take (skipOne c))) outv) (ht : Turn (fun k => k = bl) wr w2) (h0 : 0 < skipOne c) :
    BlankRel w bl bp s p outv w2 ∧ textOf w2 bl < c.length := by
  obtain ⟨e1, e2⟩ := blank_step c q
  have hone := skipOne_le c
  have hl := advL_le2 (c.take (skipOne c)) hq3
  rw [List.length_take, Nat.min_eq_left hone] at hl
  refine ⟨⟨_, _, h, htr.trans ht (fun _ _ h => h), ?_, hd.trans e1, ha.trans e2, ?_, ?_, hl.2.2⟩, ?_⟩
  · rw [List.length_drop]; omega
  · rw [List.length_drop]; omega
  · rw [List.length_drop]; omega
  · rw [textOf_at h, List.length_drop]; omega

set_option maxRecDepth 100000 in
set_option maxHeartbeats 1000000 in
theorem blanks_any (w : World) (bl bp : Nat) (s : Bt) (p : Nat × Nat) (outv : Value) (hL : LexAt w bl bp s p outv) (hs : s.length ≤ 100000) (hp : p.1 ≤ 700000 ∧ p.2 ≤ 700000) (hp1 : 1 ≤ p.2) :
    Calls Tryz.prog 56 #[.pointer (some ⟨bl, 0, none⟩)] w fun e w' =>
      e = .returned (.tuple #[]) ∧ LexAt w' bl bp (s.drop (skipL s)) (advL p (s.take (skipL s))) outv ∧ Turn (fun k => k = bl) w w' := by
  go_enter Tryz.func56, Tryz.ntmps56
  go_wp2_with fail
  go_loopw [2] (fun _ wr => BlankRel w bl bp s p outv wr) (fun _ wr => textOf wr bl)
  case atStart => exact ⟨s, p, hL, Turn.refl _ _, Nat.le_refl _, rfl, rfl, Nat.le_refl _, Nat.le_refl _, hp1⟩
  case round =>
    obtain ⟨c, q, hLr, htr, hcl, hd, ha, hq1, hq2, hq3⟩ := hrel
    have hlen := textOf_at hLr
    have c0 := hLr.c0
    have hsz := sv_size c
    have hrow := rowL_le blankB c
    have HSTEP := hid (fun w2 h ht h0 => BlankRel.step (w2 := w2) (bp := bp) (outv := outv) htr hcl hd ha hq1 hq2 hq3 h ht h0)
    have hz : skipOne c = 0 → LexAt wr bl bp (s.drop (skipL s)) (advL p (s.take (skipL s))) outv := by
      intro h
      rw [hd, ha, skip_zero h]
      exact hLr
    have HZ := hid hz
    have HL := hid hLr
    have HLEN := hid hlen
    have HT := hid htr
    have he : Value.string (ByteArray.extract ⟨c.toArray⟩ (rowL blankB c) c.length) = sv (c.drop (rowL blankB c)) := by rw [extract_sv, List.take_length]
    have hone : skipOne c = rowL blankB c + (if ((c.drop (rowL blankB c)).head?).map UInt8.toNat = some 35 then rowL notLine (c.drop (rowL blankB c)) else 0) := rfl
    have hle := skipOne_le c
    have hdl : (c.drop (rowL blankB c)).length = c.length - rowL blankB c := List.length_drop
    clear hd ha hz hLr htr hlen
    go_wp2_with fail
    refine (row_blank c _ (by omega)).mono ?_
    rintro e w1 ⟨rfl, rfl⟩
    generalize hn : rowL blankB c = n at *
    generalize hr : c.drop n = r at *
    have HDL := hid hdl
    clear hdl
    cases r with
    | nil =>
      simp only [List.head?_nil, Option.map_none, reduceCtorEq, if_false, Nat.add_zero] at hone
      by_cases h0 : n = 0
      · have hfin := HZ.out (by omega)
        have HFIN := hid hfin
        clear hfin
        subst h0
        go_wp2_with fail
        (try simp only [Exit.inBlock, Exit.then]); refine bodyPost_ret (results_none rfl _ _ _) rfl ?_
        exact ⟨rfl, HFIN.out, HT.out⟩
      · have h0' : ¬ ((n : Nat) : Int) = 0 := by omega
        go_wp2_with fail
        refine (pass_any w1 bl bp c q outv n HL.out (by omega) (by omega) (by omega)).mono ?_
        rintro e w2 ⟨rfl, hl2, ht2⟩
        obtain ⟨hrel2, hm2⟩ := HSTEP.out w2 (by rw [hone]; exact hl2) ht2 (by omega)
        have HREL2 := hid hrel2
        have HM2 := hid hm2
        clear hrel2 hm2 hl2 ht2
        go_wp2_with fail
        go_roundw
        case rel => exact HREL2.out
        case measure => have := HLEN.out; have := HM2.out; omega

    | cons d tl =>
      simp only [List.head?_cons, Option.map_some, Option.some.injEq] at hone
      have hix : (ByteArray.mk (d :: tl).toArray)[0]'(by rw [sv_size]; simp) = d := sv_index (d :: tl) 0 (by simp)
      have hsz2 := sv_size (d :: tl)
      by_cases hd : d.toNat = 35
      · rw [if_pos hd] at hone
        have hn2 := rowL_le notLine (d :: tl)
        have hdl2 : rowL notLine (d :: tl) + n ≤ c.length := by have := HDL.out; omega
        have hn3 : 1 ≤ rowL notLine (d :: tl) := rowL_pos (by unfold notLine; simp [hd])
        go_wp2_with fail
        refine (row_notline (d :: tl) _ (by have := HDL.out; omega)).mono ?_
        rintro e w1 ⟨rfl, rfl⟩
        generalize rowL notLine (d :: tl) = n2 at *
        have h0' : ¬ ((n : Int) + (n2 : Int)) = 0 := by omega
        have e12 : (n : Int) + (n2 : Int) = ((n + n2 : Nat) : Int) := by omega
        have E12 := hid e12
        clear e12
        go_wp2_with fail
        have e12 := E12.out
        try rw [e12]
        refine (pass_any w1 bl bp c q outv (n + n2) HL.out (by omega) (by omega) (by omega)).mono ?_
        rintro e w2 ⟨rfl, hl2, ht2⟩
        obtain ⟨hrel2, hm2⟩ := HSTEP.out w2 (by rw [hone]; exact hl2) ht2 (by omega)
        have HREL2 := hid hrel2
        have HM2 := hid hm2
        clear hrel2 hm2 hl2 ht2 e12
        go_wp2_with fail
        go_roundw
        case rel => exact HREL2.out
        case measure => have := HLEN.out; have := HM2.out; omega
      · rw [if_neg hd, Nat.add_zero] at hone
        by_cases h0 : n = 0
        · have hfin := HZ.out (by omega)
          have HFIN := hid hfin
          clear hfin
          subst h0
          go_wp2_with fail
          (try simp only [Exit.inBlock, Exit.then]); refine bodyPost_ret (results_none rfl _ _ _) rfl ?_
          exact ⟨rfl, HFIN.out, HT.out⟩
        · have h0' : ¬ ((n : Nat) : Int) = 0 := by omega
          go_wp2_with fail
          refine (pass_any w1 bl bp c q outv n HL.out (by omega) (by omega) (by omega)).mono ?_
          rintro e w2 ⟨rfl, hl2, ht2⟩
          obtain ⟨hrel2, hm2⟩ := HSTEP.out w2 (by rw [hone]; exact hl2) ht2 (by omega)
          have HREL2 := hid hrel2
          have HM2 := hid hm2
          clear hrel2 hm2 hl2 ht2
          go_wp2_with fail
          go_roundw
          case rel => exact HREL2.out
          case measure => have := HLEN.out; have := HM2.out; omega
end Go.Proofs.YtmbppnbekkbibaaGreatDoor
end
