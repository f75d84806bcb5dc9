/- Codes as bytes, in plain Lean: what is written is read, what is read is written so. -/
import Derived.Test.YtpnggkkfoipfhaaBP
set_option linter.unusedVariables false
namespace Go.Proofs.Ytpnggkkfoipfhaa

mutual
def coH : CoD → Nat
  | .mk _ _ _ f u => max (cosH f) (cosH u) + 1
def cosH : List CoD → Nat
  | [] => 0
  | c :: l => max (coH c) (cosH l)
end
def NumsOk (l : List Int) : Prop := In64 (l.length : Int) ∧ ∀ x ∈ l, In64 x
def TextsOk (l : List Bt) : Prop := In64 (l.length : Int) ∧ ∀ x ∈ l, In64 (x.length : Int)
def NeedsOk (l : List (Bt × Int)) : Prop := In64 (l.length : Int) ∧ ∀ x ∈ l, In64 (x.1.length : Int) ∧ In64 x.2
mutual
def coOk : CoD → Prop
  | .mk t n m f u => NumsOk t ∧ NeedsOk n ∧ TextsOk m ∧ (In64 (f.length : Int) ∧ cosOk f) ∧ (In64 (u.length : Int) ∧ cosOk u)
def cosOk : List CoD → Prop
  | [] => True
  | c :: l => coOk c ∧ cosOk l
end
theorem cosOk_mem : ∀ {l : List CoD}, cosOk l ↔ ∀ x ∈ l, coOk x
  | [] => by simp [cosOk]
  | c :: l => by
    rw [cosOk, cosOk_mem (l := l)]
    simp
theorem cosH_mem : ∀ {l : List CoD} {n : Nat}, cosH l ≤ n ↔ ∀ x ∈ l, coH x ≤ n
  | [], n => by simp [cosH]
  | c :: l, n => by
    rw [cosH, Nat.max_le, cosH_mem (l := l)]
    simp
theorem coE_eq (t : List Int) (n : List (Bt × Int)) (m : List Bt) (f u : List CoD) : coE (.mk t n m f u) = listE putL t ++ (listE needE n ++ (listE textE m ++ (listE coE f ++ listE coE u))) := by
  rw [coE, ← cosE_list, ← cosE_list]
  simp only [List.append_assoc]
theorem listE_pos {α : Type} (e : α → Bt) (l : List α) : 1 ≤ (listE e l).length := by
  unfold listE
  have := (putL_some (l.length : Int)).1
  rw [List.length_append]; omega
theorem textE_pos (s : Bt) : 1 ≤ (textE s).length := by
  unfold textE
  have := (putL_some (s.length : Int)).1
  rw [List.length_append]; omega
theorem needE_pos (n : Bt × Int) : 1 ≤ (needE n).length := by
  unfold needE
  have := textE_pos n.1
  rw [List.length_append]; omega
theorem coE_pos (c : CoD) : 1 ≤ (coE c).length := by
  cases c with
  | mk t n m f u =>
    rw [coE_eq]
    have := listE_pos putL t
    rw [List.length_append]; omega
theorem instrE_pos (i : Int × Int × Int × Int) : 1 ≤ (instrE i).length := by
  unfold instrE
  have := (putL_some i.1).1
  rw [List.length_append]; omega
theorem procE_pos (p : ProcD) : 1 ≤ (procE p).length := by
  unfold procE
  have := (putL_some p.caps).1
  rw [List.length_append]; omega

theorem nums_back {l : List Int} (h : NumsOk l) (t : Bt) : allD numD (listE putL l ++ t) = some (l, t) :=
  all_back l h.1 (fun x _ => (putL_some x).1) (fun x hx => num_back x (h.2 x hx)) t
theorem texts_back {l : List Bt} (h : TextsOk l) (t : Bt) : allD textD (listE textE l ++ t) = some (l, t) :=
  all_back l h.1 (fun x _ => textE_pos x) (fun x hx => text_back x (h.2 x hx)) t
theorem needs_back {l : List (Bt × Int)} (h : NeedsOk l) (t : Bt) : allD needD (listE needE l ++ t) = some (l, t) :=
  all_back l h.1 (fun x _ => needE_pos x) (fun x hx t => and_back (x := x.1) (y := x.2) (text_back x.1 (h.2 x hx).1) (num_back x.2 (h.2 x hx).2) t) t
theorem nums_again : Again (listE putL) (allD numD) NumsOk := all_again num_again
theorem texts_again : Again (listE textE) (allD textD) TextsOk := all_again text_again
theorem need_again : Again needE needD (fun x => In64 (x.1.length : Int) ∧ In64 x.2) := and_again text_again num_again
theorem needs_again : Again (listE needE) (allD needD) NeedsOk := all_again need_again

theorem co_back : ∀ (d : Nat) (c : CoD), coH c ≤ d → coOk c → ∀ t, coD d (coE c ++ t) = some (c, t)
  | 0, .mk t n m f u, h, _, _ => by simp [coH] at h
  | d + 1, .mk tg n m f u, h, hok, t => by
    rw [coH] at h
    rw [coOk] at hok
    obtain ⟨h1, h2, h3, ⟨h4, h5⟩, h6, h7⟩ := hok
    have hf : cosH f ≤ d := by omega
    have hu : cosH u ≤ d := by omega
    have kf : ∀ t, allD (coD d) (listE coE f ++ t) = some (f, t) := all_back f h4 (fun x _ => coE_pos x) (fun x hx => co_back d x (cosH_mem.1 hf x hx) (cosOk_mem.1 h5 x hx))
    have ku : ∀ t, allD (coD d) (listE coE u ++ t) = some (u, t) := all_back u h6 (fun x _ => coE_pos x) (fun x hx => co_back d x (cosH_mem.1 hu x hx) (cosOk_mem.1 h7 x hx))
    rw [coE_eq, coD]
    unfold mapD
    have := and_back (x := tg) (y := (n, m, f, u)) (e := listE putL) (f := fun y : List (Bt × Int) × List Bt × List CoD × List CoD => listE needE y.1 ++ (listE textE y.2.1 ++ (listE coE y.2.2.1 ++ listE coE y.2.2.2))) (nums_back h1)
      (and_back (x := n) (y := (m, f, u)) (e := listE needE) (f := fun y : List Bt × List CoD × List CoD => listE textE y.1 ++ (listE coE y.2.1 ++ listE coE y.2.2)) (needs_back h2)
        (and_back (x := m) (y := (f, u)) (e := listE textE) (f := fun y : List CoD × List CoD => listE coE y.1 ++ listE coE y.2) (texts_back h3)
          (and_back (x := f) (y := u) kf ku))) t
    rw [this]
theorem co_again : ∀ d, Again coE (coD d) (fun c => coOk c ∧ coH c ≤ d)
  | 0 => by intro l x r h; simp [coD] at h
  | d + 1 => by
    have hl := all_again (co_again d)
    have h5 := and_again nums_again (and_again needs_again (and_again texts_again (and_again hl hl)))
    refine map_again (f := fun p : List Int × List (Bt × Int) × List Bt × List CoD × List CoD => CoD.mk p.1 p.2.1 p.2.2.1 p.2.2.2.1 p.2.2.2.2) h5 (fun x => ?_) (fun x hx => ?_)
    · obtain ⟨t, n, m, f, u⟩ := x
      exact coE_eq t n m f u
    · obtain ⟨t, n, m, f, u⟩ := x
      obtain ⟨h1, h2, h3, ⟨h4, h5⟩, h6, h7⟩ := hx
      refine ⟨?_, ?_⟩
      · rw [coOk]
        exact ⟨h1, h2, h3, ⟨h4, cosOk_mem.2 fun x hx => (h5 x hx).1⟩, h6, cosOk_mem.2 fun x hx => (h7 x hx).1⟩
      · rw [coH]
        have a := (cosH_mem (l := f)).2 fun x hx => (h5 x hx).2
        have b := (cosH_mem (l := u)).2 fun x hx => (h7 x hx).2
        simp only at a b ⊢
        omega

def InstrOk (i : Int × Int × Int × Int) : Prop := In64 i.1 ∧ In64 i.2.1 ∧ In64 i.2.2.1 ∧ In64 i.2.2.2
def ProcOk (p : ProcD) : Prop := In64 p.caps ∧ In64 p.regs ∧ In64 (p.code.length : Int) ∧ ∀ i ∈ p.code, InstrOk i
structure CodeOk (c : CodeD) : Prop where
  ints : NumsOk c.ints
  strs : TextsOk c.strs
  shapes : In64 (c.shapes.length : Int) ∧ ∀ x ∈ c.shapes, TextsOk x
  cos : In64 (c.cos.length : Int) ∧ ∀ x ∈ c.cos, coOk x
  procs : In64 (c.procs.length : Int) ∧ ∀ x ∈ c.procs, ProcOk x
  main : In64 c.main
theorem instr_back {i : Int × Int × Int × Int} (h : InstrOk i) (t : Bt) : instrD (instrE i ++ t) = some (i, t) :=
  and_back (x := i.1) (y := i.2) (f := fun y : Int × Int × Int => putL y.1 ++ (putL y.2.1 ++ putL y.2.2)) (num_back _ h.1)
    (and_back (x := i.2.1) (y := i.2.2) (f := fun y : Int × Int => putL y.1 ++ putL y.2) (num_back _ h.2.1) (and_back (num_back _ h.2.2.1) (num_back _ h.2.2.2))) t
theorem instr_again : Again instrE instrD InstrOk := and_again num_again (and_again num_again (and_again num_again num_again))
theorem proc_back {p : ProcD} (h : ProcOk p) (t : Bt) : procD (procE p ++ t) = some (p, t) := by
  unfold procD mapD procE
  have := and_back (x := p.caps) (y := (p.regs, p.code)) (e := putL) (f := fun y : Int × List (Int × Int × Int × Int) => putL y.1 ++ listE instrE y.2) (num_back _ h.1)
    (and_back (x := p.regs) (y := p.code) (num_back _ h.2.1) (all_back p.code h.2.2.1 (fun x _ => instrE_pos x) (fun x hx => instr_back (h.2.2.2 x hx)))) t
  rw [this]
theorem proc_again : Again procE procD ProcOk := by
  refine map_again (f := fun p : Int × Int × List (Int × Int × Int × Int) => ProcD.mk p.1 p.2.1 p.2.2) (and_again num_again (and_again num_again (all_again instr_again))) (fun x => rfl) (fun x hx => hx)
def mergeE (b : Bool) : Bt := putL (if b then 1 else 0)
theorem in64_small (n : Int) (h : 0 ≤ n ∧ n ≤ 1) : In64 n := by unfold In64; omega
theorem merge_back (b : Bool) (t : Bt) : mergeD (mergeE b ++ t) = some (b, t) := by
  unfold mergeD mergeE
  cases b with
  | true => rw [if_pos rfl, num_back _ (in64_small 1 (by omega))]; rfl
  | false => rw [if_neg (by simp), num_back _ (in64_small 0 (by omega))]; rfl
theorem merge_again : Again mergeE mergeD (fun _ => True) := by
  intro l x r h
  unfold mergeD at h
  split at h
  · cases h
  · rename_i n r1 hn
    split at h
    · rename_i h01
      injection h with h
      simp only [Prod.mk.injEq] at h
      obtain ⟨rfl, rfl⟩ := h
      obtain ⟨a, _⟩ := num_again _ _ _ hn
      refine ⟨?_, trivial⟩
      unfold mergeE
      rcases h01 with rfl | rfl
      · exact a
      · exact a
    · cases h
theorem codeE_eq (c : CodeD) : codeE c = mergeE c.merge ++ (putL c.main ++ (listE putL c.ints ++ (listE textE c.strs ++ (listE (listE textE) c.shapes ++ (listE coE c.cos ++ listE procE c.procs))))) := by
  unfold codeE mergeE
  rw [← cosE_list]
  simp only [List.append_assoc]
theorem code_back {c : CodeD} (h : CodeOk c) (hd : ∀ x ∈ c.cos, coH x ≤ 40) (t : Bt) : codeD (codeE c ++ t) = some (c, t) := by
  rw [codeE_eq]
  unfold codeD mapD
  have := and_back (x := c.merge) (y := (c.main, c.ints, c.strs, c.shapes, c.cos, c.procs)) (e := mergeE) (f := fun y : Int × List Int × List Bt × List (List Bt) × List CoD × List ProcD => putL y.1 ++ (listE putL y.2.1 ++ (listE textE y.2.2.1 ++ (listE (listE textE) y.2.2.2.1 ++ (listE coE y.2.2.2.2.1 ++ listE procE y.2.2.2.2.2))))) (merge_back _)
    (and_back (x := c.main) (y := (c.ints, c.strs, c.shapes, c.cos, c.procs)) (e := putL) (f := fun y : List Int × List Bt × List (List Bt) × List CoD × List ProcD => listE putL y.1 ++ (listE textE y.2.1 ++ (listE (listE textE) y.2.2.1 ++ (listE coE y.2.2.2.1 ++ listE procE y.2.2.2.2)))) (num_back _ h.main)
      (and_back (x := c.ints) (y := (c.strs, c.shapes, c.cos, c.procs)) (e := listE putL) (f := fun y : List Bt × List (List Bt) × List CoD × List ProcD => listE textE y.1 ++ (listE (listE textE) y.2.1 ++ (listE coE y.2.2.1 ++ listE procE y.2.2.2))) (nums_back h.ints)
        (and_back (x := c.strs) (y := (c.shapes, c.cos, c.procs)) (e := listE textE) (f := fun y : List (List Bt) × List CoD × List ProcD => listE (listE textE) y.1 ++ (listE coE y.2.1 ++ listE procE y.2.2)) (texts_back h.strs)
          (and_back (x := c.shapes) (y := (c.cos, c.procs)) (e := listE (listE textE)) (f := fun y : List CoD × List ProcD => listE coE y.1 ++ listE procE y.2) (all_back c.shapes h.shapes.1 (fun x _ => listE_pos textE x) (fun x hx => texts_back (h.shapes.2 x hx)))
            (and_back (x := c.cos) (y := c.procs) (all_back c.cos h.cos.1 (fun x _ => coE_pos x) (fun x hx => co_back 40 x (hd x hx) (h.cos.2 x hx))) (all_back c.procs h.procs.1 (fun x _ => procE_pos x) (fun x hx => proc_back (h.procs.2 x hx)))))))) t
  rw [this]
theorem code_again : Again codeE codeD (fun c => CodeOk c ∧ ∀ x ∈ c.cos, coH x ≤ 40) := by
  refine map_again (f := fun p : Bool × Int × List Int × List Bt × List (List Bt) × List CoD × List ProcD => CodeD.mk p.2.2.1 p.2.2.2.1 p.2.2.2.2.1 p.2.2.2.2.2.1 p.2.2.2.2.2.2 p.2.1 p.1) (and_again merge_again (and_again num_again (and_again nums_again (and_again texts_again (and_again (all_again texts_again) (and_again (all_again (co_again 40)) (all_again proc_again))))))) (fun x => ?_) (fun x hx => ?_)
  · obtain ⟨g, m, i, s, h, c, p⟩ := x
    exact codeE_eq _
  · obtain ⟨g, m, i, s, h, c, p⟩ := x
    obtain ⟨_, h1, h2, h3, h4, h5, h6⟩ := hx
    exact ⟨⟨h2, h3, h4, ⟨h5.1, fun x hx => (h5.2 x hx).1⟩, h6, h1⟩, fun x hx => (h5.2 x hx).2⟩
theorem whole_back {c : CodeD} (h : CodeOk c) (hd : ∀ x ∈ c.cos, coH x ≤ 40) : wholeD (codeE c) = some c := by
  unfold wholeD
  have := code_back h hd []
  rw [List.append_nil] at this
  rw [this]
theorem whole_again {l : Bt} {c : CodeD} (h : wholeD l = some c) : l = codeE c ∧ CodeOk c ∧ ∀ x ∈ c.cos, coH x ≤ 40 := by
  unfold wholeD at h
  split at h
  · rename_i c' hc
    injection h with h
    subst h
    obtain ⟨a, b⟩ := code_again _ _ _ hc
    rw [List.append_nil] at a
    exact ⟨a, b⟩
  · cases h
theorem whole_more {c : CodeD} (h : CodeOk c) (hd : ∀ x ∈ c.cos, coH x ≤ 40) {t : Bt} (ht : t ≠ []) : wholeD (codeE c ++ t) = none := by
  unfold wholeD
  rw [code_back h hd t]
  cases t with
  | nil => exact absurd rfl ht
  | cons a t => rfl
theorem whole_cut {c : CodeD} (h : CodeOk c) (hd : ∀ x ∈ c.cos, coH x ≤ 40) {k : Nat} (hk : k < (codeE c).length) : wholeD ((codeE c).take k) = none := by
  cases hq : wholeD ((codeE c).take k) with
  | none => rfl
  | some c' =>
    obtain ⟨h1, h2, h3⟩ := whole_again hq
    have h4 := whole_back h hd
    have h5 : codeE c = codeE c' ++ (codeE c).drop k := by rw [← h1, List.take_append_drop]
    rw [h5, whole_more h2 h3 (by intro e; have := congrArg List.length e; rw [List.length_drop] at this; simp at this; omega)] at h4
    cases h4
end Go.Proofs.Ytpnggkkfoipfhaa
