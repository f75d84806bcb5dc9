/- A tree that has grown by one shape. -/
import Derived.Test.YtaokgblkhnipgaaSC
set_option linter.unusedVariables false
namespace Go.Proofs.Ytaokgblkhnipgaa
open Go.RowKit
open Go.Maps (has IsMap Keyed)

theorem wf_nat {s : Nat} (h : s < 9223372036854775808) : (Lit.int .i64 s).wf = true := by
  have e1 : IntKind.i64.min = -9223372036854775808 := by decide
  have e2 : IntKind.i64.max = 9223372036854775807 := by decide
  simp [Lit.wf, e1, e2]
  omega
theorem steps_look {w : World} {F R : Nat → Prop} {bt bs : Nat} {L : List (List Nm)} {va : Value} {D : Dm} {rows : List (Value × Value)} (h : TreeIs w F bt L R bs va D rows) {s : Nat} {x : Nm} (hs : s < L.length) (hm : L.length ≤ 8796093022208) (hx : x.length ≤ maxLen) :
    (Instr.lookup 50 (.map (some bs)) (stepV s x) true).run Try.prog w = .ok (.tuple #[.int .i64 (if L.getD s [] ++ [x] ∈ L then ((L.idxOf (L.getD s [] ++ [x]) : Nat) : Int) else 0), .bool (decide (L.getD s [] ++ [x] ∈ L))]) w := by
  obtain ⟨kl, hk⟩ := key_step s x (wf_nat (by omega)) hx
  obtain ⟨c, ps, hrun, hR⟩ := h.steps.look_ok law_step Try.underlying50 (zero_int w) (plainElem_int Try.underlying3 (by decide)) hk
  obtain ⟨a, rfl, ha, _⟩ := plainElem_int_inv Try.underlying3 hR
  simp only [Prod.mk.injEq] at ha
  obtain ⟨h1, h2⟩ := h.holds s x kl hk
  rw [hrun]
  by_cases hin : L.getD s [] ++ [x] ∈ L
  · have hi := List.idxOf_lt_length_iff.2 hin
    have hget : L[L.idxOf (L.getD s [] ++ [x])]? = some (L.getD s [] ++ [x]) := by
      rw [List.getElem?_eq_getElem hi, List.getElem_idxOf hi]
    obtain ⟨e1, e2⟩ := h1 _ _ (getD_get hs) hget
    rw [e2] at ha
    rw [e1, if_pos hin]
    obtain rfl : ((L.idxOf (L.getD s [] ++ [x]) : Nat) : Int) = a := by have := ha.1; injection this with this; injection this
    rw [decide_eq_true hin]
  · have e1 := h2 (fun l hl => by rw [getD_get hs] at hl; rw [← Option.some.inj hl]; exact hin)
    rw [Maps.atKey_of_not_has e1] at ha
    rw [e1, if_neg hin]
    obtain rfl : (0 : Int) = a := by have := ha.1; injection this with this; injection this
    rw [decide_eq_false hin]

theorem turn_set (w : World) (b i : Nat) (v : Value) : Turn (fun k => k = b) w (w.setCell ⟨b, i, none⟩ v) :=
  ⟨rfl, rfl, rfl, by simp, fun k _ hF => heap_setCell_other w _ k v hF⟩

theorem tree_grown {F R R8 : Nat → Prop} {bt bs : Nat} {L : List (List Nm)} {va : Value} {D D' : Dm} {rows : List (Value × Value)} {w w8 w8a w9 : World} {nx : List Nm} {v3 m3 v' : Value}
    (hI : TreeIs w F bt L R bs va D rows) (hT8 : Turn (fun k => k = bs) w w8)
    (hsteps : w8.ownsMap Try.prog 57 (plainElem Try.prog 3) bs (L.length + 1) D') (hold : Steps Try.prog 57 D' (L ++ [nx])) (hgood : Good (L ++ [nx]))
    (hsh : ShapeAt w8 R8 v3 m3 nx) (hR8 : ∀ k, R8 k → w.heap.size ≤ k ∧ k < w8.heap.size)
    (hb : Below w8.heap.size w8 w8a)
    (hrow : w9.ownsRow 0 48 2 v' (L.length + 1) ((rows.flatMap fun r => [r.1, r.2]) ++ [v3, m3])) (hg : w8a.grownBy w9 va.ownBlock) (hw : v'.ownBlock = va.ownBlock ∨ v'.ownBlock = some w8a.heap.size) :
    ∃ F' : Nat → Prop, TreeAt (w9.setCell ⟨bt, 0, none⟩ v') F' bt (L ++ [nx]) ∧ Turn F w (w9.setCell ⟨bt, 0, none⟩ v') ∧ ∀ k, F' k → F k ∨ w.heap.size ≤ k := by
  have t9 : Turn (fun k => va.ownBlock = some k) w8a w9 := Turn.of_grown hg (fun k h => h)
  have t89 : Turn (fun k => va.ownBlock = some k) w8 w9 := (Turn.of_below (F := fun k => va.ownBlock = some k) hb).trans t9 (fun _ _ h => h)
  have tS := turn_set w9 bt 0 v'
  have t8' : Turn (fun k => va.ownBlock = some k ∨ k = bt) w8 (w9.setCell ⟨bt, 0, none⟩ v') := (t89.mono (fun _ _ h => .inl h)).trans tS (fun _ _ h => .inr h)
  have tw : Turn (fun k => k = bs ∨ va.ownBlock = some k ∨ k = bt) w (w9.setCell ⟨bt, 0, none⟩ v') := (hT8.mono (fun _ _ h => .inl h)).trans t8' (fun _ _ h => .inr h)
  have tw9 : Turn (fun k => k = bs ∨ va.ownBlock = some k) w w9 := (hT8.mono (fun _ _ h => .inl h)).trans t89 (fun _ _ h => .inr h)
  have hbt := hI.lt bt hI.fbt
  have hbs := hI.lt bs hI.fbs
  have hva : ∀ g, va.ownBlock = some g → g < w.heap.size := fun g h => hI.lt g (hI.fva g h).1
  have s8 := hT8.size
  have s8a := hb.size
  have s9 := t9.size
  have e1 : (rows ++ [(v3, m3)]).flatMap (fun r => [r.1, r.2]) = (rows.flatMap fun r => [r.1, r.2]) ++ [v3, m3] := by simp
  have hlen : (L ++ [nx]).length = L.length + 1 := by simp
  have hRo : ∀ k, R k → ¬ (k = bs ∨ va.ownBlock = some k ∨ k = bt) := by
    intro k hk h
    rcases h with h | h | h
    · subst h; exact hI.rbs hk
    · exact (hI.fva k h).2.2.2 hk
    · subst h; exact hI.rbt hk
  have hRn : ∀ k, R8 k → ¬ (va.ownBlock = some k ∨ k = bt) := by
    intro k hk h
    have := (hR8 k hk).1
    rcases h with h | h
    · have := hva k h; omega
    · omega
  refine ⟨fun k => F k ∨ (w.heap.size ≤ k ∧ k < w9.heap.size), ⟨fun k => R k ∨ R8 k, bs, v', D', rows ++ [(v3, m3)], ?_, ?_, ?_, hold, ?_, ?_, .inl hI.fbt, .inl hI.fbs, hI.ne, ?_, ?_, ?_, ?_, ?_, hgood⟩, ?_, ?_⟩
  · have h9 := block_turn hI.cell tw9 (fun h => by
      rcases h with h | h
      · exact hI.ne h
      · exact (hI.fva bt h).2.1 rfl)
    exact heap_setCell_same w9 bt 0 _ _ v' h9
  · rw [hlen, e1]
    refine own_turn hrow tS (fun g hg' h => ?_)
    subst h
    rcases hw with h | h
    · exact (hI.fva g (h ▸ hg')).2.1 rfl
    · rw [h] at hg'; injection hg' with hg'; omega
  · rw [hlen]
    refine map_turn hsteps t8' (fun h => ?_)
    rcases h with h | h
    · exact (hI.fva bs h).2.2.1 rfl
    · exact hI.ne h.symm
  · rw [hlen, List.length_append, hI.len]; rfl
  · intro i r l h1 h2
    rcases Nat.lt_or_ge i L.length with hi | hi
    · rw [List.getElem?_append_left (by rw [hI.len]; exact hi)] at h1
      rw [List.getElem?_append_left hi] at h2
      exact ((hI.shapes i r l h1 h2).turn tw hRo).mono (fun g h => .inl h)
    · rw [List.getElem?_append_right (by rw [hI.len]; exact hi), hI.len] at h1
      rw [List.getElem?_append_right hi] at h2
      rcases Nat.eq_zero_or_pos (i - L.length) with h0 | h0
      · rw [h0] at h1 h2
        simp at h1 h2
        subst h1 h2
        exact (hsh.turn t8' hRn).mono (fun g h => .inr h)
      · rw [List.getElem?_eq_none (by simp; omega)] at h2; cases h2
  · intro g hg'
    have hlt := (hrow.lt g hg').2
    rcases hw with h | h
    · rw [h] at hg'
      obtain ⟨a, b, c, d⟩ := hI.fva g hg'
      refine ⟨.inl a, b, c, fun hh => hh.elim d (fun h8 => ?_)⟩
      have := (hR8 g h8).1
      have := hva g hg'
      omega
    · rw [h] at hg'
      injection hg' with hg'
      refine ⟨.inr ⟨by omega, hlt⟩, by omega, by omega, fun hh => hh.elim (fun hR => ?_) (fun h8 => ?_)⟩
      · have := hI.lt g (hI.rf g hR); omega
      · have := (hR8 g h8).2; omega
  · intro hh
    rcases hh with h | h
    · exact hI.rbt h
    · have := (hR8 bt h).1; omega
  · intro hh
    rcases hh with h | h
    · exact hI.rbs h
    · have := (hR8 bs h).1; omega
  · intro k hk
    rcases hk with h | h
    · exact .inl (hI.rf k h)
    · have := hR8 k h
      exact .inr ⟨this.1, by omega⟩
  · intro k hk
    rw [World.size_setCell]
    rcases hk with h | h
    · have := hI.lt k h; omega
    · exact h.2
  · refine tw.mono (fun k _ h => ?_)
    rcases h with h | h | h
    · subst h; exact hI.fbs
    · exact (hI.fva k h).1
    · subst h; exact hI.fbt
  · intro k hk
    rcases hk with h | h
    · exact .inl h
    · exact .inr h.1
end Go.Proofs.Ytaokgblkhnipgaa
