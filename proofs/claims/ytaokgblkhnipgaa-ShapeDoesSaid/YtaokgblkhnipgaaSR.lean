/- The reference's tree of shapes in memory; the contracts of its functions. -/
import Derived.Test.YtaokgblkhnipgaaSF
set_option linter.unusedVariables false
namespace Go.Proofs.Ytaokgblkhnipgaa
open Go.RowKit

theorem el_list : ElemIs Try.prog 41 22 (.slice none 0 0) 1 24 := ⟨Try.underlying41, by kernel_rfl, rfl, by decide⟩

structure RefIs (w : World) (G : Nat → Prop) (br : Nat) (L : List (List Nm)) (R : Nat → Prop) (va : Value) (rows : List Value) : Prop where
  cell : w.heap[br]? = some (.cells #[va] 43 (0, 0))
  row : w.ownsRow 0 22 1 va L.length rows
  lists : ∀ (i : Nat) v l, rows[i]? = some v → L[i]? = some l → SlF w R 1 v (svs l)
  fbr : G br
  fva : ∀ g, va.ownBlock = some g → G g ∧ g ≠ br ∧ ¬ R g
  rbr : ¬ R br
  rf : ∀ k, R k → G k
  lt : ∀ k, G k → k < w.heap.size
  pos : 0 < L.length
def RefAt (w : World) (G : Nat → Prop) (br : Nat) (L : List (List Nm)) : Prop := ∃ R va rows, RefIs w G br L R va rows
theorem RefIs.turn {w w' : World} {F G R : Nat → Prop} {br : Nat} {L : List (List Nm)} {va : Value} {rows : List Value} (h : RefIs w F br L R va rows) (t : Turn G w w') (hd : ∀ g, F g → ¬ G g) : RefIs w' F br L R va rows :=
  ⟨block_turn h.cell t (hd _ h.fbr), own_turn h.row t (fun g hg => hd g (h.fva g hg).1), fun i r l h1 h2 => (h.lists i r l h1 h2).turn t (fun g hg => hd g (h.rf g hg)), h.fbr, h.fva, h.rbr, h.rf, fun k hk => t.lt (h.lt k hk), h.pos⟩
theorem RefAt.turn {w w' : World} {F G : Nat → Prop} {br : Nat} {L : List (List Nm)} (h : RefAt w F br L) (t : Turn G w w') (hd : ∀ g, F g → ¬ G g) : RefAt w' F br L := by
  obtain ⟨R, va, rows, h⟩ := h
  exact ⟨R, va, rows, h.turn t hd⟩
theorem RefAt.lt {w : World} {G : Nat → Prop} {br : Nat} {L : List (List Nm)} (h : RefAt w G br L) : ∀ k, G k → k < w.heap.size := by
  obtain ⟨R, va, rows, h⟩ := h
  exact h.lt
theorem RefIs.read {w : World} {G : Nat → Prop} {br : Nat} {L : List (List Nm)} {R : Nat → Prop} {va : Value} {rows : List Value} (h : RefIs w G br L R va rows) :
    ∃ g c, va = .slice (some ⟨g, 0, none⟩) L.length c ∧ L.length ≤ maxLen ∧ w.cell? ⟨br, 0, none⟩ = some va ∧
      ∀ s : Nat, s < L.length → ∃ v, rows[s]? = some v ∧ w.cell? ⟨g, s, none⟩ = some v ∧ SlF w R 1 v (svs (L.getD s [])) := by
  obtain ⟨g, c, hva, _, hg, hc, hm⟩ := own_form h.row h.pos
  refine ⟨g, c, hva, by omega, ?_, fun s hs => ?_⟩
  · rw [cell_of_row _ _ _ _ _ (0, 0) h.cell]; rfl
  · have hlen : rows.length = L.length := by have := h.row.1; omega
    have hr := List.getElem?_eq_getElem (l := rows) (i := s) (by rw [hlen]; exact hs)
    have c1 := h.row.cells (g := g) (by rw [hva]; rfl) _ _ hr
    rw [plain_add, Nat.zero_add] at c1
    exact ⟨_, hr, c1, h.lists s _ _ hr (getD_get hs)⟩

theorem refnew_tree (w : World) : RefAt ((w.alloc (.cells #[.slice none 0 0] 22)).alloc (.cells #[.slice (some ⟨w.heap.size, 0, none⟩) 1 1] 43))
    (fun k => w.heap.size ≤ k ∧ k < w.heap.size + 2) (w.heap.size + 1) [[]] := by
  have s1 : (w.alloc (.cells #[.slice none 0 0] 22)).heap.size = w.heap.size + 1 := by simp
  have hrow : (w.alloc (.cells #[.slice none 0 0] 22)).ownsRow 0 22 1 (.slice (some ⟨w.heap.size, 0, none⟩) 1 1) 1 [.slice none 0 0] := ⟨rfl, .inr ⟨w.heap.size, 1, #[.slice none 0 0], rfl, Nat.zero_le _, heap_alloc_new w _, Nat.le_refl _, by decide, rfl, rfl⟩⟩
  have hcell := heap_alloc_new (w.alloc (.cells #[.slice none 0 0] 22)) (.cells #[.slice (some ⟨w.heap.size, 0, none⟩) 1 1] 43)
  rw [s1] at hcell
  refine ⟨fun _ => False, _, [.slice none 0 0], hcell, hrow.alloc _, ?_, ⟨by omega, by omega⟩, ?_, id, fun k h => h.elim, ?_, by simp⟩
  · intro i r l h1 h2
    rcases i with _ | i
    · simp at h1 h2
      subst h1 h2
      exact ⟨Sl.nil _ _ _, by simp [Value.ownBlock]⟩
    · simp at h1
  · intro g hg
    simp only [Value.ownBlock, Option.some.injEq] at hg
    subst hg
    exact ⟨⟨by omega, by omega⟩, by omega, id⟩
  · intro k hk
    simp
    omega
theorem refnew_any (w : World) :
    Calls Try.prog 13 #[] w fun e w' => ∃ (G : Nat → Prop) (br : Nat), e = .returned (.pointer (some ⟨br, 0, none⟩)) ∧ RefAt w' G br [[]] ∧ (∀ k, G k → w.heap.size ≤ k) ∧ Below w.heap.size w w' := by
  go_enter Try.func13, Try.ntmps13
  go_wp2_with fail
  go_ret
  exact ⟨_, _, rfl, refnew_tree w, fun k hk => hk.1, ((Below.refl _ _).alloc (Nat.le_refl _) _).alloc (by simp) _⟩

theorem idxOf_first {α : Type} [BEq α] [LawfulBEq α] {l : List α} {x : α} {k : Nat} (hk : k < l.length) (h : x ∉ l.take k) (hx : l[k] = x) : l.idxOf x = k := by
  have e : l = l.take k ++ (l[k] :: l.drop (k + 1)) := by rw [← List.drop_eq_getElem_cons hk, List.take_append_drop]
  rw [e, List.idxOf_append, if_neg h, hx, List.idxOf_cons_self, List.length_take]
  omega
theorem notin_snoc {α : Type} {l : List α} {x : α} {k : Nat} (hk : k < l.length) (h : x ∉ l.take k) (hx : ¬ l[k] = x) : x ∉ l.take (k + 1) := by
  rw [List.take_succ_eq_append_getElem hk, List.mem_append]
  intro hh
  rcases hh with hh | hh
  · exact h hh
  · simp at hh; exact hx hh.symm

set_option maxHeartbeats 400000 in
theorem refslot_any (G : Nat → Prop) (br : Nat) (L : List (List Nm)) (s : Int) (x : Nm) (w : World) (hT : RefAt w G br L) :
    Calls Try.prog 18 #[.pointer (some ⟨br, 0, none⟩), .int .i64 s, sv x] w fun e w' => e = .returned (.tuple #[.int .i64 (slotL L s x).1, .bool (slotL L s x).2]) ∧ w' = w := by
  obtain ⟨R, va, rows, hI⟩ := hT
  obtain ⟨g, c, rfl, hm, hc0, hsh⟩ := hI.read
  unfold maxLen at hm
  by_cases hs : 0 ≤ s ∧ s < L.length
  · obtain ⟨j, rfl⟩ : ∃ j : Nat, s = j := ⟨s.toNat, by omega⟩
    have hj : j < L.length := by omega
    obtain ⟨v, hr, hcv, hsl⟩ := hsh j hj
    have hv1 : ∀ k : Nat, (hk : k < (L.getD j []).length) → x ∉ (L.getD j []).take k → (L.getD j [])[k] = x → slotL L j x = ((k : Int), true) := by
      intro k hk h1 h2
      unfold slotL
      rw [if_pos ⟨hs.1, hs.2, by simp only [Int.toNat_natCast]; rw [← h2]; exact List.getElem_mem hk⟩]
      simp only [Int.toNat_natCast]
      rw [idxOf_first hk h1 h2]
    have hv2 : x ∉ L.getD j [] → slotL L j x = (0, false) := by
      intro h
      unfold slotL
      rw [if_neg (fun hh => h (by simpa using hh.2.2))]
    have hss : Ss w w.heap.size v (L.getD j []) := hsl.1
    clear hsl hsh hI hr
    generalize L.getD j [] = l at *
    generalize slotL L j x = r at *
    obtain ⟨A, c2, rfl, hn2, hc2, hx⟩ := hss.open_
    unfold maxLen at hc2
    go_enter Try.func18, Try.ntmps18
    go_wp2_with fail
    go_loop [8] (fun v8 => ∃ k : Nat, v8 = .int .i64 k ∧ k ≤ l.length ∧ x ∉ l.take k) (fun v8 => l.length - (intOf v8).toNat)
    case atStart => exact ⟨0, rfl, by omega, by simp⟩
    case round =>
      obtain ⟨k, rfl, hk, hnot⟩ := hrel
      by_cases hlt : k < l.length
      · obtain ⟨b, o, rfl, hb, hcell⟩ := hx (by omega)
        have d1 := hcell k hlt
        have e1 := hv1 k hlt hnot
        have e2 := fun h => notin_snoc hlt hnot (x := x) h
        clear hcell hx hv1
        generalize l[k] = X at d1 e1 e2
        by_cases hX : X = x
        · have e3 := e1 hX
          have hq : (X == x) = true := by rw [beq_iff_eq]; exact hX
          clear hX e1 e2 hv2
          subst e3
          go_wp2_with fail
          go_ret2
          exact ⟨rfl, rfl⟩
        · have e3 := e2 hX
          have hq : (X == x) = false := by rw [beq_eq_false_iff_ne]; exact hX
          clear hX e1 e2
          go_wp2_with fail
          go_round
          case rel => exact ⟨k + 1, rfl, by omega, e3⟩
          case measure => simp [intOf]; omega
      · obtain rfl : k = l.length := by omega
        rw [List.take_length] at hnot
        have e3 := hv2 hnot
        clear hv1 hv2
        subst e3
        go_wp2_with fail
        go_ret2
        exact ⟨rfl, rfl⟩
  · have hv : slotL L s x = (0, false) := by unfold slotL; rw [if_neg (by omega)]
    rw [hv]
    clear hv hsh hI
    by_cases h0 : s < 0
    · go_enter Try.func18, Try.ntmps18
      go_wp2_with fail
      go_ret2
      exact ⟨rfl, rfl⟩
    · have h1 : ¬ (s < (L.length : Int)) := by omega
      go_enter Try.func18, Try.ntmps18
      go_wp2_with fail
      go_ret2
      exact ⟨rfl, rfl⟩
end Go.Proofs.Ytaokgblkhnipgaa
