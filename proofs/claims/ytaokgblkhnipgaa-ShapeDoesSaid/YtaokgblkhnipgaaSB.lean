/- The contracts of shape's New, Slot, Names, Len, and of the two functions that compare lists of texts. -/
import Derived.Test.YtaokgblkhnipgaaSA
set_option linter.unusedVariables false
namespace Go.Proofs.Ytaokgblkhnipgaa
open Go.RowKit
open Go.Maps (has IsMap Keyed)

theorem shape_look {w : World} {R : Nat → Prop} {v m : Value} {l : List Nm} (h : ShapeAt w R v m l) {x : Nm} (hx : x.length ≤ maxLen) :
    (Instr.lookup 46 m (sv x) true).run Try.prog w = .ok (.tuple #[.int .i64 (if x ∈ l then ((l.idxOf x : Nat) : Int) else 0), .bool (decide (x ∈ l))]) w := by
  rcases h.2 with ⟨rfl, rfl⟩ | ⟨b, n, D, rfl, _, hown, hD⟩
  · have := Maps.look_nil (P := Try.prog) (w := w) true law_str Try.underlying46 (zero_int w) (key_nm hx)
    simpa using this
  · obtain ⟨c, ps, hrun, hR⟩ := hown.look_ok law_str Try.underlying46 (zero_int w) (plainElem_int Try.underlying3 (by decide)) (key_nm hx)
    obtain ⟨a, rfl, ha, _⟩ := plainElem_int_inv Try.underlying3 hR
    simp only [Prod.mk.injEq] at ha
    obtain ⟨h1, h2⟩ := hD x
    rw [h1] at hrun
    rw [hrun]
    by_cases hxl : x ∈ l
    · rw [h2 _ hxl] at ha
      obtain rfl : ((l.idxOf x : Nat) : Int) = a := by have := ha.1; injection this with this; injection this
      rw [if_pos hxl]
    · rw [Maps.atKey_of_not_has (by rw [h1]; simpa using hxl)] at ha
      obtain rfl : (0 : Int) = a := by have := ha.1; injection this with this; injection this
      rw [if_neg hxl]

theorem new_tree (w : World) : TreeAt (((w.alloc (.cells #[.slice none 0 0, .map none] 48)).alloc (.map #[] 0)).alloc (.cells #[.slice (some ⟨w.heap.size, 0, none⟩) 1 1, .map (some (w.heap.size + 1))] 52))
    (fun k => w.heap.size ≤ k ∧ k < w.heap.size + 3) (w.heap.size + 2) [[]] := by
  have s1 : (w.alloc (.cells #[.slice none 0 0, .map none] 48)).heap.size = w.heap.size + 1 := by simp
  have s2 : ((w.alloc (.cells #[.slice none 0 0, .map none] 48)).alloc (.map #[] 0)).heap.size = w.heap.size + 2 := by simp
  have hrow : (w.alloc (.cells #[.slice none 0 0, .map none] 48)).ownsRow 0 48 2 (.slice (some ⟨w.heap.size, 0, none⟩) 1 1) 1 [.slice none 0 0, .map none] := ⟨rfl, .inr ⟨w.heap.size, 1, #[.slice none 0 0, .map none], rfl, Nat.zero_le _, heap_alloc_new w _, Nat.le_refl _, by decide, rfl, rfl⟩⟩
  have hmap := World.ownsMap_made (H := Unit) (w.alloc (.cells #[.slice none 0 0, .map none] 48)) Try.prog 57 (plainElem Try.prog 3)
  rw [s1] at hmap
  have hcell := heap_alloc_new ((w.alloc (.cells #[.slice none 0 0, .map none] 48)).alloc (.map #[] 0)) (.cells #[.slice (some ⟨w.heap.size, 0, none⟩) 1 1, .map (some (w.heap.size + 1))] 52)
  rw [s2] at hcell
  refine ⟨fun _ => False, w.heap.size + 1, _, _, [(.slice none 0 0, .map none)], hcell, (hrow.alloc _).alloc _, (hmap.alloc _).mono (by simp), steps_new _ _, rfl, ?_, ?_, ?_, ?_, ?_, ?_, ?_, ?_, ?_, good_new⟩
  · intro i r l h1 h2
    rcases i with _ | i
    · simp at h1 h2
      subst h1 h2
      exact ⟨⟨Sl.nil _ _ _, by simp [Value.ownBlock]⟩, .inl ⟨rfl, rfl⟩⟩
    · simp at h1
  · exact ⟨by omega, by omega⟩
  · exact ⟨by omega, by omega⟩
  · omega
  · intro g hg
    simp only [Value.ownBlock, Option.some.injEq] at hg
    subst hg
    exact ⟨⟨by omega, by omega⟩, by omega, by omega, id⟩
  · exact id
  · exact id
  · intro k h; exact h.elim
  · intro k hk
    simp
    omega

theorem new_any (w : World) :
    Calls Try.prog 8 #[] w fun e w' => ∃ (F : Nat → Prop) (bt : Nat), e = .returned (.pointer (some ⟨bt, 0, none⟩)) ∧ TreeAt w' F bt [[]] ∧ (∀ k, F k → w.heap.size ≤ k) ∧ Below w.heap.size w w' := by
  have hmm := @run_makeMap Try.prog
  go_enter Try.func8, Try.ntmps8
  go_wp2_with fail
  go_ret
  exact ⟨_, _, rfl, new_tree w, fun k hk => hk.1, (((Below.refl _ _).alloc (Nat.le_refl _) _).alloc (by simp) _).alloc (by simp; omega) _⟩

theorem slot_any (F : Nat → Prop) (bt : Nat) (L : List (List Nm)) (s : Int) (x : Nm) (w : World) (hT : TreeAt w F bt L) (hx : x.length ≤ maxLen) :
    Calls Try.prog 10 #[.pointer (some ⟨bt, 0, none⟩), .int .i64 s, sv x] w fun e w' => e = .returned (.tuple #[.int .i64 (slotL L s x).1, .bool (slotL L s x).2]) ∧ w' = w := by
  obtain ⟨R, bs, va, D, rows, hI⟩ := hT
  obtain ⟨g, c, rfl, hm, hc0, hc1, hsh⟩ := hI.read
  by_cases hs : 0 ≤ s ∧ s < L.length
  · obtain ⟨k, rfl⟩ : ∃ k : Nat, s = k := ⟨s.toNat, by omega⟩
    have hk : k < L.length := by omega
    obtain ⟨v, m, hr, hcv, hcm, hat⟩ := hsh k hk
    have hlook := shape_look hat hx
    have hv : (if x ∈ L.getD k [] then (((L.getD k []).idxOf x : Nat) : Int) else 0) = (slotL L k x).1 ∧ decide (x ∈ L.getD k []) = (slotL L k x).2 := by
      unfold slotL
      by_cases h : x ∈ L.getD k []
      · rw [if_pos h, if_pos ⟨hs.1, hs.2, by simpa using h⟩]; simpa using h
      · rw [if_neg h, if_neg (fun hh => h (by simpa using hh.2.2))]; simpa using h
    rw [hv.1, hv.2] at hlook
    clear hv
    generalize slotL L k x = r at hlook
    go_enter Try.func10, Try.ntmps10
    go_wp2_with fail
    refine (at_in w bt g _ _ k hc0 hm hk).mono ?_
    rintro e w1 ⟨rfl, rfl⟩
    go_wp2_with fail
    go_ret2
    exact ⟨rfl, rfl⟩
  · go_enter Try.func10, Try.ntmps10
    go_wp2_with fail
    refine (at_out w bt _ _ _ s hc0 hm hs).mono ?_
    rintro e w1 ⟨rfl, rfl⟩
    go_wp2_with fail
    go_ret2
    have : slotL L s x = (0, false) := by unfold slotL; rw [if_neg (by omega)]
    rw [this]
    exact ⟨rfl, rfl⟩
end Go.Proofs.Ytaokgblkhnipgaa
