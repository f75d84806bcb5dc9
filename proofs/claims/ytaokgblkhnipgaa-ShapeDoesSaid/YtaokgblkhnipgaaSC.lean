/- The contracts of shape's Names and Len, and of the two functions that compare lists of texts. -/
import Derived.Test.YtaokgblkhnipgaaSB
import Derived.RegionTactic
import Derived.Deep.QuietTactic
set_option linter.unusedVariables false
namespace Go.Proofs.Ytaokgblkhnipgaa
open Go.RowKit
open Go.Maps (has IsMap Keyed)

theorem good_len {L : List (List Nm)} (h : Good L) {s : Nat} (hs : s < L.length) : (L.getD s []).length < L.length := (h.2.2.2 _ (getD_mem hs)).2.1

theorem names_any (F : Nat → Prop) (bt : Nat) (L : List (List Nm)) (s : Int) (w : World) (hT : TreeAt w F bt L) (hL : L.length ≤ 8796093022208) :
    Calls Try.prog 11 #[.pointer (some ⟨bt, 0, none⟩), .int .i64 s] w fun e w' => ∃ v', e = .returned v' ∧ OwnS w' w.heap.size 9 v' (namesL L s) ∧ Below w.heap.size w w' := by
  have hgood := hT.good
  obtain ⟨R, bs, va, D, rows, hI⟩ := hT
  obtain ⟨g, c, rfl, hm, hc0, hc1, hsh⟩ := hI.read
  by_cases hs : 0 ≤ s ∧ s < L.length
  · obtain ⟨k, rfl⟩ : ∃ k : Nat, s = k := ⟨s.toNat, by omega⟩
    have hk : k < L.length := by omega
    obtain ⟨v, m, hr, hcv, hcm, hat⟩ := hsh k hk
    have hv : namesL L k = L.getD k [] := by unfold namesL; rw [if_pos hs]; rfl
    have hlen := good_len hgood hk
    rw [hv]
    clear hv
    have hsl : Ss w w.heap.size v (L.getD k []) := hat.1.1
    generalize L.getD k [] = l at hsl hlen
    go_enter Try.func11, Try.ntmps11
    go_wp2_with fail
    refine (at_in w bt g _ _ k hc0 hm hk).mono ?_
    rintro e w1 ⟨rfl, rfl⟩
    go_wp2_with fail
    refine (clone_s v l _ hsl (by omega)).mono ?_
    rintro e w2 ⟨v2, rfl, hown, hb⟩
    go_wp2_with fail
    go_ret
    exact ⟨_, rfl, hown, hb⟩
  · have hv : namesL L s = [] := by unfold namesL; rw [if_neg hs]
    rw [hv]
    clear hv
    go_enter Try.func11, Try.ntmps11
    go_wp2_with fail
    refine (at_out w bt _ _ _ s hc0 hm hs).mono ?_
    rintro e w1 ⟨rfl, rfl⟩
    go_wp2_with fail
    go_ret
    exact ⟨_, rfl, OwnS.nil _ _ _, Below.refl _ _⟩

theorem len_any (F : Nat → Prop) (bt : Nat) (L : List (List Nm)) (w : World) (hT : TreeAt w F bt L) :
    Calls Try.prog 17 #[.pointer (some ⟨bt, 0, none⟩)] w fun e w' => e = .returned (.int .i64 (L.length : Nat)) ∧ w' = w := by
  obtain ⟨R, bs, va, D, rows, hI⟩ := hT
  obtain ⟨g, c, rfl, hm, hc0, hc1, hsh⟩ := hI.read
  unfold maxLen at hm
  go_enter Try.func17, Try.ntmps17
  go_wp2_with fail
  go_ret
  exact ⟨rfl, rfl⟩

theorem take_snoc_eq {l m : List Nm} {k : Nat} (h1 : k < l.length) (h2 : k < m.length) (h : l.take k = m.take k) (hx : l[k] = m[k]) : l.take (k + 1) = m.take (k + 1) := by
  rw [List.take_succ_eq_append_getElem h1, List.take_succ_eq_append_getElem h2, h, hx]

theorem texts_any (v1 v2 : Value) (l m : List Nm) (w : World) (h1 : Ss w w.heap.size v1 l) (h2 : Ss w w.heap.size v2 m) :
    Calls Try.prog 12 #[v1, v2] w fun e w' => e = .returned (.bool (decide (l = m))) ∧ Below w.heap.size w w' := by
  obtain ⟨A1, c1, rfl, hn1, hc1, hx1⟩ := h1.open_
  obtain ⟨A2, c2, rfl, hn2, hc2, hx2⟩ := h2.open_
  unfold maxLen at hc1 hc2
  by_cases hlen : l.length = m.length
  · have ht : ((l.length : Int) != (m.length : Int)) = false := by rw [bne_eq_false_iff_eq]; omega
    have HL := hid hlen
    clear hlen
    go_enter Try.func12, Try.ntmps12
    go_wp2_with fail
    go_loopw [5] (fun v5 wr => ∃ k : Nat, v5 = .int .i64 k ∧ k ≤ l.length ∧ l.take k = m.take k ∧ Below w.heap.size w wr) (fun v5 _ => l.length - (intOf v5).toNat)
    case atStart => exact ⟨0, rfl, by omega, rfl, Below.refl _ _⟩
    case round =>
      obtain ⟨k, rfl, hk, hpre, hb⟩ := hrel
      by_cases hlt : k < l.length
      · have hlt2 : k < m.length := by have := HL.out; omega
        obtain ⟨b1, o1, rfl, hb1, hcell1⟩ := hx1 (by omega)
        obtain ⟨b2, o2, rfl, hb2, hcell2⟩ := hx2 (by omega)
        have d1 := (hb.cell (p := ⟨b1, o1 + k, none⟩) hb1).trans (hcell1 k hlt)
        have d2 := (hb.cell (p := ⟨b2, o2 + k, none⟩) hb2).trans (hcell2 k hlt2)
        have hsame := take_snoc_eq hlt hlt2 hpre
        have hdiff : l[k] ≠ m[k] → l ≠ m := fun h e => h (by subst e; rfl)
        clear hcell1 hcell2 hx1 hx2 h1 h2 hpre
        generalize hX : l[k] = X at d1 hsame hdiff
        generalize hY : m[k] = Y at d2 hsame hdiff
        clear hX hY
        by_cases hXY : X = Y
        · subst hXY
          go_wp2_with fail
          go_quiet (fail)
          go_wp2_with fail
          go_roundw
          case rel => exact ⟨k + 1, rfl, by omega, hsame trivial, hb.trans ((below_drawn wr _).mono hb.size)⟩
          case measure => simp [intOf]; omega
        · have hb3 := hdiff hXY
          have hq : (X == Y) = false := by rw [beq_eq_false_iff_ne]; exact hXY
          go_wp2_with fail
          go_quiet (fail)
          go_wp2_with fail
          go_ret
          exact ⟨by simp [hb3], hb.trans ((below_drawn wr _).mono hb.size)⟩
      · obtain rfl : k = l.length := by omega
        have heq : l = m := by
          have h := hpre
          rw [List.take_length, HL.out, List.take_length] at h; exact h
        subst heq
        go_wp2_with fail
        go_ret
        exact ⟨by simp, hb⟩
  · have ht : ((l.length : Int) != (m.length : Int)) = true := by rw [bne_iff_ne]; omega
    have hne : l ≠ m := fun h => hlen (by rw [h])
    go_enter Try.func12, Try.ntmps12
    go_wp2_with fail
    go_ret
    exact ⟨by simp [hne], Below.refl _ _⟩
end Go.Proofs.Ytaokgblkhnipgaa
