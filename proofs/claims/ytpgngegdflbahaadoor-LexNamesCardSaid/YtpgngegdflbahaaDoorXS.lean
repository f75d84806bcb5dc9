/- LexNames walked. -/
import Derived.Test.YtpgngegdflbahaaDoorXR
set_option linter.unusedVariables false
namespace Go.Proofs.YtpgngegdflbahaaDoor
open Go.RowKit

set_option maxRecDepth 100000 in
theorem words_no : (wordsL.all fun x => !nameL x && decide (x.length ≤ 10)) = true := by kernel_rfl

set_option maxRecDepth 100000 in
set_option maxHeartbeats 2000000 in
theorem lexNames_any (nm : ByteArray) (w : World) (hn : nm.size ≤ 140737488351232) (hX : LaidX w) :
    Calls Tryd.prog 6 #[.string nm] w fun e w' => e = .returned (.bool true) ∧ Below w.heap.size w w' := by
  obtain ⟨s, hs0, hsl⟩ : ∃ s : Bt, Value.string nm = sv s ∧ s.length ≤ 281474976710656 := ⟨nm.data.toList, by show Value.string nm = Value.string ⟨nm.data.toList.toArray⟩; simp, by
    have e : nm.data.toList.length = nm.size := Array.length_toList
    omega⟩
  rw [hs0]
  clear hs0 hn
  obtain ⟨L, hL⟩ : ∃ L, L = wordsL := ⟨_, rfl⟩
  have hno : ∀ x ∈ L, nameL x = false ∧ x.length ≤ 10 := by
    intro x hx
    rw [hL] at hx
    have := List.all_eq_true.1 words_no x hx
    simp only [Bool.and_eq_true, Bool.not_eq_true', decide_eq_true_eq] at this
    exact this
  go_enter Tryd.func6, Tryd.ntmps6
  go_wp2_with fail
  refine (awake_any _ hX).mono ?_
  rintro e w1 ⟨rfl, hb1⟩
  go_wp2_with fail
  refine (lexwords_any _ (hX.below hb1)).mono ?_
  rintro e w2 ⟨v2, rfl, hs2, hb2⟩
  have hB2 := bthen hb1 hb2
  go_wp2_with fail
  refine (rwords_any _).mono ?_
  rintro e w3 ⟨v3, rfl, hs3, hb3⟩
  have hB3 := bthen hB2 hb3
  have hs2' := (hs2.below hb3).more hb3.size
  rw [← hL] at hs2' hs3
  clear hb1 hs2 hb2 hB2 hb3 hL
  obtain ⟨A1, c1, rfl, _, hc1, hx1⟩ := hs2'.open_
  obtain ⟨A2, c2, rfl, _, hc2, hx2⟩ := hs3.open_
  unfold maxLen at hc1 hc2
  have HX1 := hid hx1
  have HX2 := hid hx2
  have HNO := hid hno
  clear hx1 hx2 hs2' hs3 hno
  go_wp2_with fail
  go_loopw [6] (fun v6 wr => ∃ k : Nat, v6 = .int .i64 k ∧ k ≤ L.length ∧ Below w3.heap.size w3 wr) (fun v6 _ => L.length - (intOf v6).toNat)
  case atStart => exact ⟨0, rfl, by omega, Below.refl _ _⟩
  case round =>
    obtain ⟨k, rfl, hk, hbr⟩ := hrel
    have hB : Below w.heap.size w wr := hB3.trans (hbr.mono hB3.size)
    by_cases hlt : k < L.length
    · obtain ⟨b1, o1, rfl, hb1, hcell1⟩ := HX1.out (by omega)
      obtain ⟨b2, o2, rfl, hb2, hcell2⟩ := HX2.out (by omega)
      have d1 := (hbr.cell (p := ⟨b1, o1 + k, none⟩) hb1).trans (hcell1 k hlt)
      have d2 := (hbr.cell (p := ⟨b2, o2 + k, none⟩) hb2).trans (hcell2 k hlt)
      obtain ⟨hn0, hn1⟩ := HNO.out _ (List.getElem_mem hlt)
      clear hcell1 hcell2
      generalize L[k] = X at *
      have hS0 : wr.drew.cell? ⟨b1, o1 + k, none⟩ = some (sv X) ∧ wr.drew.cell? ⟨b2, o2 + k, none⟩ = some (sv X) := ⟨d1, d2⟩
      have hbd : Below wr.heap.size wr wr.drew := below_drawn wr 1
      go_wp2_with fail
      refine wp_region_held_drew (S := fun w' => w'.cell? ⟨b1, o1 + k, none⟩ = some (sv X) ∧ w'.cell? ⟨b2, o2 + k, none⟩ = some (sv X)) (by kernel_rfl) hS0 (fun _ => ?_)
      try simp only [Act.put, List.getElem_toArray, List.getElem_cons_zero, List.getElem_cons_succ, List.setIfInBounds_toArray, List.set_cons_zero, List.set_cons_succ]
      refine wpAnyH_take (i := 0) (v := (.slice (some ⟨b1, o1, none⟩) L.length c1)) rfl (by kernel_rfl) (by kernel_rfl) (by kernel_rfl) (fun _ _ _ h => h) (Or.inl ⟨by kernel_rfl, by intro w hSw; obtain ⟨hSw0, hSw1⟩ := hSw; go_simp⟩) hS0 ?_
      try simp only [Act.put, List.getElem_toArray, List.getElem_cons_zero, List.getElem_cons_succ, List.setIfInBounds_toArray, List.set_cons_zero, List.set_cons_succ]
      refine wpAnyH_take (i := 1) (v := (.int .i64 k)) rfl (by kernel_rfl) (by kernel_rfl) (by kernel_rfl) (fun _ _ _ h => h) (Or.inl ⟨by kernel_rfl, by intro w hSw; obtain ⟨hSw0, hSw1⟩ := hSw; go_simp⟩) hS0 ?_
      try simp only [Act.put, List.getElem_toArray, List.getElem_cons_zero, List.getElem_cons_succ, List.setIfInBounds_toArray, List.set_cons_zero, List.set_cons_succ]
      refine wpAnyH_take (i := 2) (v := (.pointer (some ⟨b1, o1 + k, none⟩))) rfl (by kernel_rfl) (by kernel_rfl) (by kernel_rfl) (fun _ _ _ h => h) (Or.inl ⟨by kernel_rfl, by intro w hSw; obtain ⟨hSw0, hSw1⟩ := hSw; go_simp⟩) hS0 ?_
      try simp only [Act.put, List.getElem_toArray, List.getElem_cons_zero, List.getElem_cons_succ, List.setIfInBounds_toArray, List.set_cons_zero, List.set_cons_succ]
      refine wpAnyH_take (i := 3) (v := (sv X)) rfl (by kernel_rfl) (by kernel_rfl) (by kernel_rfl) (fun _ _ _ h => h) (Or.inl ⟨by kernel_rfl, by intro w hSw; obtain ⟨hSw0, hSw1⟩ := hSw; go_simp⟩) hS0 ?_
      try simp only [Act.put, List.getElem_toArray, List.getElem_cons_zero, List.getElem_cons_succ, List.setIfInBounds_toArray, List.set_cons_zero, List.set_cons_succ]
      refine wpAnyH_take (i := 4) (v := (.slice (some ⟨b2, o2, none⟩) L.length c2)) rfl (by kernel_rfl) (by kernel_rfl) (by kernel_rfl) (fun _ _ _ h => h) (Or.inl ⟨by kernel_rfl, by intro w hSw; obtain ⟨hSw0, hSw1⟩ := hSw; go_simp⟩) hS0 ?_
      try simp only [Act.put, List.getElem_toArray, List.getElem_cons_zero, List.getElem_cons_succ, List.setIfInBounds_toArray, List.set_cons_zero, List.set_cons_succ]
      refine wpAnyH_take (i := 5) (v := (.int .i64 k)) rfl (by kernel_rfl) (by kernel_rfl) (by kernel_rfl) (fun _ _ _ h => h) (Or.inl ⟨by kernel_rfl, by intro w hSw; obtain ⟨hSw0, hSw1⟩ := hSw; go_simp⟩) hS0 ?_
      try simp only [Act.put, List.getElem_toArray, List.getElem_cons_zero, List.getElem_cons_succ, List.setIfInBounds_toArray, List.set_cons_zero, List.set_cons_succ]
      refine wpAnyH_take (i := 6) (v := (.pointer (some ⟨b2, o2 + k, none⟩))) rfl (by kernel_rfl) (by kernel_rfl) (by kernel_rfl) (fun _ _ _ h => h) (Or.inl ⟨by kernel_rfl, by intro w hSw; obtain ⟨hSw0, hSw1⟩ := hSw; go_simp⟩) hS0 ?_
      try simp only [Act.put, List.getElem_toArray, List.getElem_cons_zero, List.getElem_cons_succ, List.setIfInBounds_toArray, List.set_cons_zero, List.set_cons_succ]
      refine wpAnyH_take (i := 7) (v := (sv X)) rfl (by kernel_rfl) (by kernel_rfl) (by kernel_rfl) (fun _ _ _ h => h) (Or.inl ⟨by kernel_rfl, by intro w hSw; obtain ⟨hSw0, hSw1⟩ := hSw; go_simp⟩) hS0 ?_
      try simp only [Act.put, List.getElem_toArray, List.getElem_cons_zero, List.getElem_cons_succ, List.setIfInBounds_toArray, List.set_cons_zero, List.set_cons_succ]
      refine wpAnyH_take (i := 8) (v := (.bool false)) rfl (by kernel_rfl) (by kernel_rfl) (by kernel_rfl) (fun _ _ _ h => h) (Or.inl ⟨by kernel_rfl, by intro w hSw; obtain ⟨hSw0, hSw1⟩ := hSw; go_simp⟩) hS0 ?_
      try simp only [Act.put, List.getElem_toArray, List.getElem_cons_zero, List.getElem_cons_succ, List.setIfInBounds_toArray, List.set_cons_zero, List.set_cons_succ]
      refine wpAnyH_take (i := 9) (v := (.bool false)) rfl (by kernel_rfl) (by kernel_rfl) (by kernel_rfl) (fun _ _ _ h => h) (Or.inl ⟨by kernel_rfl, by intro w hSw; obtain ⟨hSw0, hSw1⟩ := hSw; go_simp⟩) hS0 ?_
      try simp only [Act.put, List.getElem_toArray, List.getElem_cons_zero, List.getElem_cons_succ, List.setIfInBounds_toArray, List.set_cons_zero, List.set_cons_succ]
      refine wpAnyH_take (i := 10) (v := (.slice (some ⟨b1, o1, none⟩) L.length c1)) rfl (by kernel_rfl) (by kernel_rfl) (by kernel_rfl) (fun _ _ _ h => h) (Or.inl ⟨by kernel_rfl, by intro w hSw; obtain ⟨hSw0, hSw1⟩ := hSw; go_simp⟩) hS0 ?_
      try simp only [Act.put, List.getElem_toArray, List.getElem_cons_zero, List.getElem_cons_succ, List.setIfInBounds_toArray, List.set_cons_zero, List.set_cons_succ]
      refine wpAnyH_take (i := 11) (v := (.int .i64 k)) rfl (by kernel_rfl) (by kernel_rfl) (by kernel_rfl) (fun _ _ _ h => h) (Or.inl ⟨by kernel_rfl, by intro w hSw; obtain ⟨hSw0, hSw1⟩ := hSw; go_simp⟩) hS0 ?_
      try simp only [Act.put, List.getElem_toArray, List.getElem_cons_zero, List.getElem_cons_succ, List.setIfInBounds_toArray, List.set_cons_zero, List.set_cons_succ]
      refine wpAnyH_take (i := 12) (v := (.pointer (some ⟨b1, o1 + k, none⟩))) rfl (by kernel_rfl) (by kernel_rfl) (by kernel_rfl) (fun _ _ _ h => h) (Or.inl ⟨by kernel_rfl, by intro w hSw; obtain ⟨hSw0, hSw1⟩ := hSw; go_simp⟩) hS0 ?_
      try simp only [Act.put, List.getElem_toArray, List.getElem_cons_zero, List.getElem_cons_succ, List.setIfInBounds_toArray, List.set_cons_zero, List.set_cons_succ]
      refine wpAnyH_take (i := 13) (v := (sv X)) rfl (by kernel_rfl) (by kernel_rfl) (by kernel_rfl) (fun _ _ _ h => h) (Or.inl ⟨by kernel_rfl, by intro w hSw; obtain ⟨hSw0, hSw1⟩ := hSw; go_simp⟩) hS0 ?_
      try simp only [Act.put, List.getElem_toArray, List.getElem_cons_zero, List.getElem_cons_succ, List.setIfInBounds_toArray, List.set_cons_zero, List.set_cons_succ]
      refine wpAnyH_ready (rs := [14]) (by kernel_rfl) (by simp) ?_
      refine AllReadyH.cons rfl (fun K hK => ?_) AllReadyH.nil
      go_simp
      refine (name_any _ X (hX.below (hB.trans (hbd.mono hB.size))) (by omega)).mono ?_
      rintro e w5 ⟨rfl, hb5⟩
      rw [hn0]
      have hb5w : Below w3.heap.size w3 w5 := (hbr.trans (hbd.mono hbr.size)).trans (hb5.mono hbr.size)
      have hS5 : w5.cell? ⟨b1, o1 + k, none⟩ = some (sv X) ∧ w5.cell? ⟨b2, o2 + k, none⟩ = some (sv X) :=
        ⟨(hb5.cell (p := ⟨b1, o1 + k, none⟩) (Nat.lt_of_lt_of_le hb1 hbr.size)).trans d1, (hb5.cell (p := ⟨b2, o2 + k, none⟩) (Nat.lt_of_lt_of_le hb2 hbr.size)).trans d2⟩
      refine hK.out _ _ hS5 (fun _ => ?_)
      clear hK K
      try simp only [Act.put, List.getElem_toArray, List.getElem_cons_zero, List.getElem_cons_succ, List.setIfInBounds_toArray, List.set_cons_zero, List.set_cons_succ]
      refine wpAnyH_take (i := 15) (v := (.bool false)) rfl (by kernel_rfl) (by kernel_rfl) (by kernel_rfl) (fun _ _ _ h => h) (Or.inl ⟨by kernel_rfl, by intro w hSw; obtain ⟨hSw0, hSw1⟩ := hSw; go_simp⟩) hS5 ?_
      try simp only [Act.put, List.getElem_toArray, List.getElem_cons_zero, List.getElem_cons_succ, List.setIfInBounds_toArray, List.set_cons_zero, List.set_cons_succ]
      refine wpAnyH_done (by kernel_rfl) ?_ _
      go_wp2_with fail
      go_roundw
      case rel => exact ⟨k + 1, rfl, by omega, hb5w⟩
      case measure => simp [intOf]; omega
    · obtain rfl : k = L.length := by omega
      go_wp2_with fail
      refine (name_any _ s (hX.below hB) hsl).mono ?_
      rintro e w5 ⟨rfl, hb5⟩
      go_wp2_with fail
      refine (rname_any _ s hsl).mono ?_
      rintro e w6 ⟨rfl, hb6⟩
      generalize nameL s = q at *
      go_wp2_with fail
      go_ret
      exact ⟨by simp, (hB.trans (hb5.mono hB.size)).trans (hb6.mono (Nat.le_trans hB.size hb5.size))⟩
end Go.Proofs.YtpgngegdflbahaaDoor
