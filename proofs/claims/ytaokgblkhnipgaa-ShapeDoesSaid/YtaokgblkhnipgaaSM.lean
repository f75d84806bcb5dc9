/- ShapeSlots walked. -/
import Derived.Test.YtaokgblkhnipgaaSL
import Derived.Test.YtaokgblkhnipgaaMR
import Derived.RegionTactic
import Derived.Deep.QuietTactic
set_option linter.unusedVariables false
namespace Go.Proofs.Ytaokgblkhnipgaa
open Go.RowKit

theorem not_mem_take_step {l : List Nm} {X : Nm} {j : Nat} (hj : j < l.length) : X ∈ l.take (j + 1) ↔ X ∈ l.take j ∨ l[j] = X := by
  rw [List.take_succ_eq_append_getElem hj, List.mem_append]
  simp [eq_comm]
theorem slotL_in {L : List (List Nm)} {s : Nat} (hs : s < L.length) {x : Nm} (hx : x ∈ L.getD s []) : slotL L s x = ((((L.getD s []).idxOf x : Nat) : Int), true) := by
  unfold slotL
  rw [if_pos ⟨by omega, by omega, by simpa using hx⟩]; rfl
theorem namesL_in {L : List (List Nm)} {s : Nat} (hs : s < L.length) : namesL L s = L.getD s [] := by
  unfold namesL
  rw [if_pos ⟨by omega, by omega⟩]; rfl

theorem len_ext (f : List Nm) : ∀ l : List Nm, (ext f l).length ≤ f.length + l.length
  | [] => by simp [ext]
  | x :: l => by
    have : ext f (x :: l) = ext (if x ∈ f then f else f ++ [x]) l := rfl
    rw [this]
    have h := len_ext (if x ∈ f then f else f ++ [x]) l
    split at h <;> rename_i hx
    · rw [if_pos hx]; simp only [List.length_cons]; omega
    · rw [if_neg hx]; simp only [List.length_append, List.length_cons, List.length_nil] at h ⊢; omega

set_option maxHeartbeats 1000000 in
theorem shapeSlots_any (v : Value) (l : List Nm) (w : World) (hv : Ss w w.heap.size v l) (hm : ∀ y ∈ l, y.length ≤ maxLen) :
    Calls Try.prog 6 #[v] w fun e w' => e = .returned (.bool true) ∧ Below w.heap.size w w' := by
  obtain ⟨A, c, rfl, hn, hc, hx⟩ := hv.open_
  unfold maxLen at hc
  go_enter Try.func6, Try.ntmps6
  go_wp2_with fail
  refine (awake_any _).mono ?_
  rintro e w1 ⟨rfl, hb1⟩
  go_wp2_with fail
  refine (new_any _).mono ?_
  rintro e w2 ⟨F, bt, rfl, hT, hF, hb2⟩
  have hB2 := bthen hb1 hb2
  by_cases h60 : (60 : Int) < l.length
  · go_wp2_with fail
    go_ret
    exact ⟨rfl, hB2⟩
  · have hF0 : ∀ k, F k → w.heap.size ≤ k := fun k hk => Nat.le_trans hb1.size (hF k hk)
    have hv2 := (hv.below hB2).more hB2.size
    have hd : 0 < l.length → ∀ g, Value.ownBlock (.slice A l.length c) = some g → ¬ F g := by
      intro h0 g hg
      obtain ⟨b, o, rfl, hb, _⟩ := hx h0
      simp only [Value.ownBlock, Option.some.injEq] at hg
      subst hg
      exact fun h => by have := hF0 b h; omega
    have hlen := ofT_len hm l.length (Nat.le_refl _)
    have a1 := (ofT_good (s := 0) good_new (by simp) hm l.length (Nat.le_refl _)).1
    have a2 := (ofT_good (s := 0) good_new (by simp) hm l.length (Nat.le_refl _)).2.1
    have b2 := (ofT_names (s := 0) good_new (by simp) hm l.length (Nat.le_refl _)).2
    rw [List.take_length] at hlen a1 a2 b2
    have b3 : (ofT ([[]], 0) l).1.getD (ofT ([[]], 0) l).2 [] = ext [] l := b2
    clear b2
    have hext := len_ext [] l
    simp only [List.length_nil] at hext
    go_wp2_with fail
    refine (of_any F bt [[]] _ l _ hT hv2 hd hm (by simp; omega)).mono ?_
    rintro e w3 ⟨F3, rfl, hT3, ht3, hn3⟩
    obtain ⟨hB3, hF3⟩ := step_base hB2 (Nat.le_refl _) hF0 ht3 hn3
    have hlen1 := hlen.1
    clear hlen hT hv2 hd hb1 hb2 ht3 hn3
    generalize ofT ([[]], 0) l = T at *
    obtain ⟨T, s⟩ := T
    simp only at *
    go_wp2_with fail
    go_loopw [7, 8] (fun v7 v8 wr => ∃ k : Nat, v8 = .int .i64 k ∧ k ≤ l.length ∧ v7 = .int .i64 ((ext [] (l.take k)).length : Nat) ∧ Below w3.heap.size w3 wr) (fun _ v8 _ => l.length - (intOf v8).toNat)
    case atStart => exact ⟨0, rfl, by omega, rfl, Below.refl _ _⟩
    case round =>
      obtain ⟨k, rfl, hk, rfl, hbr⟩ := hrel
      by_cases hlt : k < l.length
      · obtain ⟨b, o, rfl, hb, hcell⟩ := hx (by omega)
        go_wp2_with fail
        go_loopw [9, 10] (fun v9 v10 wq => ∃ (j : Nat) (q : Bool), v10 = .int .i64 j ∧ j ≤ k ∧ v9 = .bool q ∧ (q = true ↔ l[k] ∈ l.take j) ∧ Below w3.heap.size w3 wq) (fun _ v10 _ => k - (intOf v10).toNat)
        case atStart => exact ⟨0, false, rfl, by omega, rfl, by simp, hbr⟩
        case round =>
          obtain ⟨j, q, rfl, hj, rfl, hq, hbq⟩ := hrel
          by_cases hjk : j < k
          · have hjl : j < l.length := by omega
            have d1 := ((hB3.trans (hbq.mono hB3.size)).cell (p := ⟨b, o + j, none⟩) hb).trans (hcell j (by omega))
            have d2 := ((hB3.trans (hbq.mono hB3.size)).cell (p := ⟨b, o + k, none⟩) hb).trans (hcell k hlt)
            have hstep := not_mem_take_step (X := l[k]) (show j < l.length by omega)
            have HSTEP := hid hstep
            have HQ := hid hq
            clear hstep hq hcell hx
            generalize l[k] = X at *
            generalize l[j] = Y at *
            cases q with
            | true =>
              go_wp2_with fail
              have hS : wr.drew.cell? ⟨b, o + j, none⟩ = some (sv Y) ∧ wr.drew.cell? ⟨b, o + k, none⟩ = some (sv X) := ⟨d1, d2⟩
              refine wp_region_held_drew (S := fun w' => w'.cell? ⟨b, o + j, none⟩ = some (sv Y) ∧ w'.cell? ⟨b, o + k, none⟩ = some (sv X)) (by kernel_rfl) hS (fun _ => ?_)
              try simp only [Act.put, List.getElem_toArray, List.getElem_cons_zero, List.getElem_cons_succ, List.setIfInBounds_toArray, List.set_cons_zero, List.set_cons_succ]
              refine wpAnyH_take (i := 0) (v := (.bool true)) rfl (by kernel_rfl) (by kernel_rfl) (by kernel_rfl) (fun _ _ _ h => h) (Or.inl ⟨by kernel_rfl, by intro w hSw; obtain ⟨hSw0, hSw1⟩ := hSw; go_simp⟩) hS ?_
              try simp only [Act.put, List.getElem_toArray, List.getElem_cons_zero, List.getElem_cons_succ, List.setIfInBounds_toArray, List.set_cons_zero, List.set_cons_succ]
              refine wpAnyH_take (i := 1) (v := (.bool true)) rfl (by kernel_rfl) (by kernel_rfl) (by kernel_rfl) (fun _ _ _ h => h) (Or.inl ⟨by kernel_rfl, by intro w hSw; obtain ⟨hSw0, hSw1⟩ := hSw; go_simp⟩) hS ?_
              try simp only [Act.put, List.getElem_toArray, List.getElem_cons_zero, List.getElem_cons_succ, List.setIfInBounds_toArray, List.set_cons_zero, List.set_cons_succ]
              refine wpAnyH_take (i := 2) (v := undef) rfl (by kernel_rfl) (by kernel_rfl) (by kernel_rfl) (fun _ _ _ h => h) (Or.inr ⟨by kernel_rfl, rfl⟩) hS ?_
              try simp only [Act.put, List.getElem_toArray, List.getElem_cons_zero, List.getElem_cons_succ, List.setIfInBounds_toArray, List.set_cons_zero, List.set_cons_succ]
              refine wpAnyH_take (i := 3) (v := undef) rfl (by kernel_rfl) (by kernel_rfl) (by kernel_rfl) (fun _ _ _ h => h) (Or.inr ⟨by kernel_rfl, rfl⟩) hS ?_
              try simp only [Act.put, List.getElem_toArray, List.getElem_cons_zero, List.getElem_cons_succ, List.setIfInBounds_toArray, List.set_cons_zero, List.set_cons_succ]
              refine wpAnyH_take (i := 4) (v := undef) rfl (by kernel_rfl) (by kernel_rfl) (by kernel_rfl) (fun _ _ _ h => h) (Or.inr ⟨by kernel_rfl, rfl⟩) hS ?_
              try simp only [Act.put, List.getElem_toArray, List.getElem_cons_zero, List.getElem_cons_succ, List.setIfInBounds_toArray, List.set_cons_zero, List.set_cons_succ]
              refine wpAnyH_take (i := 5) (v := undef) rfl (by kernel_rfl) (by kernel_rfl) (by kernel_rfl) (fun _ _ _ h => h) (Or.inr ⟨by kernel_rfl, rfl⟩) hS ?_
              try simp only [Act.put, List.getElem_toArray, List.getElem_cons_zero, List.getElem_cons_succ, List.setIfInBounds_toArray, List.set_cons_zero, List.set_cons_succ]
              refine wpAnyH_take (i := 6) (v := undef) rfl (by kernel_rfl) (by kernel_rfl) (by kernel_rfl) (fun _ _ _ h => h) (Or.inr ⟨by kernel_rfl, rfl⟩) hS ?_
              try simp only [Act.put, List.getElem_toArray, List.getElem_cons_zero, List.getElem_cons_succ, List.setIfInBounds_toArray, List.set_cons_zero, List.set_cons_succ]
              refine wpAnyH_take (i := 7) (v := undef) rfl (by kernel_rfl) (by kernel_rfl) (by kernel_rfl) (fun _ _ _ h => h) (Or.inr ⟨by kernel_rfl, rfl⟩) hS ?_
              try simp only [Act.put, List.getElem_toArray, List.getElem_cons_zero, List.getElem_cons_succ, List.setIfInBounds_toArray, List.set_cons_zero, List.set_cons_succ]
              refine wpAnyH_take (i := 8) (v := undef) rfl (by kernel_rfl) (by kernel_rfl) (by kernel_rfl) (fun _ _ _ h => h) (Or.inr ⟨by kernel_rfl, rfl⟩) hS ?_
              try simp only [Act.put, List.getElem_toArray, List.getElem_cons_zero, List.getElem_cons_succ, List.setIfInBounds_toArray, List.set_cons_zero, List.set_cons_succ]
              refine wpAnyH_take (i := 9) (v := undef) rfl (by kernel_rfl) (by kernel_rfl) (by kernel_rfl) (fun _ _ _ h => h) (Or.inr ⟨by kernel_rfl, rfl⟩) hS ?_
              try simp only [Act.put, List.getElem_toArray, List.getElem_cons_zero, List.getElem_cons_succ, List.setIfInBounds_toArray, List.set_cons_zero, List.set_cons_succ]
              refine wpAnyH_take (i := 10) (v := undef) rfl (by kernel_rfl) (by kernel_rfl) (by kernel_rfl) (fun _ _ _ h => h) (Or.inr ⟨by kernel_rfl, rfl⟩) hS ?_
              try simp only [Act.put, List.getElem_toArray, List.getElem_cons_zero, List.getElem_cons_succ, List.setIfInBounds_toArray, List.set_cons_zero, List.set_cons_succ]
              refine wpAnyH_take (i := 11) (v := (.bool true)) rfl (by kernel_rfl) (by kernel_rfl) (by kernel_rfl) (fun _ _ _ h => h) (Or.inl ⟨by kernel_rfl, by intro w hSw; obtain ⟨hSw0, hSw1⟩ := hSw; go_simp⟩) hS ?_
              try simp only [Act.put, List.getElem_toArray, List.getElem_cons_zero, List.getElem_cons_succ, List.setIfInBounds_toArray, List.set_cons_zero, List.set_cons_succ]
              refine wpAnyH_take (i := 12) (v := (.bool true)) rfl (by kernel_rfl) (by kernel_rfl) (by kernel_rfl) (fun _ _ _ h => h) (Or.inl ⟨by kernel_rfl, by intro w hSw; obtain ⟨hSw0, hSw1⟩ := hSw; go_simp⟩) hS ?_
              try simp only [Act.put, List.getElem_toArray, List.getElem_cons_zero, List.getElem_cons_succ, List.setIfInBounds_toArray, List.set_cons_zero, List.set_cons_succ]
              refine wpAnyH_done (by kernel_rfl) ?_ _
              go_wp2_with fail
              go_roundw
              case rel => exact ⟨j + 1, true, rfl, by omega, rfl, by rw [HSTEP.out, ← HQ.out]; simp, hbq.trans ((below_drawn wr 1).mono hbq.size)⟩
              case measure => simp [intOf]; omega
            | false =>
              by_cases hXY : Y = X
              · have hxy : (Y == X) = true := by rw [beq_iff_eq]; exact hXY
                have HXY := hid hXY
                clear hXY
                go_wp2_with fail
                have hS : wr.drew.cell? ⟨b, o + j, none⟩ = some (sv Y) ∧ wr.drew.cell? ⟨b, o + k, none⟩ = some (sv X) := ⟨d1, d2⟩
                refine wp_region_held_drew (S := fun w' => w'.cell? ⟨b, o + j, none⟩ = some (sv Y) ∧ w'.cell? ⟨b, o + k, none⟩ = some (sv X)) (by kernel_rfl) hS (fun _ => ?_)
                try simp only [Act.put, List.getElem_toArray, List.getElem_cons_zero, List.getElem_cons_succ, List.setIfInBounds_toArray, List.set_cons_zero, List.set_cons_succ]
                refine wpAnyH_take (i := 0) (v := (.bool false)) rfl (by kernel_rfl) (by kernel_rfl) (by kernel_rfl) (fun _ _ _ h => h) (Or.inl ⟨by kernel_rfl, by intro w hSw; obtain ⟨hSw0, hSw1⟩ := hSw; go_simp⟩) hS ?_
                try simp only [Act.put, List.getElem_toArray, List.getElem_cons_zero, List.getElem_cons_succ, List.setIfInBounds_toArray, List.set_cons_zero, List.set_cons_succ]
                refine wpAnyH_take (i := 1) (v := (.bool false)) rfl (by kernel_rfl) (by kernel_rfl) (by kernel_rfl) (fun _ _ _ h => h) (Or.inl ⟨by kernel_rfl, by intro w hSw; obtain ⟨hSw0, hSw1⟩ := hSw; go_simp⟩) hS ?_
                try simp only [Act.put, List.getElem_toArray, List.getElem_cons_zero, List.getElem_cons_succ, List.setIfInBounds_toArray, List.set_cons_zero, List.set_cons_succ]
                refine wpAnyH_take (i := 2) (v := (.slice (some ⟨b, o, none⟩) l.length c)) rfl (by kernel_rfl) (by kernel_rfl) (by kernel_rfl) (fun _ _ _ h => h) (Or.inl ⟨by kernel_rfl, by intro w hSw; obtain ⟨hSw0, hSw1⟩ := hSw; go_simp⟩) hS ?_
                try simp only [Act.put, List.getElem_toArray, List.getElem_cons_zero, List.getElem_cons_succ, List.setIfInBounds_toArray, List.set_cons_zero, List.set_cons_succ]
                refine wpAnyH_take (i := 3) (v := (.int .i64 j)) rfl (by kernel_rfl) (by kernel_rfl) (by kernel_rfl) (fun _ _ _ h => h) (Or.inl ⟨by kernel_rfl, by intro w hSw; obtain ⟨hSw0, hSw1⟩ := hSw; go_simp⟩) hS ?_
                try simp only [Act.put, List.getElem_toArray, List.getElem_cons_zero, List.getElem_cons_succ, List.setIfInBounds_toArray, List.set_cons_zero, List.set_cons_succ]
                refine wpAnyH_take (i := 4) (v := (.pointer (some ⟨b, o + j, none⟩))) rfl (by kernel_rfl) (by kernel_rfl) (by kernel_rfl) (fun _ _ _ h => h) (Or.inl ⟨by kernel_rfl, by intro w hSw; obtain ⟨hSw0, hSw1⟩ := hSw; go_simp⟩) hS ?_
                try simp only [Act.put, List.getElem_toArray, List.getElem_cons_zero, List.getElem_cons_succ, List.setIfInBounds_toArray, List.set_cons_zero, List.set_cons_succ]
                refine wpAnyH_take (i := 5) (v := (sv Y)) rfl (by kernel_rfl) (by kernel_rfl) (by kernel_rfl) (fun _ _ _ h => h) (Or.inl ⟨by kernel_rfl, by intro w hSw; obtain ⟨hSw0, hSw1⟩ := hSw; go_simp⟩) hS ?_
                try simp only [Act.put, List.getElem_toArray, List.getElem_cons_zero, List.getElem_cons_succ, List.setIfInBounds_toArray, List.set_cons_zero, List.set_cons_succ]
                refine wpAnyH_take (i := 6) (v := (.slice (some ⟨b, o, none⟩) l.length c)) rfl (by kernel_rfl) (by kernel_rfl) (by kernel_rfl) (fun _ _ _ h => h) (Or.inl ⟨by kernel_rfl, by intro w hSw; obtain ⟨hSw0, hSw1⟩ := hSw; go_simp⟩) hS ?_
                try simp only [Act.put, List.getElem_toArray, List.getElem_cons_zero, List.getElem_cons_succ, List.setIfInBounds_toArray, List.set_cons_zero, List.set_cons_succ]
                refine wpAnyH_take (i := 7) (v := (.int .i64 k)) rfl (by kernel_rfl) (by kernel_rfl) (by kernel_rfl) (fun _ _ _ h => h) (Or.inl ⟨by kernel_rfl, by intro w hSw; obtain ⟨hSw0, hSw1⟩ := hSw; go_simp⟩) hS ?_
                try simp only [Act.put, List.getElem_toArray, List.getElem_cons_zero, List.getElem_cons_succ, List.setIfInBounds_toArray, List.set_cons_zero, List.set_cons_succ]
                refine wpAnyH_take (i := 8) (v := (.pointer (some ⟨b, o + k, none⟩))) rfl (by kernel_rfl) (by kernel_rfl) (by kernel_rfl) (fun _ _ _ h => h) (Or.inl ⟨by kernel_rfl, by intro w hSw; obtain ⟨hSw0, hSw1⟩ := hSw; go_simp⟩) hS ?_
                try simp only [Act.put, List.getElem_toArray, List.getElem_cons_zero, List.getElem_cons_succ, List.setIfInBounds_toArray, List.set_cons_zero, List.set_cons_succ]
                refine wpAnyH_take (i := 9) (v := (sv X)) rfl (by kernel_rfl) (by kernel_rfl) (by kernel_rfl) (fun _ _ _ h => h) (Or.inl ⟨by kernel_rfl, by intro w hSw; obtain ⟨hSw0, hSw1⟩ := hSw; go_simp⟩) hS ?_
                try simp only [Act.put, List.getElem_toArray, List.getElem_cons_zero, List.getElem_cons_succ, List.setIfInBounds_toArray, List.set_cons_zero, List.set_cons_succ]
                refine wpAnyH_take (i := 10) (v := (.bool true)) rfl (by kernel_rfl) (by kernel_rfl) (by kernel_rfl) (fun _ _ _ h => h) (Or.inl ⟨by kernel_rfl, by intro w hSw; obtain ⟨hSw0, hSw1⟩ := hSw; go_simp⟩) hS ?_
                try simp only [Act.put, List.getElem_toArray, List.getElem_cons_zero, List.getElem_cons_succ, List.setIfInBounds_toArray, List.set_cons_zero, List.set_cons_succ]
                refine wpAnyH_take (i := 11) (v := (.bool true)) rfl (by kernel_rfl) (by kernel_rfl) (by kernel_rfl) (fun _ _ _ h => h) (Or.inl ⟨by kernel_rfl, by intro w hSw; obtain ⟨hSw0, hSw1⟩ := hSw; go_simp⟩) hS ?_
                try simp only [Act.put, List.getElem_toArray, List.getElem_cons_zero, List.getElem_cons_succ, List.setIfInBounds_toArray, List.set_cons_zero, List.set_cons_succ]
                refine wpAnyH_take (i := 12) (v := (.bool true)) rfl (by kernel_rfl) (by kernel_rfl) (by kernel_rfl) (fun _ _ _ h => h) (Or.inl ⟨by kernel_rfl, by intro w hSw; obtain ⟨hSw0, hSw1⟩ := hSw; go_simp⟩) hS ?_
                try simp only [Act.put, List.getElem_toArray, List.getElem_cons_zero, List.getElem_cons_succ, List.setIfInBounds_toArray, List.set_cons_zero, List.set_cons_succ]
                refine wpAnyH_done (by kernel_rfl) ?_ _
                go_wp2_with fail
                go_roundw
                case rel => exact ⟨j + 1, true, rfl, by omega, rfl, by rw [HSTEP.out]; simp [HXY.out], hbq.trans ((below_drawn wr 1).mono hbq.size)⟩
                case measure => simp [intOf]; omega
              · have hxy : (Y == X) = false := by rw [beq_eq_false_iff_ne]; exact hXY
                have HXY := hid hXY
                clear hXY
                go_wp2_with fail
                have hS : wr.drew.cell? ⟨b, o + j, none⟩ = some (sv Y) ∧ wr.drew.cell? ⟨b, o + k, none⟩ = some (sv X) := ⟨d1, d2⟩
                refine wp_region_held_drew (S := fun w' => w'.cell? ⟨b, o + j, none⟩ = some (sv Y) ∧ w'.cell? ⟨b, o + k, none⟩ = some (sv X)) (by kernel_rfl) hS (fun _ => ?_)
                try simp only [Act.put, List.getElem_toArray, List.getElem_cons_zero, List.getElem_cons_succ, List.setIfInBounds_toArray, List.set_cons_zero, List.set_cons_succ]
                refine wpAnyH_take (i := 0) (v := (.bool false)) rfl (by kernel_rfl) (by kernel_rfl) (by kernel_rfl) (fun _ _ _ h => h) (Or.inl ⟨by kernel_rfl, by intro w hSw; obtain ⟨hSw0, hSw1⟩ := hSw; go_simp⟩) hS ?_
                try simp only [Act.put, List.getElem_toArray, List.getElem_cons_zero, List.getElem_cons_succ, List.setIfInBounds_toArray, List.set_cons_zero, List.set_cons_succ]
                refine wpAnyH_take (i := 1) (v := (.bool false)) rfl (by kernel_rfl) (by kernel_rfl) (by kernel_rfl) (fun _ _ _ h => h) (Or.inl ⟨by kernel_rfl, by intro w hSw; obtain ⟨hSw0, hSw1⟩ := hSw; go_simp⟩) hS ?_
                try simp only [Act.put, List.getElem_toArray, List.getElem_cons_zero, List.getElem_cons_succ, List.setIfInBounds_toArray, List.set_cons_zero, List.set_cons_succ]
                refine wpAnyH_take (i := 2) (v := (.slice (some ⟨b, o, none⟩) l.length c)) rfl (by kernel_rfl) (by kernel_rfl) (by kernel_rfl) (fun _ _ _ h => h) (Or.inl ⟨by kernel_rfl, by intro w hSw; obtain ⟨hSw0, hSw1⟩ := hSw; go_simp⟩) hS ?_
                try simp only [Act.put, List.getElem_toArray, List.getElem_cons_zero, List.getElem_cons_succ, List.setIfInBounds_toArray, List.set_cons_zero, List.set_cons_succ]
                refine wpAnyH_take (i := 3) (v := (.int .i64 j)) rfl (by kernel_rfl) (by kernel_rfl) (by kernel_rfl) (fun _ _ _ h => h) (Or.inl ⟨by kernel_rfl, by intro w hSw; obtain ⟨hSw0, hSw1⟩ := hSw; go_simp⟩) hS ?_
                try simp only [Act.put, List.getElem_toArray, List.getElem_cons_zero, List.getElem_cons_succ, List.setIfInBounds_toArray, List.set_cons_zero, List.set_cons_succ]
                refine wpAnyH_take (i := 4) (v := (.pointer (some ⟨b, o + j, none⟩))) rfl (by kernel_rfl) (by kernel_rfl) (by kernel_rfl) (fun _ _ _ h => h) (Or.inl ⟨by kernel_rfl, by intro w hSw; obtain ⟨hSw0, hSw1⟩ := hSw; go_simp⟩) hS ?_
                try simp only [Act.put, List.getElem_toArray, List.getElem_cons_zero, List.getElem_cons_succ, List.setIfInBounds_toArray, List.set_cons_zero, List.set_cons_succ]
                refine wpAnyH_take (i := 5) (v := (sv Y)) rfl (by kernel_rfl) (by kernel_rfl) (by kernel_rfl) (fun _ _ _ h => h) (Or.inl ⟨by kernel_rfl, by intro w hSw; obtain ⟨hSw0, hSw1⟩ := hSw; go_simp⟩) hS ?_
                try simp only [Act.put, List.getElem_toArray, List.getElem_cons_zero, List.getElem_cons_succ, List.setIfInBounds_toArray, List.set_cons_zero, List.set_cons_succ]
                refine wpAnyH_take (i := 6) (v := (.slice (some ⟨b, o, none⟩) l.length c)) rfl (by kernel_rfl) (by kernel_rfl) (by kernel_rfl) (fun _ _ _ h => h) (Or.inl ⟨by kernel_rfl, by intro w hSw; obtain ⟨hSw0, hSw1⟩ := hSw; go_simp⟩) hS ?_
                try simp only [Act.put, List.getElem_toArray, List.getElem_cons_zero, List.getElem_cons_succ, List.setIfInBounds_toArray, List.set_cons_zero, List.set_cons_succ]
                refine wpAnyH_take (i := 7) (v := (.int .i64 k)) rfl (by kernel_rfl) (by kernel_rfl) (by kernel_rfl) (fun _ _ _ h => h) (Or.inl ⟨by kernel_rfl, by intro w hSw; obtain ⟨hSw0, hSw1⟩ := hSw; go_simp⟩) hS ?_
                try simp only [Act.put, List.getElem_toArray, List.getElem_cons_zero, List.getElem_cons_succ, List.setIfInBounds_toArray, List.set_cons_zero, List.set_cons_succ]
                refine wpAnyH_take (i := 8) (v := (.pointer (some ⟨b, o + k, none⟩))) rfl (by kernel_rfl) (by kernel_rfl) (by kernel_rfl) (fun _ _ _ h => h) (Or.inl ⟨by kernel_rfl, by intro w hSw; obtain ⟨hSw0, hSw1⟩ := hSw; go_simp⟩) hS ?_
                try simp only [Act.put, List.getElem_toArray, List.getElem_cons_zero, List.getElem_cons_succ, List.setIfInBounds_toArray, List.set_cons_zero, List.set_cons_succ]
                refine wpAnyH_take (i := 9) (v := (sv X)) rfl (by kernel_rfl) (by kernel_rfl) (by kernel_rfl) (fun _ _ _ h => h) (Or.inl ⟨by kernel_rfl, by intro w hSw; obtain ⟨hSw0, hSw1⟩ := hSw; go_simp⟩) hS ?_
                try simp only [Act.put, List.getElem_toArray, List.getElem_cons_zero, List.getElem_cons_succ, List.setIfInBounds_toArray, List.set_cons_zero, List.set_cons_succ]
                refine wpAnyH_take (i := 10) (v := (.bool false)) rfl (by kernel_rfl) (by kernel_rfl) (by kernel_rfl) (fun _ _ _ h => h) (Or.inl ⟨by kernel_rfl, by intro w hSw; obtain ⟨hSw0, hSw1⟩ := hSw; go_simp⟩) hS ?_
                try simp only [Act.put, List.getElem_toArray, List.getElem_cons_zero, List.getElem_cons_succ, List.setIfInBounds_toArray, List.set_cons_zero, List.set_cons_succ]
                refine wpAnyH_take (i := 11) (v := (.bool false)) rfl (by kernel_rfl) (by kernel_rfl) (by kernel_rfl) (fun _ _ _ h => h) (Or.inl ⟨by kernel_rfl, by intro w hSw; obtain ⟨hSw0, hSw1⟩ := hSw; go_simp⟩) hS ?_
                try simp only [Act.put, List.getElem_toArray, List.getElem_cons_zero, List.getElem_cons_succ, List.setIfInBounds_toArray, List.set_cons_zero, List.set_cons_succ]
                refine wpAnyH_take (i := 12) (v := (.bool false)) rfl (by kernel_rfl) (by kernel_rfl) (by kernel_rfl) (fun _ _ _ h => h) (Or.inl ⟨by kernel_rfl, by intro w hSw; obtain ⟨hSw0, hSw1⟩ := hSw; go_simp⟩) hS ?_
                try simp only [Act.put, List.getElem_toArray, List.getElem_cons_zero, List.getElem_cons_succ, List.setIfInBounds_toArray, List.set_cons_zero, List.set_cons_succ]
                refine wpAnyH_done (by kernel_rfl) ?_ _
                go_wp2_with fail
                go_roundw
                case rel => exact ⟨j + 1, false, rfl, by omega, rfl, by rw [HSTEP.out, ← HQ.out]; simp [HXY.out], hbq.trans ((below_drawn wr 1).mono hbq.size)⟩
                case measure => simp [intOf]; omega
          · obtain rfl : j = k := by omega
            have hlx := len_ext_take hlt
            cases q with
            | true =>
              rw [if_pos (hq.1 rfl)] at hlx
              have HLX := hid hlx
              clear hlx
              go_wp2_with fail
              go_roundw
              case rel => exact ⟨j + 1, rfl, by omega, by rw [HLX.out], hbq⟩
              case measure => simp [intOf]; omega
            | false =>
              have hnot : l[j] ∉ l.take j := fun h => by have := hq.2 h; cases this
              rw [if_neg hnot] at hlx
              have HLX := hid hlx
              have d2 := ((hB3.trans (hbq.mono hB3.size)).cell (p := ⟨b, o + j, none⟩) hb).trans (hcell j hlt)
              have hin : l[j] ∈ T.getD s [] := by rw [b3, mem_ext]; exact .inr (List.getElem_mem hlt)
              have hsl := slotL_in a2 hin
              rw [b3, idx_first hlt hnot] at hsl
              have hmx := hm _ (List.getElem_mem hlt)
              have hTq := hT3.turn (Turn.of_below (F := fun _ => False) hbq) (fun _ _ h => h)
              clear hlx hq hnot hcell hin
              generalize l[j] = X at *
              go_wp2_with fail
              refine (slot_any F3 bt T s X _ hTq hmx).mono ?_
              rintro e w4 ⟨rfl, rfl⟩
              rw [hsl]
              go_wp2_with fail
              go_roundw
              case rel => exact ⟨j + 1, rfl, by omega, by (rw [HLX.out]; have h := len_ext [] (l.take j); simp only [List.length_nil, List.length_take] at h; simp; unfold wrap64; omega), hbq⟩
              case measure => simp [intOf]; omega
      · obtain rfl : k = l.length := by omega
        rw [List.take_length] at *
        have hTr := hT3.turn (Turn.of_below (F := fun _ => False) hbr) (fun _ _ h => h)
        have hnm := namesL_in a2
        rw [b3] at hnm
        go_wp2_with fail
        refine (names_any F3 bt T s _ hTr (by omega)).mono ?_
        rintro e w4 ⟨v4, rfl, hown4, hb4⟩
        rw [hnm] at hown4
        obtain ⟨A4, c4, rfl, _, hc4, _⟩ := hown4.ss.open_
        have hTr2 := hTr.turn (Turn.of_below (F := fun _ => False) hb4) (fun _ _ h => h)
        go_wp2_with fail
        refine (len_any F3 bt T _ hTr2).mono ?_
        rintro e w5 ⟨rfl, rfl⟩
        rw [hlen1]
        go_wp2_with fail
        go_ret
        exact ⟨rfl, hB3.trans ((hbr.mono hB3.size).trans (hb4.mono (Nat.le_trans hB3.size hbr.size)))⟩
end Go.Proofs.Ytaokgblkhnipgaa
