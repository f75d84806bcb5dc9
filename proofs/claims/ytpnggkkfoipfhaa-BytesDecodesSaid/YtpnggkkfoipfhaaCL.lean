/- Coercions and codes that read as the same are the same to the law. -/
import Derived.Test.YtpnggkkfoipfhaaCJ
set_option linter.unusedVariables false
namespace Go.Proofs.Ytpnggkkfoipfhaa
open Go.RowKit

def SameC (c : CoD) : Prop := ∀ (w : World) (x y : List Value), CoR w w.heap.size x c → CoR w w.heap.size y c →
    Calls Try.prog 38 #[.agg x.toArray, .agg y.toArray] w fun e w' => e = .returned (.bool true) ∧ Below w.heap.size w w'
set_option maxRecDepth 100000 in
set_option maxHeartbeats 8000000 in
theorem same_step (t : List Int) (n : List (Bt × Int)) (m : List Bt) (f u : List CoD) (Hf : ∀ x ∈ f, SameC x) (Hu : ∀ x ∈ u, SameC x) : SameC (.mk t n m f u) := by
  intro w x y ha hb
  obtain ⟨A1, c1, A2, c2, A3, c3, A4, c4, A5, c5, xf, xu, rfl, s1, s2, s3, s4, r4, s5, r5⟩ := co_parts ha
  obtain ⟨B1, e1, B2, e2, B3, e3, B4, e4, B5, e5, yf, yu, rfl, z1, z2, z3, z4, g4, z5, g5⟩ := co_parts hb
  have hl := fun (k : Nat) (A : Option Addr) (n c : Nat) (xs : List Value) (h : Sl w w.heap.size k (.slice A n c) xs) => sl_len h
  have l1 := (sl_len s1).2; have l2 := (sl_len s2).2; have l3 := (sl_len s3).2; have l4 := (sl_len s4).2; have l5 := (sl_len s5).2
  have l6 := (sl_len z1).2; have l7 := (sl_len z2).2; have l8 := (sl_len z3).2; have l9 := (sl_len z4).2; have l10 := (sl_len z5).2
  clear ha hb hl
  have hz0 := heap_alloc_new w (.cells #[.slice A1 t.length c1, .slice A2 n.length c2, .slice A3 m.length c3, .slice A4 f.length c4, .slice A5 u.length c5] 42)
  obtain ⟨W1, hW1⟩ : ∃ W1, W1 = w.alloc (.cells #[.slice A1 t.length c1, .slice A2 n.length c2, .slice A3 m.length c3, .slice A4 f.length c4, .slice A5 u.length c5] 42) := ⟨_, rfl⟩
  have hb1 : Below w.heap.size w W1 := by rw [hW1]; exact (Below.refl _ _).alloc (Nat.le_refl _) _
  rw [← hW1] at hz0
  have hs1 : W1.heap.size = w.heap.size + 1 := by rw [hW1]; exact Array.size_push _
  have hz2 := heap_alloc_new W1 (.cells #[.slice B1 t.length e1, .slice B2 n.length e2, .slice B3 m.length e3, .slice B4 f.length e4, .slice B5 u.length e5] 42)
  obtain ⟨W2, hW2⟩ : ∃ W2, W2 = W1.alloc (.cells #[.slice B1 t.length e1, .slice B2 n.length e2, .slice B3 m.length e3, .slice B4 f.length e4, .slice B5 u.length e5] 42) := ⟨_, rfl⟩
  have hb12 : Below W1.heap.size W1 W2 := by rw [hW2]; exact (Below.refl _ _).alloc (Nat.le_refl _) _
  have hb2 : Below w.heap.size w W2 := hb1.trans (hb12.mono hb1.size)
  rw [← hW2, hs1] at hz2
  have hz1 := (hb12.block _ (block_lt hz0)).trans hz0
  have HWE := hid hW2
  rw [hW1] at HWE
  have HB2 := hid hb2
  have f0a : W2.cell? ⟨w.heap.size, 0, none⟩ = some (.slice A1 t.length c1) := (cell_of_row _ _ _ _ _ _ hz1).trans rfl
  have f0b : W2.cell? ⟨w.heap.size + 1, 0, none⟩ = some (.slice B1 t.length e1) := (cell_of_row _ _ _ _ _ _ hz2).trans rfl
  have f1a : W2.cell? ⟨w.heap.size, 1, none⟩ = some (.slice A2 n.length c2) := (cell_of_row _ _ _ _ _ _ hz1).trans rfl
  have f1b : W2.cell? ⟨w.heap.size + 1, 1, none⟩ = some (.slice B2 n.length e2) := (cell_of_row _ _ _ _ _ _ hz2).trans rfl
  have f2a : W2.cell? ⟨w.heap.size, 2, none⟩ = some (.slice A3 m.length c3) := (cell_of_row _ _ _ _ _ _ hz1).trans rfl
  have f2b : W2.cell? ⟨w.heap.size + 1, 2, none⟩ = some (.slice B3 m.length e3) := (cell_of_row _ _ _ _ _ _ hz2).trans rfl
  have f3a : W2.cell? ⟨w.heap.size, 3, none⟩ = some (.slice A4 f.length c4) := (cell_of_row _ _ _ _ _ _ hz1).trans rfl
  have f3b : W2.cell? ⟨w.heap.size + 1, 3, none⟩ = some (.slice B4 f.length e4) := (cell_of_row _ _ _ _ _ _ hz2).trans rfl
  have f4a : W2.cell? ⟨w.heap.size, 4, none⟩ = some (.slice A5 u.length c5) := (cell_of_row _ _ _ _ _ _ hz1).trans rfl
  have f4b : W2.cell? ⟨w.heap.size + 1, 4, none⟩ = some (.slice B5 u.length e5) := (cell_of_row _ _ _ _ _ _ hz2).trans rfl
  have HBS := hid hb2.size
  have H0a : Hid (Sl W2 w.heap.size 1 (.slice A1 t.length c1) (intsV t)) := hid (Sl.below s1 hb2)
  have H0b : Hid (Sl W2 w.heap.size 1 (.slice B1 t.length e1) (intsV t)) := hid (Sl.below z1 hb2)
  have H1a : Hid (Sl W2 w.heap.size 2 (.slice A2 n.length c2) (needsV n)) := hid (Sl.below s2 hb2)
  have H1b : Hid (Sl W2 w.heap.size 2 (.slice B2 n.length e2) (needsV n)) := hid (Sl.below z2 hb2)
  have H2a : Hid (Sl W2 w.heap.size 1 (.slice A3 m.length c3) (svs m)) := hid (Sl.below s3 hb2)
  have H2b : Hid (Sl W2 w.heap.size 1 (.slice B3 m.length e3) (svs m)) := hid (Sl.below z3 hb2)
  have H3a : Hid (Sl W2 w.heap.size 5 (.slice A4 f.length c4) xf) := hid (Sl.below s4 hb2)
  have H3b : Hid (Sl W2 w.heap.size 5 (.slice B4 f.length e4) yf) := hid (Sl.below z4 hb2)
  have H4a : Hid (Sl W2 w.heap.size 5 (.slice A5 u.length c5) xu) := hid (Sl.below s5 hb2)
  have H4b : Hid (Sl W2 w.heap.size 5 (.slice B5 u.length e5) yu) := hid (Sl.below z5 hb2)
  have R3a := hid (r4.keep hb2)
  have R3b := hid (g4.keep hb2)
  have R4a := hid (r5.keep hb2)
  have R4b := hid (g5.keep hb2)
  have HF := hid Hf
  have HU := hid Hu
  clear s1 s2 s3 s4 s5 z1 z2 z3 z4 z5 r4 r5 g4 g5 hz0 hz1 hz2 hb1 hb12 hb2 hs1 hW1 hW2 Hf Hu
  go_enter Try.func38, Try.ntmps38
  go_wp2_with fail
  go_loopw [5] (fun v5 wr => ∃ k : Nat, v5 = .int .i64 k ∧ k ≤ t.length ∧ Below W2.heap.size W2 wr) (fun v5 _ => t.length - (intOf v5).toNat)
  case atStart => exact ⟨0, rfl, by omega, (by rw [← HWE.out]; exact Below.refl _ _)⟩
  case round =>
    obtain ⟨k, rfl, hk, hbr⟩ := hrel
    by_cases hlt : k < t.length
    · have hlt0 := hlt
      obtain ⟨b1, o1, rfl, hc1⟩ := sl_in H0a.out hlt (by omega)
      obtain ⟨b2, o2, rfl, hc2⟩ := sl_in H0b.out hlt (by omega)
      have d10 : W2.cell? ⟨b1, o1 + k, none⟩ = some (.int .i64 t[k]) := by have := hc1 0 _ (show _ = some (.int .i64 t[k]) by simp [intsV, hlt]); simpa [Nat.add_assoc] using this
      have d20 : W2.cell? ⟨b2, o2 + k, none⟩ = some (.int .i64 t[k]) := by have := hc2 0 _ (show _ = some (.int .i64 t[k]) by simp [intsV, hlt]); simpa [Nat.add_assoc] using this
      clear hc1 hc2
      generalize t[k] = X at *
      have hall : ∀ w' : World, Below W2.heap.size W2 w' → w'.cell? ⟨w.heap.size, 0, none⟩ = some (.slice (some ⟨b1, o1, none⟩) t.length c1) ∧ w'.cell? ⟨w.heap.size + 1, 0, none⟩ = some (.slice (some ⟨b2, o2, none⟩) t.length e1) ∧ w'.cell? ⟨b1, o1 + k, none⟩ = some (.int .i64 X) ∧ w'.cell? ⟨b2, o2 + k, none⟩ = some (.int .i64 X) := fun w' h => ⟨keep_cell h f0a, keep_cell h f0b, keep_cell h d10, keep_cell h d20⟩
      have HALL := hid hall
      obtain ⟨p0, p1, p2, p3⟩ := hall wr hbr
      have HBR := hid hbr
      clear hall hbr
      go_wp2_with fail
      refine wp_region_held_drew (S := fun w' => Below W2.heap.size W2 w') (by kernel_rfl) (HBR.out.trans (below_drawn wr 1)) (fun _ => ?_)
      try simp only [Act.put, List.getElem_toArray, List.getElem_cons_zero, List.getElem_cons_succ, List.setIfInBounds_toArray, List.set_cons_zero, List.set_cons_succ]
      refine wpAnyH_take (i := 0) (v := (.pointer (some ⟨w.heap.size, 0, none⟩))) rfl (by kernel_rfl) (by kernel_rfl) (by kernel_rfl) (fun _ _ _ h => h) (Or.inl ⟨by kernel_rfl, by intro w hSw; obtain ⟨q0, q1, q2, q3⟩ := HALL.out w hSw; clear hSw; go_simp⟩) (HBR.out.trans (below_drawn wr 1)) ?_
      try simp only [Act.put, List.getElem_toArray, List.getElem_cons_zero, List.getElem_cons_succ, List.setIfInBounds_toArray, List.set_cons_zero, List.set_cons_succ]
      refine wpAnyH_take (i := 1) (v := (.slice (some ⟨b1, o1, none⟩) t.length c1)) rfl (by kernel_rfl) (by kernel_rfl) (by kernel_rfl) (fun _ _ _ h => h) (Or.inl ⟨by kernel_rfl, by intro w hSw; obtain ⟨q0, q1, q2, q3⟩ := HALL.out w hSw; clear hSw; go_simp⟩) (HBR.out.trans (below_drawn wr 1)) ?_
      try simp only [Act.put, List.getElem_toArray, List.getElem_cons_zero, List.getElem_cons_succ, List.setIfInBounds_toArray, List.set_cons_zero, List.set_cons_succ]
      refine wpAnyH_take (i := 2) (v := (.int .i64 k)) rfl (by kernel_rfl) (by kernel_rfl) (by kernel_rfl) (fun _ _ _ h => h) (Or.inl ⟨by kernel_rfl, by intro w hSw; obtain ⟨q0, q1, q2, q3⟩ := HALL.out w hSw; clear hSw; go_simp⟩) (HBR.out.trans (below_drawn wr 1)) ?_
      try simp only [Act.put, List.getElem_toArray, List.getElem_cons_zero, List.getElem_cons_succ, List.setIfInBounds_toArray, List.set_cons_zero, List.set_cons_succ]
      refine wpAnyH_take (i := 3) (v := (.pointer (some ⟨b1, o1 + k, none⟩))) rfl (by kernel_rfl) (by kernel_rfl) (by kernel_rfl) (fun _ _ _ h => h) (Or.inl ⟨by kernel_rfl, by intro w hSw; obtain ⟨q0, q1, q2, q3⟩ := HALL.out w hSw; clear hSw; go_simp⟩) (HBR.out.trans (below_drawn wr 1)) ?_
      try simp only [Act.put, List.getElem_toArray, List.getElem_cons_zero, List.getElem_cons_succ, List.setIfInBounds_toArray, List.set_cons_zero, List.set_cons_succ]
      refine wpAnyH_take (i := 4) (v := (.int .i64 X)) rfl (by kernel_rfl) (by kernel_rfl) (by kernel_rfl) (fun _ _ _ h => h) (Or.inl ⟨by kernel_rfl, by intro w hSw; obtain ⟨q0, q1, q2, q3⟩ := HALL.out w hSw; clear hSw; go_simp⟩) (HBR.out.trans (below_drawn wr 1)) ?_
      try simp only [Act.put, List.getElem_toArray, List.getElem_cons_zero, List.getElem_cons_succ, List.setIfInBounds_toArray, List.set_cons_zero, List.set_cons_succ]
      refine wpAnyH_take (i := 5) (v := (.pointer (some ⟨w.heap.size + 1, 0, none⟩))) rfl (by kernel_rfl) (by kernel_rfl) (by kernel_rfl) (fun _ _ _ h => h) (Or.inl ⟨by kernel_rfl, by intro w hSw; obtain ⟨q0, q1, q2, q3⟩ := HALL.out w hSw; clear hSw; go_simp⟩) (HBR.out.trans (below_drawn wr 1)) ?_
      try simp only [Act.put, List.getElem_toArray, List.getElem_cons_zero, List.getElem_cons_succ, List.setIfInBounds_toArray, List.set_cons_zero, List.set_cons_succ]
      refine wpAnyH_take (i := 6) (v := (.slice (some ⟨b2, o2, none⟩) t.length e1)) rfl (by kernel_rfl) (by kernel_rfl) (by kernel_rfl) (fun _ _ _ h => h) (Or.inl ⟨by kernel_rfl, by intro w hSw; obtain ⟨q0, q1, q2, q3⟩ := HALL.out w hSw; clear hSw; go_simp⟩) (HBR.out.trans (below_drawn wr 1)) ?_
      try simp only [Act.put, List.getElem_toArray, List.getElem_cons_zero, List.getElem_cons_succ, List.setIfInBounds_toArray, List.set_cons_zero, List.set_cons_succ]
      refine wpAnyH_take (i := 7) (v := (.int .i64 k)) rfl (by kernel_rfl) (by kernel_rfl) (by kernel_rfl) (fun _ _ _ h => h) (Or.inl ⟨by kernel_rfl, by intro w hSw; obtain ⟨q0, q1, q2, q3⟩ := HALL.out w hSw; clear hSw; go_simp⟩) (HBR.out.trans (below_drawn wr 1)) ?_
      try simp only [Act.put, List.getElem_toArray, List.getElem_cons_zero, List.getElem_cons_succ, List.setIfInBounds_toArray, List.set_cons_zero, List.set_cons_succ]
      refine wpAnyH_take (i := 8) (v := (.pointer (some ⟨b2, o2 + k, none⟩))) rfl (by kernel_rfl) (by kernel_rfl) (by kernel_rfl) (fun _ _ _ h => h) (Or.inl ⟨by kernel_rfl, by intro w hSw; obtain ⟨q0, q1, q2, q3⟩ := HALL.out w hSw; clear hSw; go_simp⟩) (HBR.out.trans (below_drawn wr 1)) ?_
      try simp only [Act.put, List.getElem_toArray, List.getElem_cons_zero, List.getElem_cons_succ, List.setIfInBounds_toArray, List.set_cons_zero, List.set_cons_succ]
      refine wpAnyH_take (i := 9) (v := (.int .i64 X)) rfl (by kernel_rfl) (by kernel_rfl) (by kernel_rfl) (fun _ _ _ h => h) (Or.inl ⟨by kernel_rfl, by intro w hSw; obtain ⟨q0, q1, q2, q3⟩ := HALL.out w hSw; clear hSw; go_simp⟩) (HBR.out.trans (below_drawn wr 1)) ?_
      try simp only [Act.put, List.getElem_toArray, List.getElem_cons_zero, List.getElem_cons_succ, List.setIfInBounds_toArray, List.set_cons_zero, List.set_cons_succ]
      refine wpAnyH_take (i := 10) (v := (.bool false)) rfl (by kernel_rfl) (by kernel_rfl) (by kernel_rfl) (fun _ _ _ h => h) (Or.inl ⟨by kernel_rfl, by intro w hSw; obtain ⟨q0, q1, q2, q3⟩ := HALL.out w hSw; clear hSw; go_simp⟩) (HBR.out.trans (below_drawn wr 1)) ?_
      try simp only [Act.put, List.getElem_toArray, List.getElem_cons_zero, List.getElem_cons_succ, List.setIfInBounds_toArray, List.set_cons_zero, List.set_cons_succ]
      refine wpAnyH_done (by kernel_rfl) ?_ _
      go_wp2_with fail
      go_roundw
      case rel => exact ⟨k + 1, rfl, by omega, (HBR.out.trans (below_drawn wr 1))⟩
      case measure => simp [intOf]; omega
    · obtain rfl : k = t.length := by omega
      have p0 : wr.cell? ⟨w.heap.size, 0, none⟩ = some (.slice A1 t.length c1) := keep_cell hbr f0a
      have p1 : wr.cell? ⟨w.heap.size + 1, 0, none⟩ = some (.slice B1 t.length e1) := keep_cell hbr f0b
      have HBR := hid hbr
      clear hbr
      go_wp2_with fail
      go_loopw [6] (fun v6 wr => ∃ k : Nat, v6 = .int .i64 k ∧ k ≤ n.length ∧ Below W2.heap.size W2 wr) (fun v6 _ => n.length - (intOf v6).toNat)
      case atStart => exact ⟨0, rfl, by omega, HBR.out⟩
      case round =>
        obtain ⟨k, rfl, hk, hbr⟩ := hrel
        by_cases hlt : k < n.length
        · have hlt0 := hlt
          obtain ⟨b1, o1, rfl, hc1⟩ := sl_in H1a.out hlt (by omega)
          obtain ⟨b2, o2, rfl, hc2⟩ := sl_in H1b.out hlt (by omega)
          have d10 : W2.cell? ⟨b1, o1 + k * 2, none⟩ = some (sv n[k].1) := by have := hc1 0 _ (show _ = some (sv n[k].1) by rw [needsV, flat_some (k := 2) (fun _ => rfl) n k hlt 0 (by omega)]; rfl); simpa [Nat.add_assoc] using this
          have d11 : W2.cell? ⟨b1, o1 + k * 2 + 1, none⟩ = some (.int .i64 n[k].2) := by have := hc1 1 _ (show _ = some (.int .i64 n[k].2) by rw [needsV, flat_some (k := 2) (fun _ => rfl) n k hlt 1 (by omega)]; rfl); simpa [Nat.add_assoc] using this
          have d20 : W2.cell? ⟨b2, o2 + k * 2, none⟩ = some (sv n[k].1) := by have := hc2 0 _ (show _ = some (sv n[k].1) by rw [needsV, flat_some (k := 2) (fun _ => rfl) n k hlt 0 (by omega)]; rfl); simpa [Nat.add_assoc] using this
          have d21 : W2.cell? ⟨b2, o2 + k * 2 + 1, none⟩ = some (.int .i64 n[k].2) := by have := hc2 1 _ (show _ = some (.int .i64 n[k].2) by rw [needsV, flat_some (k := 2) (fun _ => rfl) n k hlt 1 (by omega)]; rfl); simpa [Nat.add_assoc] using this
          clear hc1 hc2
          generalize n[k] = X at *
          obtain ⟨x0, x1⟩ := X
          have hall : ∀ w' : World, Below W2.heap.size W2 w' → w'.cell? ⟨w.heap.size, 1, none⟩ = some (.slice (some ⟨b1, o1, none⟩) n.length c2) ∧ w'.cell? ⟨w.heap.size + 1, 1, none⟩ = some (.slice (some ⟨b2, o2, none⟩) n.length e2) ∧ w'.cell? ⟨b1, o1 + k * 2, none⟩ = some (sv x0) ∧ w'.cell? ⟨b1, o1 + k * 2 + 1, none⟩ = some (.int .i64 x1) ∧ w'.cell? ⟨b2, o2 + k * 2, none⟩ = some (sv x0) ∧ w'.cell? ⟨b2, o2 + k * 2 + 1, none⟩ = some (.int .i64 x1) := fun w' h => ⟨keep_cell h f1a, keep_cell h f1b, keep_cell h d10, keep_cell h d11, keep_cell h d20, keep_cell h d21⟩
          have HALL := hid hall
          obtain ⟨p0, p1, p2, p3, p4, p5⟩ := hall wr hbr
          have HBR := hid hbr
          clear hall hbr
          go_wp2_with fail
          refine wp_region_held_drew (S := fun w' => Below W2.heap.size W2 w') (by kernel_rfl) (HBR.out.trans (below_drawn wr 1)) (fun _ => ?_)
          try simp only [Act.put, List.getElem_toArray, List.getElem_cons_zero, List.getElem_cons_succ, List.setIfInBounds_toArray, List.set_cons_zero, List.set_cons_succ]
          refine wpAnyH_take (i := 0) (v := (.pointer (some ⟨w.heap.size, 1, none⟩))) rfl (by kernel_rfl) (by kernel_rfl) (by kernel_rfl) (fun _ _ _ h => h) (Or.inl ⟨by kernel_rfl, by intro w hSw; obtain ⟨q0, q1, q2, q3, q4, q5⟩ := HALL.out w hSw; clear hSw; go_simp⟩) (HBR.out.trans (below_drawn wr 1)) ?_
          try simp only [Act.put, List.getElem_toArray, List.getElem_cons_zero, List.getElem_cons_succ, List.setIfInBounds_toArray, List.set_cons_zero, List.set_cons_succ]
          refine wpAnyH_take (i := 1) (v := (.slice (some ⟨b1, o1, none⟩) n.length c2)) rfl (by kernel_rfl) (by kernel_rfl) (by kernel_rfl) (fun _ _ _ h => h) (Or.inl ⟨by kernel_rfl, by intro w hSw; obtain ⟨q0, q1, q2, q3, q4, q5⟩ := HALL.out w hSw; clear hSw; go_simp⟩) (HBR.out.trans (below_drawn wr 1)) ?_
          try simp only [Act.put, List.getElem_toArray, List.getElem_cons_zero, List.getElem_cons_succ, List.setIfInBounds_toArray, List.set_cons_zero, List.set_cons_succ]
          refine wpAnyH_take (i := 2) (v := (.int .i64 k)) rfl (by kernel_rfl) (by kernel_rfl) (by kernel_rfl) (fun _ _ _ h => h) (Or.inl ⟨by kernel_rfl, by intro w hSw; obtain ⟨q0, q1, q2, q3, q4, q5⟩ := HALL.out w hSw; clear hSw; go_simp⟩) (HBR.out.trans (below_drawn wr 1)) ?_
          try simp only [Act.put, List.getElem_toArray, List.getElem_cons_zero, List.getElem_cons_succ, List.setIfInBounds_toArray, List.set_cons_zero, List.set_cons_succ]
          refine wpAnyH_take (i := 3) (v := (.pointer (some ⟨b1, o1 + k * 2, none⟩))) rfl (by kernel_rfl) (by kernel_rfl) (by kernel_rfl) (fun _ _ _ h => h) (Or.inl ⟨by kernel_rfl, by intro w hSw; obtain ⟨q0, q1, q2, q3, q4, q5⟩ := HALL.out w hSw; clear hSw; go_simp⟩) (HBR.out.trans (below_drawn wr 1)) ?_
          try simp only [Act.put, List.getElem_toArray, List.getElem_cons_zero, List.getElem_cons_succ, List.setIfInBounds_toArray, List.set_cons_zero, List.set_cons_succ]
          refine wpAnyH_take (i := 4) (v := (.agg #[sv x0, .int .i64 x1])) rfl (by kernel_rfl) (by kernel_rfl) (by kernel_rfl) (fun _ _ _ h => h) (Or.inl ⟨by kernel_rfl, by intro w hSw; obtain ⟨q0, q1, q2, q3, q4, q5⟩ := HALL.out w hSw; clear hSw; go_simp⟩) (HBR.out.trans (below_drawn wr 1)) ?_
          try simp only [Act.put, List.getElem_toArray, List.getElem_cons_zero, List.getElem_cons_succ, List.setIfInBounds_toArray, List.set_cons_zero, List.set_cons_succ]
          refine wpAnyH_take (i := 5) (v := (.pointer (some ⟨w.heap.size + 1, 1, none⟩))) rfl (by kernel_rfl) (by kernel_rfl) (by kernel_rfl) (fun _ _ _ h => h) (Or.inl ⟨by kernel_rfl, by intro w hSw; obtain ⟨q0, q1, q2, q3, q4, q5⟩ := HALL.out w hSw; clear hSw; go_simp⟩) (HBR.out.trans (below_drawn wr 1)) ?_
          try simp only [Act.put, List.getElem_toArray, List.getElem_cons_zero, List.getElem_cons_succ, List.setIfInBounds_toArray, List.set_cons_zero, List.set_cons_succ]
          refine wpAnyH_take (i := 6) (v := (.slice (some ⟨b2, o2, none⟩) n.length e2)) rfl (by kernel_rfl) (by kernel_rfl) (by kernel_rfl) (fun _ _ _ h => h) (Or.inl ⟨by kernel_rfl, by intro w hSw; obtain ⟨q0, q1, q2, q3, q4, q5⟩ := HALL.out w hSw; clear hSw; go_simp⟩) (HBR.out.trans (below_drawn wr 1)) ?_
          try simp only [Act.put, List.getElem_toArray, List.getElem_cons_zero, List.getElem_cons_succ, List.setIfInBounds_toArray, List.set_cons_zero, List.set_cons_succ]
          refine wpAnyH_take (i := 7) (v := (.int .i64 k)) rfl (by kernel_rfl) (by kernel_rfl) (by kernel_rfl) (fun _ _ _ h => h) (Or.inl ⟨by kernel_rfl, by intro w hSw; obtain ⟨q0, q1, q2, q3, q4, q5⟩ := HALL.out w hSw; clear hSw; go_simp⟩) (HBR.out.trans (below_drawn wr 1)) ?_
          try simp only [Act.put, List.getElem_toArray, List.getElem_cons_zero, List.getElem_cons_succ, List.setIfInBounds_toArray, List.set_cons_zero, List.set_cons_succ]
          refine wpAnyH_take (i := 8) (v := (.pointer (some ⟨b2, o2 + k * 2, none⟩))) rfl (by kernel_rfl) (by kernel_rfl) (by kernel_rfl) (fun _ _ _ h => h) (Or.inl ⟨by kernel_rfl, by intro w hSw; obtain ⟨q0, q1, q2, q3, q4, q5⟩ := HALL.out w hSw; clear hSw; go_simp⟩) (HBR.out.trans (below_drawn wr 1)) ?_
          try simp only [Act.put, List.getElem_toArray, List.getElem_cons_zero, List.getElem_cons_succ, List.setIfInBounds_toArray, List.set_cons_zero, List.set_cons_succ]
          refine wpAnyH_take (i := 9) (v := (.agg #[sv x0, .int .i64 x1])) rfl (by kernel_rfl) (by kernel_rfl) (by kernel_rfl) (fun _ _ _ h => h) (Or.inl ⟨by kernel_rfl, by intro w hSw; obtain ⟨q0, q1, q2, q3, q4, q5⟩ := HALL.out w hSw; clear hSw; go_simp⟩) (HBR.out.trans (below_drawn wr 1)) ?_
          try simp only [Act.put, List.getElem_toArray, List.getElem_cons_zero, List.getElem_cons_succ, List.setIfInBounds_toArray, List.set_cons_zero, List.set_cons_succ]
          refine wpAnyH_take (i := 10) (v := (.bool false)) rfl (by kernel_rfl) (by kernel_rfl) (by kernel_rfl) (fun _ _ _ h => h) (Or.inl ⟨by kernel_rfl, by intro w hSw; obtain ⟨q0, q1, q2, q3, q4, q5⟩ := HALL.out w hSw; clear hSw; go_simp⟩) (HBR.out.trans (below_drawn wr 1)) ?_
          try simp only [Act.put, List.getElem_toArray, List.getElem_cons_zero, List.getElem_cons_succ, List.setIfInBounds_toArray, List.set_cons_zero, List.set_cons_succ]
          refine wpAnyH_done (by kernel_rfl) ?_ _
          go_wp2_with fail
          go_roundw
          case rel => exact ⟨k + 1, rfl, by omega, (HBR.out.trans (below_drawn wr 1))⟩
          case measure => simp [intOf]; omega
        · obtain rfl : k = n.length := by omega
          have p0 : wr.cell? ⟨w.heap.size, 1, none⟩ = some (.slice A2 n.length c2) := keep_cell hbr f1a
          have p1 : wr.cell? ⟨w.heap.size + 1, 1, none⟩ = some (.slice B2 n.length e2) := keep_cell hbr f1b
          have HBR := hid hbr
          clear hbr
          go_wp2_with fail
          go_loopw [7] (fun v7 wr => ∃ k : Nat, v7 = .int .i64 k ∧ k ≤ m.length ∧ Below W2.heap.size W2 wr) (fun v7 _ => m.length - (intOf v7).toNat)
          case atStart => exact ⟨0, rfl, by omega, HBR.out⟩
          case round =>
            obtain ⟨k, rfl, hk, hbr⟩ := hrel
            by_cases hlt : k < m.length
            · have hlt0 := hlt
              obtain ⟨b1, o1, rfl, hc1⟩ := sl_in H2a.out hlt (by omega)
              obtain ⟨b2, o2, rfl, hc2⟩ := sl_in H2b.out hlt (by omega)
              have d10 : W2.cell? ⟨b1, o1 + k, none⟩ = some (sv m[k]) := by have := hc1 0 _ (show _ = some (sv m[k]) by simp [svs, hlt]); simpa [Nat.add_assoc] using this
              have d20 : W2.cell? ⟨b2, o2 + k, none⟩ = some (sv m[k]) := by have := hc2 0 _ (show _ = some (sv m[k]) by simp [svs, hlt]); simpa [Nat.add_assoc] using this
              clear hc1 hc2
              generalize m[k] = X at *
              have hall : ∀ w' : World, Below W2.heap.size W2 w' → w'.cell? ⟨w.heap.size, 2, none⟩ = some (.slice (some ⟨b1, o1, none⟩) m.length c3) ∧ w'.cell? ⟨w.heap.size + 1, 2, none⟩ = some (.slice (some ⟨b2, o2, none⟩) m.length e3) ∧ w'.cell? ⟨b1, o1 + k, none⟩ = some (sv X) ∧ w'.cell? ⟨b2, o2 + k, none⟩ = some (sv X) := fun w' h => ⟨keep_cell h f2a, keep_cell h f2b, keep_cell h d10, keep_cell h d20⟩
              have HALL := hid hall
              obtain ⟨p0, p1, p2, p3⟩ := hall wr hbr
              have HBR := hid hbr
              clear hall hbr
              go_wp2_with fail
              refine wp_region_held_drew (S := fun w' => Below W2.heap.size W2 w') (by kernel_rfl) (HBR.out.trans (below_drawn wr 1)) (fun _ => ?_)
              try simp only [Act.put, List.getElem_toArray, List.getElem_cons_zero, List.getElem_cons_succ, List.setIfInBounds_toArray, List.set_cons_zero, List.set_cons_succ]
              refine wpAnyH_take (i := 0) (v := (.pointer (some ⟨w.heap.size, 2, none⟩))) rfl (by kernel_rfl) (by kernel_rfl) (by kernel_rfl) (fun _ _ _ h => h) (Or.inl ⟨by kernel_rfl, by intro w hSw; obtain ⟨q0, q1, q2, q3⟩ := HALL.out w hSw; clear hSw; go_simp⟩) (HBR.out.trans (below_drawn wr 1)) ?_
              try simp only [Act.put, List.getElem_toArray, List.getElem_cons_zero, List.getElem_cons_succ, List.setIfInBounds_toArray, List.set_cons_zero, List.set_cons_succ]
              refine wpAnyH_take (i := 1) (v := (.slice (some ⟨b1, o1, none⟩) m.length c3)) rfl (by kernel_rfl) (by kernel_rfl) (by kernel_rfl) (fun _ _ _ h => h) (Or.inl ⟨by kernel_rfl, by intro w hSw; obtain ⟨q0, q1, q2, q3⟩ := HALL.out w hSw; clear hSw; go_simp⟩) (HBR.out.trans (below_drawn wr 1)) ?_
              try simp only [Act.put, List.getElem_toArray, List.getElem_cons_zero, List.getElem_cons_succ, List.setIfInBounds_toArray, List.set_cons_zero, List.set_cons_succ]
              refine wpAnyH_take (i := 2) (v := (.int .i64 k)) rfl (by kernel_rfl) (by kernel_rfl) (by kernel_rfl) (fun _ _ _ h => h) (Or.inl ⟨by kernel_rfl, by intro w hSw; obtain ⟨q0, q1, q2, q3⟩ := HALL.out w hSw; clear hSw; go_simp⟩) (HBR.out.trans (below_drawn wr 1)) ?_
              try simp only [Act.put, List.getElem_toArray, List.getElem_cons_zero, List.getElem_cons_succ, List.setIfInBounds_toArray, List.set_cons_zero, List.set_cons_succ]
              refine wpAnyH_take (i := 3) (v := (.pointer (some ⟨b1, o1 + k, none⟩))) rfl (by kernel_rfl) (by kernel_rfl) (by kernel_rfl) (fun _ _ _ h => h) (Or.inl ⟨by kernel_rfl, by intro w hSw; obtain ⟨q0, q1, q2, q3⟩ := HALL.out w hSw; clear hSw; go_simp⟩) (HBR.out.trans (below_drawn wr 1)) ?_
              try simp only [Act.put, List.getElem_toArray, List.getElem_cons_zero, List.getElem_cons_succ, List.setIfInBounds_toArray, List.set_cons_zero, List.set_cons_succ]
              refine wpAnyH_take (i := 4) (v := (sv X)) rfl (by kernel_rfl) (by kernel_rfl) (by kernel_rfl) (fun _ _ _ h => h) (Or.inl ⟨by kernel_rfl, by intro w hSw; obtain ⟨q0, q1, q2, q3⟩ := HALL.out w hSw; clear hSw; go_simp⟩) (HBR.out.trans (below_drawn wr 1)) ?_
              try simp only [Act.put, List.getElem_toArray, List.getElem_cons_zero, List.getElem_cons_succ, List.setIfInBounds_toArray, List.set_cons_zero, List.set_cons_succ]
              refine wpAnyH_take (i := 5) (v := (.pointer (some ⟨w.heap.size + 1, 2, none⟩))) rfl (by kernel_rfl) (by kernel_rfl) (by kernel_rfl) (fun _ _ _ h => h) (Or.inl ⟨by kernel_rfl, by intro w hSw; obtain ⟨q0, q1, q2, q3⟩ := HALL.out w hSw; clear hSw; go_simp⟩) (HBR.out.trans (below_drawn wr 1)) ?_
              try simp only [Act.put, List.getElem_toArray, List.getElem_cons_zero, List.getElem_cons_succ, List.setIfInBounds_toArray, List.set_cons_zero, List.set_cons_succ]
              refine wpAnyH_take (i := 6) (v := (.slice (some ⟨b2, o2, none⟩) m.length e3)) rfl (by kernel_rfl) (by kernel_rfl) (by kernel_rfl) (fun _ _ _ h => h) (Or.inl ⟨by kernel_rfl, by intro w hSw; obtain ⟨q0, q1, q2, q3⟩ := HALL.out w hSw; clear hSw; go_simp⟩) (HBR.out.trans (below_drawn wr 1)) ?_
              try simp only [Act.put, List.getElem_toArray, List.getElem_cons_zero, List.getElem_cons_succ, List.setIfInBounds_toArray, List.set_cons_zero, List.set_cons_succ]
              refine wpAnyH_take (i := 7) (v := (.int .i64 k)) rfl (by kernel_rfl) (by kernel_rfl) (by kernel_rfl) (fun _ _ _ h => h) (Or.inl ⟨by kernel_rfl, by intro w hSw; obtain ⟨q0, q1, q2, q3⟩ := HALL.out w hSw; clear hSw; go_simp⟩) (HBR.out.trans (below_drawn wr 1)) ?_
              try simp only [Act.put, List.getElem_toArray, List.getElem_cons_zero, List.getElem_cons_succ, List.setIfInBounds_toArray, List.set_cons_zero, List.set_cons_succ]
              refine wpAnyH_take (i := 8) (v := (.pointer (some ⟨b2, o2 + k, none⟩))) rfl (by kernel_rfl) (by kernel_rfl) (by kernel_rfl) (fun _ _ _ h => h) (Or.inl ⟨by kernel_rfl, by intro w hSw; obtain ⟨q0, q1, q2, q3⟩ := HALL.out w hSw; clear hSw; go_simp⟩) (HBR.out.trans (below_drawn wr 1)) ?_
              try simp only [Act.put, List.getElem_toArray, List.getElem_cons_zero, List.getElem_cons_succ, List.setIfInBounds_toArray, List.set_cons_zero, List.set_cons_succ]
              refine wpAnyH_take (i := 9) (v := (sv X)) rfl (by kernel_rfl) (by kernel_rfl) (by kernel_rfl) (fun _ _ _ h => h) (Or.inl ⟨by kernel_rfl, by intro w hSw; obtain ⟨q0, q1, q2, q3⟩ := HALL.out w hSw; clear hSw; go_simp⟩) (HBR.out.trans (below_drawn wr 1)) ?_
              try simp only [Act.put, List.getElem_toArray, List.getElem_cons_zero, List.getElem_cons_succ, List.setIfInBounds_toArray, List.set_cons_zero, List.set_cons_succ]
              refine wpAnyH_take (i := 10) (v := (.bool false)) rfl (by kernel_rfl) (by kernel_rfl) (by kernel_rfl) (fun _ _ _ h => h) (Or.inl ⟨by kernel_rfl, by intro w hSw; obtain ⟨q0, q1, q2, q3⟩ := HALL.out w hSw; clear hSw; go_simp⟩) (HBR.out.trans (below_drawn wr 1)) ?_
              try simp only [Act.put, List.getElem_toArray, List.getElem_cons_zero, List.getElem_cons_succ, List.setIfInBounds_toArray, List.set_cons_zero, List.set_cons_succ]
              refine wpAnyH_done (by kernel_rfl) ?_ _
              go_wp2_with fail
              go_roundw
              case rel => exact ⟨k + 1, rfl, by omega, (HBR.out.trans (below_drawn wr 1))⟩
              case measure => simp [intOf]; omega
            · obtain rfl : k = m.length := by omega
              have p0 : wr.cell? ⟨w.heap.size, 2, none⟩ = some (.slice A3 m.length c3) := keep_cell hbr f2a
              have p1 : wr.cell? ⟨w.heap.size + 1, 2, none⟩ = some (.slice B3 m.length e3) := keep_cell hbr f2b
              have HBR := hid hbr
              clear hbr
              go_wp2_with fail
              go_loopw [8] (fun v8 wr => ∃ k : Nat, v8 = .int .i64 k ∧ k ≤ f.length ∧ Below W2.heap.size W2 wr) (fun v8 _ => f.length - (intOf v8).toNat)
              case atStart => exact ⟨0, rfl, by omega, HBR.out⟩
              case round =>
                obtain ⟨k, rfl, hk, hbr⟩ := hrel
                by_cases hlt : k < f.length
                · have hlt0 := hlt
                  obtain ⟨b1, o1, rfl, hc1⟩ := sl_in H3a.out hlt (by omega)
                  have hr1 := R3a.out.at k hlt
                  obtain ⟨P11, m11, q11, P12, m12, q12, P13, m13, q13, P14, m14, q14, P15, m15, q15, hv1⟩ := hr1.slices
                  rw [hv1] at hr1
                  obtain ⟨b2, o2, rfl, hc2⟩ := sl_in H3b.out hlt (by omega)
                  have hr2 := R3b.out.at k hlt
                  obtain ⟨P21, m21, q21, P22, m22, q22, P23, m23, q23, P24, m24, q24, P25, m25, q25, hv2⟩ := hr2.slices
                  rw [hv2] at hr2
                  have d10 : W2.cell? ⟨b1, o1 + k * 5, none⟩ = some (.slice P11 m11 q11) := by have := hc1 0 _ (part_get hv1 (by omega : 0 < 5)); simpa [Nat.add_assoc] using this
                  have d11 : W2.cell? ⟨b1, o1 + k * 5 + 1, none⟩ = some (.slice P12 m12 q12) := by have := hc1 1 _ (part_get hv1 (by omega : 1 < 5)); simpa [Nat.add_assoc] using this
                  have d12 : W2.cell? ⟨b1, o1 + k * 5 + 2, none⟩ = some (.slice P13 m13 q13) := by have := hc1 2 _ (part_get hv1 (by omega : 2 < 5)); simpa [Nat.add_assoc] using this
                  have d13 : W2.cell? ⟨b1, o1 + k * 5 + 3, none⟩ = some (.slice P14 m14 q14) := by have := hc1 3 _ (part_get hv1 (by omega : 3 < 5)); simpa [Nat.add_assoc] using this
                  have d14 : W2.cell? ⟨b1, o1 + k * 5 + 4, none⟩ = some (.slice P15 m15 q15) := by have := hc1 4 _ (part_get hv1 (by omega : 4 < 5)); simpa [Nat.add_assoc] using this
                  have d20 : W2.cell? ⟨b2, o2 + k * 5, none⟩ = some (.slice P21 m21 q21) := by have := hc2 0 _ (part_get hv2 (by omega : 0 < 5)); simpa [Nat.add_assoc] using this
                  have d21 : W2.cell? ⟨b2, o2 + k * 5 + 1, none⟩ = some (.slice P22 m22 q22) := by have := hc2 1 _ (part_get hv2 (by omega : 1 < 5)); simpa [Nat.add_assoc] using this
                  have d22 : W2.cell? ⟨b2, o2 + k * 5 + 2, none⟩ = some (.slice P23 m23 q23) := by have := hc2 2 _ (part_get hv2 (by omega : 2 < 5)); simpa [Nat.add_assoc] using this
                  have d23 : W2.cell? ⟨b2, o2 + k * 5 + 3, none⟩ = some (.slice P24 m24 q24) := by have := hc2 3 _ (part_get hv2 (by omega : 3 < 5)); simpa [Nat.add_assoc] using this
                  have d24 : W2.cell? ⟨b2, o2 + k * 5 + 4, none⟩ = some (.slice P25 m25 q25) := by have := hc2 4 _ (part_get hv2 (by omega : 4 < 5)); simpa [Nat.add_assoc] using this
                  have HP := hid (HF.out _ (List.getElem_mem hlt) wr.drew [(.slice P11 m11 q11), (.slice P12 m12 q12), (.slice P13 m13 q13), (.slice P14 m14 q14), (.slice P15 m15 q15)] [(.slice P21 m21 q21), (.slice P22 m22 q22), (.slice P23 m23 q23), (.slice P24 m24 q24), (.slice P25 m25 q25)] (hr1.far HBS.out (hbr.trans (below_drawn wr 1))) (hr2.far HBS.out (hbr.trans (below_drawn wr 1))))
                  clear hc1 hc2 hv1 hv2 hr1 hr2
                  have hall : ∀ w' : World, Below W2.heap.size W2 w' → w'.cell? ⟨w.heap.size, 3, none⟩ = some (.slice (some ⟨b1, o1, none⟩) f.length c4) ∧ w'.cell? ⟨w.heap.size + 1, 3, none⟩ = some (.slice (some ⟨b2, o2, none⟩) f.length e4) ∧ w'.cell? ⟨b1, o1 + k * 5, none⟩ = some (.slice P11 m11 q11) ∧ w'.cell? ⟨b1, o1 + k * 5 + 1, none⟩ = some (.slice P12 m12 q12) ∧ w'.cell? ⟨b1, o1 + k * 5 + 2, none⟩ = some (.slice P13 m13 q13) ∧ w'.cell? ⟨b1, o1 + k * 5 + 3, none⟩ = some (.slice P14 m14 q14) ∧ w'.cell? ⟨b1, o1 + k * 5 + 4, none⟩ = some (.slice P15 m15 q15) ∧ w'.cell? ⟨b2, o2 + k * 5, none⟩ = some (.slice P21 m21 q21) ∧ w'.cell? ⟨b2, o2 + k * 5 + 1, none⟩ = some (.slice P22 m22 q22) ∧ w'.cell? ⟨b2, o2 + k * 5 + 2, none⟩ = some (.slice P23 m23 q23) ∧ w'.cell? ⟨b2, o2 + k * 5 + 3, none⟩ = some (.slice P24 m24 q24) ∧ w'.cell? ⟨b2, o2 + k * 5 + 4, none⟩ = some (.slice P25 m25 q25) := fun w' h => ⟨keep_cell h f3a, keep_cell h f3b, keep_cell h d10, keep_cell h d11, keep_cell h d12, keep_cell h d13, keep_cell h d14, keep_cell h d20, keep_cell h d21, keep_cell h d22, keep_cell h d23, keep_cell h d24⟩
                  have HALL := hid hall
                  obtain ⟨p0, p1, p2, p3, p4, p5, p6, p7, p8, p9, p10, p11⟩ := hall wr hbr
                  have HBR := hid hbr
                  clear hall hbr
                  go_wp2_with fail
                  refine wp_region_held_drew (S := fun w' => Below W2.heap.size W2 w') (by kernel_rfl) (HBR.out.trans (below_drawn wr 1)) (fun _ => ?_)
                  try simp only [Act.put, List.getElem_toArray, List.getElem_cons_zero, List.getElem_cons_succ, List.setIfInBounds_toArray, List.set_cons_zero, List.set_cons_succ]
                  refine wpAnyH_take (i := 0) (v := (.pointer (some ⟨w.heap.size, 3, none⟩))) rfl (by kernel_rfl) (by kernel_rfl) (by kernel_rfl) (fun _ _ _ h => h) (Or.inl ⟨by kernel_rfl, by intro w hSw; obtain ⟨q0, q1, q2, q3, q4, q5, q6, q7, q8, q9, q10, q11⟩ := HALL.out w hSw; clear hSw; go_simp⟩) (HBR.out.trans (below_drawn wr 1)) ?_
                  try simp only [Act.put, List.getElem_toArray, List.getElem_cons_zero, List.getElem_cons_succ, List.setIfInBounds_toArray, List.set_cons_zero, List.set_cons_succ]
                  refine wpAnyH_take (i := 1) (v := (.slice (some ⟨b1, o1, none⟩) f.length c4)) rfl (by kernel_rfl) (by kernel_rfl) (by kernel_rfl) (fun _ _ _ h => h) (Or.inl ⟨by kernel_rfl, by intro w hSw; obtain ⟨q0, q1, q2, q3, q4, q5, q6, q7, q8, q9, q10, q11⟩ := HALL.out w hSw; clear hSw; go_simp⟩) (HBR.out.trans (below_drawn wr 1)) ?_
                  try simp only [Act.put, List.getElem_toArray, List.getElem_cons_zero, List.getElem_cons_succ, List.setIfInBounds_toArray, List.set_cons_zero, List.set_cons_succ]
                  refine wpAnyH_take (i := 2) (v := (.int .i64 k)) rfl (by kernel_rfl) (by kernel_rfl) (by kernel_rfl) (fun _ _ _ h => h) (Or.inl ⟨by kernel_rfl, by intro w hSw; obtain ⟨q0, q1, q2, q3, q4, q5, q6, q7, q8, q9, q10, q11⟩ := HALL.out w hSw; clear hSw; go_simp⟩) (HBR.out.trans (below_drawn wr 1)) ?_
                  try simp only [Act.put, List.getElem_toArray, List.getElem_cons_zero, List.getElem_cons_succ, List.setIfInBounds_toArray, List.set_cons_zero, List.set_cons_succ]
                  refine wpAnyH_take (i := 3) (v := (.pointer (some ⟨b1, o1 + k * 5, none⟩))) rfl (by kernel_rfl) (by kernel_rfl) (by kernel_rfl) (fun _ _ _ h => h) (Or.inl ⟨by kernel_rfl, by intro w hSw; obtain ⟨q0, q1, q2, q3, q4, q5, q6, q7, q8, q9, q10, q11⟩ := HALL.out w hSw; clear hSw; go_simp⟩) (HBR.out.trans (below_drawn wr 1)) ?_
                  try simp only [Act.put, List.getElem_toArray, List.getElem_cons_zero, List.getElem_cons_succ, List.setIfInBounds_toArray, List.set_cons_zero, List.set_cons_succ]
                  refine wpAnyH_take (i := 4) (v := (.agg #[(.slice P11 m11 q11), (.slice P12 m12 q12), (.slice P13 m13 q13), (.slice P14 m14 q14), (.slice P15 m15 q15)])) rfl (by kernel_rfl) (by kernel_rfl) (by kernel_rfl) (fun _ _ _ h => h) (Or.inl ⟨by kernel_rfl, by intro w hSw; obtain ⟨q0, q1, q2, q3, q4, q5, q6, q7, q8, q9, q10, q11⟩ := HALL.out w hSw; clear hSw; go_simp⟩) (HBR.out.trans (below_drawn wr 1)) ?_
                  try simp only [Act.put, List.getElem_toArray, List.getElem_cons_zero, List.getElem_cons_succ, List.setIfInBounds_toArray, List.set_cons_zero, List.set_cons_succ]
                  refine wpAnyH_take (i := 5) (v := (.pointer (some ⟨w.heap.size + 1, 3, none⟩))) rfl (by kernel_rfl) (by kernel_rfl) (by kernel_rfl) (fun _ _ _ h => h) (Or.inl ⟨by kernel_rfl, by intro w hSw; obtain ⟨q0, q1, q2, q3, q4, q5, q6, q7, q8, q9, q10, q11⟩ := HALL.out w hSw; clear hSw; go_simp⟩) (HBR.out.trans (below_drawn wr 1)) ?_
                  try simp only [Act.put, List.getElem_toArray, List.getElem_cons_zero, List.getElem_cons_succ, List.setIfInBounds_toArray, List.set_cons_zero, List.set_cons_succ]
                  refine wpAnyH_take (i := 6) (v := (.slice (some ⟨b2, o2, none⟩) f.length e4)) rfl (by kernel_rfl) (by kernel_rfl) (by kernel_rfl) (fun _ _ _ h => h) (Or.inl ⟨by kernel_rfl, by intro w hSw; obtain ⟨q0, q1, q2, q3, q4, q5, q6, q7, q8, q9, q10, q11⟩ := HALL.out w hSw; clear hSw; go_simp⟩) (HBR.out.trans (below_drawn wr 1)) ?_
                  try simp only [Act.put, List.getElem_toArray, List.getElem_cons_zero, List.getElem_cons_succ, List.setIfInBounds_toArray, List.set_cons_zero, List.set_cons_succ]
                  refine wpAnyH_take (i := 7) (v := (.int .i64 k)) rfl (by kernel_rfl) (by kernel_rfl) (by kernel_rfl) (fun _ _ _ h => h) (Or.inl ⟨by kernel_rfl, by intro w hSw; obtain ⟨q0, q1, q2, q3, q4, q5, q6, q7, q8, q9, q10, q11⟩ := HALL.out w hSw; clear hSw; go_simp⟩) (HBR.out.trans (below_drawn wr 1)) ?_
                  try simp only [Act.put, List.getElem_toArray, List.getElem_cons_zero, List.getElem_cons_succ, List.setIfInBounds_toArray, List.set_cons_zero, List.set_cons_succ]
                  refine wpAnyH_take (i := 8) (v := (.pointer (some ⟨b2, o2 + k * 5, none⟩))) rfl (by kernel_rfl) (by kernel_rfl) (by kernel_rfl) (fun _ _ _ h => h) (Or.inl ⟨by kernel_rfl, by intro w hSw; obtain ⟨q0, q1, q2, q3, q4, q5, q6, q7, q8, q9, q10, q11⟩ := HALL.out w hSw; clear hSw; go_simp⟩) (HBR.out.trans (below_drawn wr 1)) ?_
                  try simp only [Act.put, List.getElem_toArray, List.getElem_cons_zero, List.getElem_cons_succ, List.setIfInBounds_toArray, List.set_cons_zero, List.set_cons_succ]
                  refine wpAnyH_take (i := 9) (v := (.agg #[(.slice P21 m21 q21), (.slice P22 m22 q22), (.slice P23 m23 q23), (.slice P24 m24 q24), (.slice P25 m25 q25)])) rfl (by kernel_rfl) (by kernel_rfl) (by kernel_rfl) (fun _ _ _ h => h) (Or.inl ⟨by kernel_rfl, by intro w hSw; obtain ⟨q0, q1, q2, q3, q4, q5, q6, q7, q8, q9, q10, q11⟩ := HALL.out w hSw; clear hSw; go_simp⟩) (HBR.out.trans (below_drawn wr 1)) ?_
                  try simp only [Act.put, List.getElem_toArray, List.getElem_cons_zero, List.getElem_cons_succ, List.setIfInBounds_toArray, List.set_cons_zero, List.set_cons_succ]
                  refine wpAnyH_ready (rs := [10]) (by kernel_rfl) (by simp) ?_
                  refine AllReadyH.cons rfl (fun K hK => ?_) AllReadyH.nil
                  go_simp
                  refine (HP.out).mono ?_
                  rintro e w5 ⟨rfl, hb5⟩
                  have hS5 : Below W2.heap.size W2 w5 := (HBR.out.trans (below_drawn wr 1)).trans (hb5.mono (HBR.out.trans (below_drawn wr 1)).size)
                  refine hK.out _ _ hS5 (fun _ => ?_)
                  clear hK K
                  try simp only [Act.put, List.getElem_toArray, List.getElem_cons_zero, List.getElem_cons_succ, List.setIfInBounds_toArray, List.set_cons_zero, List.set_cons_succ]
                  refine wpAnyH_take (i := 11) (v := .bool true) rfl (by kernel_rfl) (by kernel_rfl) (by kernel_rfl) (fun _ _ _ h => h) (Or.inl ⟨by kernel_rfl, by intro w hSw; obtain ⟨q0, q1, q2, q3, q4, q5, q6, q7, q8, q9, q10, q11⟩ := HALL.out w hSw; clear hSw; go_simp⟩) hS5 ?_
                  try simp only [Act.put, List.getElem_toArray, List.getElem_cons_zero, List.getElem_cons_succ, List.setIfInBounds_toArray, List.set_cons_zero, List.set_cons_succ]
                  refine wpAnyH_done (by kernel_rfl) ?_ _
                  go_wp2_with fail
                  go_roundw
                  case rel => exact ⟨k + 1, rfl, by omega, hS5⟩
                  case measure => simp [intOf]; omega
                · obtain rfl : k = f.length := by omega
                  have p0 : wr.cell? ⟨w.heap.size, 3, none⟩ = some (.slice A4 f.length c4) := keep_cell hbr f3a
                  have p1 : wr.cell? ⟨w.heap.size + 1, 3, none⟩ = some (.slice B4 f.length e4) := keep_cell hbr f3b
                  have HBR := hid hbr
                  clear hbr
                  go_wp2_with fail
                  go_loopw [10] (fun v10 wr => ∃ k : Nat, v10 = .int .i64 k ∧ k ≤ u.length ∧ Below W2.heap.size W2 wr) (fun v10 _ => u.length - (intOf v10).toNat)
                  case atStart => exact ⟨0, rfl, by omega, HBR.out⟩
                  case round =>
                    obtain ⟨k, rfl, hk, hbr⟩ := hrel
                    by_cases hlt : k < u.length
                    · have hlt0 := hlt
                      obtain ⟨b1, o1, rfl, hc1⟩ := sl_in H4a.out hlt (by omega)
                      have hr1 := R4a.out.at k hlt
                      obtain ⟨P11, m11, q11, P12, m12, q12, P13, m13, q13, P14, m14, q14, P15, m15, q15, hv1⟩ := hr1.slices
                      rw [hv1] at hr1
                      obtain ⟨b2, o2, rfl, hc2⟩ := sl_in H4b.out hlt (by omega)
                      have hr2 := R4b.out.at k hlt
                      obtain ⟨P21, m21, q21, P22, m22, q22, P23, m23, q23, P24, m24, q24, P25, m25, q25, hv2⟩ := hr2.slices
                      rw [hv2] at hr2
                      have d10 : W2.cell? ⟨b1, o1 + k * 5, none⟩ = some (.slice P11 m11 q11) := by have := hc1 0 _ (part_get hv1 (by omega : 0 < 5)); simpa [Nat.add_assoc] using this
                      have d11 : W2.cell? ⟨b1, o1 + k * 5 + 1, none⟩ = some (.slice P12 m12 q12) := by have := hc1 1 _ (part_get hv1 (by omega : 1 < 5)); simpa [Nat.add_assoc] using this
                      have d12 : W2.cell? ⟨b1, o1 + k * 5 + 2, none⟩ = some (.slice P13 m13 q13) := by have := hc1 2 _ (part_get hv1 (by omega : 2 < 5)); simpa [Nat.add_assoc] using this
                      have d13 : W2.cell? ⟨b1, o1 + k * 5 + 3, none⟩ = some (.slice P14 m14 q14) := by have := hc1 3 _ (part_get hv1 (by omega : 3 < 5)); simpa [Nat.add_assoc] using this
                      have d14 : W2.cell? ⟨b1, o1 + k * 5 + 4, none⟩ = some (.slice P15 m15 q15) := by have := hc1 4 _ (part_get hv1 (by omega : 4 < 5)); simpa [Nat.add_assoc] using this
                      have d20 : W2.cell? ⟨b2, o2 + k * 5, none⟩ = some (.slice P21 m21 q21) := by have := hc2 0 _ (part_get hv2 (by omega : 0 < 5)); simpa [Nat.add_assoc] using this
                      have d21 : W2.cell? ⟨b2, o2 + k * 5 + 1, none⟩ = some (.slice P22 m22 q22) := by have := hc2 1 _ (part_get hv2 (by omega : 1 < 5)); simpa [Nat.add_assoc] using this
                      have d22 : W2.cell? ⟨b2, o2 + k * 5 + 2, none⟩ = some (.slice P23 m23 q23) := by have := hc2 2 _ (part_get hv2 (by omega : 2 < 5)); simpa [Nat.add_assoc] using this
                      have d23 : W2.cell? ⟨b2, o2 + k * 5 + 3, none⟩ = some (.slice P24 m24 q24) := by have := hc2 3 _ (part_get hv2 (by omega : 3 < 5)); simpa [Nat.add_assoc] using this
                      have d24 : W2.cell? ⟨b2, o2 + k * 5 + 4, none⟩ = some (.slice P25 m25 q25) := by have := hc2 4 _ (part_get hv2 (by omega : 4 < 5)); simpa [Nat.add_assoc] using this
                      have HP := hid (HU.out _ (List.getElem_mem hlt) wr.drew [(.slice P11 m11 q11), (.slice P12 m12 q12), (.slice P13 m13 q13), (.slice P14 m14 q14), (.slice P15 m15 q15)] [(.slice P21 m21 q21), (.slice P22 m22 q22), (.slice P23 m23 q23), (.slice P24 m24 q24), (.slice P25 m25 q25)] (hr1.far HBS.out (hbr.trans (below_drawn wr 1))) (hr2.far HBS.out (hbr.trans (below_drawn wr 1))))
                      clear hc1 hc2 hv1 hv2 hr1 hr2
                      have hall : ∀ w' : World, Below W2.heap.size W2 w' → w'.cell? ⟨w.heap.size, 4, none⟩ = some (.slice (some ⟨b1, o1, none⟩) u.length c5) ∧ w'.cell? ⟨w.heap.size + 1, 4, none⟩ = some (.slice (some ⟨b2, o2, none⟩) u.length e5) ∧ w'.cell? ⟨b1, o1 + k * 5, none⟩ = some (.slice P11 m11 q11) ∧ w'.cell? ⟨b1, o1 + k * 5 + 1, none⟩ = some (.slice P12 m12 q12) ∧ w'.cell? ⟨b1, o1 + k * 5 + 2, none⟩ = some (.slice P13 m13 q13) ∧ w'.cell? ⟨b1, o1 + k * 5 + 3, none⟩ = some (.slice P14 m14 q14) ∧ w'.cell? ⟨b1, o1 + k * 5 + 4, none⟩ = some (.slice P15 m15 q15) ∧ w'.cell? ⟨b2, o2 + k * 5, none⟩ = some (.slice P21 m21 q21) ∧ w'.cell? ⟨b2, o2 + k * 5 + 1, none⟩ = some (.slice P22 m22 q22) ∧ w'.cell? ⟨b2, o2 + k * 5 + 2, none⟩ = some (.slice P23 m23 q23) ∧ w'.cell? ⟨b2, o2 + k * 5 + 3, none⟩ = some (.slice P24 m24 q24) ∧ w'.cell? ⟨b2, o2 + k * 5 + 4, none⟩ = some (.slice P25 m25 q25) := fun w' h => ⟨keep_cell h f4a, keep_cell h f4b, keep_cell h d10, keep_cell h d11, keep_cell h d12, keep_cell h d13, keep_cell h d14, keep_cell h d20, keep_cell h d21, keep_cell h d22, keep_cell h d23, keep_cell h d24⟩
                      have HALL := hid hall
                      obtain ⟨p0, p1, p2, p3, p4, p5, p6, p7, p8, p9, p10, p11⟩ := hall wr hbr
                      have HBR := hid hbr
                      clear hall hbr
                      go_wp2_with fail
                      refine wp_region_held_drew (S := fun w' => Below W2.heap.size W2 w') (by kernel_rfl) (HBR.out.trans (below_drawn wr 1)) (fun _ => ?_)
                      try simp only [Act.put, List.getElem_toArray, List.getElem_cons_zero, List.getElem_cons_succ, List.setIfInBounds_toArray, List.set_cons_zero, List.set_cons_succ]
                      refine wpAnyH_take (i := 0) (v := (.pointer (some ⟨w.heap.size, 4, none⟩))) rfl (by kernel_rfl) (by kernel_rfl) (by kernel_rfl) (fun _ _ _ h => h) (Or.inl ⟨by kernel_rfl, by intro w hSw; obtain ⟨q0, q1, q2, q3, q4, q5, q6, q7, q8, q9, q10, q11⟩ := HALL.out w hSw; clear hSw; go_simp⟩) (HBR.out.trans (below_drawn wr 1)) ?_
                      try simp only [Act.put, List.getElem_toArray, List.getElem_cons_zero, List.getElem_cons_succ, List.setIfInBounds_toArray, List.set_cons_zero, List.set_cons_succ]
                      refine wpAnyH_take (i := 1) (v := (.slice (some ⟨b1, o1, none⟩) u.length c5)) rfl (by kernel_rfl) (by kernel_rfl) (by kernel_rfl) (fun _ _ _ h => h) (Or.inl ⟨by kernel_rfl, by intro w hSw; obtain ⟨q0, q1, q2, q3, q4, q5, q6, q7, q8, q9, q10, q11⟩ := HALL.out w hSw; clear hSw; go_simp⟩) (HBR.out.trans (below_drawn wr 1)) ?_
                      try simp only [Act.put, List.getElem_toArray, List.getElem_cons_zero, List.getElem_cons_succ, List.setIfInBounds_toArray, List.set_cons_zero, List.set_cons_succ]
                      refine wpAnyH_take (i := 2) (v := (.int .i64 k)) rfl (by kernel_rfl) (by kernel_rfl) (by kernel_rfl) (fun _ _ _ h => h) (Or.inl ⟨by kernel_rfl, by intro w hSw; obtain ⟨q0, q1, q2, q3, q4, q5, q6, q7, q8, q9, q10, q11⟩ := HALL.out w hSw; clear hSw; go_simp⟩) (HBR.out.trans (below_drawn wr 1)) ?_
                      try simp only [Act.put, List.getElem_toArray, List.getElem_cons_zero, List.getElem_cons_succ, List.setIfInBounds_toArray, List.set_cons_zero, List.set_cons_succ]
                      refine wpAnyH_take (i := 3) (v := (.pointer (some ⟨b1, o1 + k * 5, none⟩))) rfl (by kernel_rfl) (by kernel_rfl) (by kernel_rfl) (fun _ _ _ h => h) (Or.inl ⟨by kernel_rfl, by intro w hSw; obtain ⟨q0, q1, q2, q3, q4, q5, q6, q7, q8, q9, q10, q11⟩ := HALL.out w hSw; clear hSw; go_simp⟩) (HBR.out.trans (below_drawn wr 1)) ?_
                      try simp only [Act.put, List.getElem_toArray, List.getElem_cons_zero, List.getElem_cons_succ, List.setIfInBounds_toArray, List.set_cons_zero, List.set_cons_succ]
                      refine wpAnyH_take (i := 4) (v := (.agg #[(.slice P11 m11 q11), (.slice P12 m12 q12), (.slice P13 m13 q13), (.slice P14 m14 q14), (.slice P15 m15 q15)])) rfl (by kernel_rfl) (by kernel_rfl) (by kernel_rfl) (fun _ _ _ h => h) (Or.inl ⟨by kernel_rfl, by intro w hSw; obtain ⟨q0, q1, q2, q3, q4, q5, q6, q7, q8, q9, q10, q11⟩ := HALL.out w hSw; clear hSw; go_simp⟩) (HBR.out.trans (below_drawn wr 1)) ?_
                      try simp only [Act.put, List.getElem_toArray, List.getElem_cons_zero, List.getElem_cons_succ, List.setIfInBounds_toArray, List.set_cons_zero, List.set_cons_succ]
                      refine wpAnyH_take (i := 5) (v := (.pointer (some ⟨w.heap.size + 1, 4, none⟩))) rfl (by kernel_rfl) (by kernel_rfl) (by kernel_rfl) (fun _ _ _ h => h) (Or.inl ⟨by kernel_rfl, by intro w hSw; obtain ⟨q0, q1, q2, q3, q4, q5, q6, q7, q8, q9, q10, q11⟩ := HALL.out w hSw; clear hSw; go_simp⟩) (HBR.out.trans (below_drawn wr 1)) ?_
                      try simp only [Act.put, List.getElem_toArray, List.getElem_cons_zero, List.getElem_cons_succ, List.setIfInBounds_toArray, List.set_cons_zero, List.set_cons_succ]
                      refine wpAnyH_take (i := 6) (v := (.slice (some ⟨b2, o2, none⟩) u.length e5)) rfl (by kernel_rfl) (by kernel_rfl) (by kernel_rfl) (fun _ _ _ h => h) (Or.inl ⟨by kernel_rfl, by intro w hSw; obtain ⟨q0, q1, q2, q3, q4, q5, q6, q7, q8, q9, q10, q11⟩ := HALL.out w hSw; clear hSw; go_simp⟩) (HBR.out.trans (below_drawn wr 1)) ?_
                      try simp only [Act.put, List.getElem_toArray, List.getElem_cons_zero, List.getElem_cons_succ, List.setIfInBounds_toArray, List.set_cons_zero, List.set_cons_succ]
                      refine wpAnyH_take (i := 7) (v := (.int .i64 k)) rfl (by kernel_rfl) (by kernel_rfl) (by kernel_rfl) (fun _ _ _ h => h) (Or.inl ⟨by kernel_rfl, by intro w hSw; obtain ⟨q0, q1, q2, q3, q4, q5, q6, q7, q8, q9, q10, q11⟩ := HALL.out w hSw; clear hSw; go_simp⟩) (HBR.out.trans (below_drawn wr 1)) ?_
                      try simp only [Act.put, List.getElem_toArray, List.getElem_cons_zero, List.getElem_cons_succ, List.setIfInBounds_toArray, List.set_cons_zero, List.set_cons_succ]
                      refine wpAnyH_take (i := 8) (v := (.pointer (some ⟨b2, o2 + k * 5, none⟩))) rfl (by kernel_rfl) (by kernel_rfl) (by kernel_rfl) (fun _ _ _ h => h) (Or.inl ⟨by kernel_rfl, by intro w hSw; obtain ⟨q0, q1, q2, q3, q4, q5, q6, q7, q8, q9, q10, q11⟩ := HALL.out w hSw; clear hSw; go_simp⟩) (HBR.out.trans (below_drawn wr 1)) ?_
                      try simp only [Act.put, List.getElem_toArray, List.getElem_cons_zero, List.getElem_cons_succ, List.setIfInBounds_toArray, List.set_cons_zero, List.set_cons_succ]
                      refine wpAnyH_take (i := 9) (v := (.agg #[(.slice P21 m21 q21), (.slice P22 m22 q22), (.slice P23 m23 q23), (.slice P24 m24 q24), (.slice P25 m25 q25)])) rfl (by kernel_rfl) (by kernel_rfl) (by kernel_rfl) (fun _ _ _ h => h) (Or.inl ⟨by kernel_rfl, by intro w hSw; obtain ⟨q0, q1, q2, q3, q4, q5, q6, q7, q8, q9, q10, q11⟩ := HALL.out w hSw; clear hSw; go_simp⟩) (HBR.out.trans (below_drawn wr 1)) ?_
                      try simp only [Act.put, List.getElem_toArray, List.getElem_cons_zero, List.getElem_cons_succ, List.setIfInBounds_toArray, List.set_cons_zero, List.set_cons_succ]
                      refine wpAnyH_ready (rs := [10]) (by kernel_rfl) (by simp) ?_
                      refine AllReadyH.cons rfl (fun K hK => ?_) AllReadyH.nil
                      go_simp
                      refine (HP.out).mono ?_
                      rintro e w5 ⟨rfl, hb5⟩
                      have hS5 : Below W2.heap.size W2 w5 := (HBR.out.trans (below_drawn wr 1)).trans (hb5.mono (HBR.out.trans (below_drawn wr 1)).size)
                      refine hK.out _ _ hS5 (fun _ => ?_)
                      clear hK K
                      try simp only [Act.put, List.getElem_toArray, List.getElem_cons_zero, List.getElem_cons_succ, List.setIfInBounds_toArray, List.set_cons_zero, List.set_cons_succ]
                      refine wpAnyH_take (i := 11) (v := .bool true) rfl (by kernel_rfl) (by kernel_rfl) (by kernel_rfl) (fun _ _ _ h => h) (Or.inl ⟨by kernel_rfl, by intro w hSw; obtain ⟨q0, q1, q2, q3, q4, q5, q6, q7, q8, q9, q10, q11⟩ := HALL.out w hSw; clear hSw; go_simp⟩) hS5 ?_
                      try simp only [Act.put, List.getElem_toArray, List.getElem_cons_zero, List.getElem_cons_succ, List.setIfInBounds_toArray, List.set_cons_zero, List.set_cons_succ]
                      refine wpAnyH_done (by kernel_rfl) ?_ _
                      go_wp2_with fail
                      go_roundw
                      case rel => exact ⟨k + 1, rfl, by omega, hS5⟩
                      case measure => simp [intOf]; omega
                    · obtain rfl : k = u.length := by omega
                      have p0 : wr.cell? ⟨w.heap.size, 4, none⟩ = some (.slice A5 u.length c5) := keep_cell hbr f4a
                      have p1 : wr.cell? ⟨w.heap.size + 1, 4, none⟩ = some (.slice B5 u.length e5) := keep_cell hbr f4b
                      have HBR := hid hbr
                      clear hbr
                      go_wp2_with fail
                      go_ret
                      exact ⟨rfl, HB2.out.trans ((HBR.out).mono HB2.out.size)⟩
theorem same_all : ∀ (k : Nat) (c : CoD), SizeOf.sizeOf c < k → SameC c
  | 0, c, h => absurd h (by omega)
  | k + 1, .mk t n m f u, h => by
    simp only [CoD.mk.sizeOf_spec] at h
    exact same_step t n m f u (fun x hx => same_all k x (by have := List.sizeOf_lt_of_mem hx; omega)) (fun x hx => same_all k x (by have := List.sizeOf_lt_of_mem hx; omega))
theorem same_any (c : CoD) : SameC c := same_all _ c (Nat.lt_succ_self _)
set_option maxRecDepth 100000 in
set_option maxHeartbeats 8000000 in
theorem codes_same (c : CodeD) (w : World) (x y : List Value) (ha : CodeR w w.heap.size x c) (hb : CodeR w w.heap.size y c) :
    Calls Try.prog 14 #[.agg x.toArray, .agg y.toArray] w fun e w' => e = .returned (.bool true) ∧ Below w.heap.size w w' := by
  obtain ⟨A1, c1, A2, c2, A3, c3, A4, c4, A5, c5, xh, xc, xp, rfl, s1, s2, s3, q3, s4, q4, s5, q5⟩ := code_parts ha
  obtain ⟨B1, e1, B2, e2, B3, e3, B4, e4, B5, e5, yh, yc, yp, rfl, z1, z2, z3, r3, z4, r4, z5, r5⟩ := code_parts hb
  have l1 := (sl_len s1).2; have l2 := (sl_len s2).2; have l3 := (sl_len s3).2; have l4 := (sl_len s4).2; have l5 := (sl_len s5).2
  have l6 := (sl_len z1).2; have l7 := (sl_len z2).2; have l8 := (sl_len z3).2; have l9 := (sl_len z4).2; have l10 := (sl_len z5).2
  clear ha hb
  obtain ⟨t, ss, hh, cc, pp, mn, mg⟩ := c
  simp only at *
  have hz0 := heap_alloc_new w (.cells #[.slice A1 t.length c1, .slice A2 ss.length c2, .slice A3 hh.length c3, .slice A4 cc.length c4, .slice A5 pp.length c5, .int .i64 mn, .bool mg] 28)
  obtain ⟨W1, hW1⟩ : ∃ W1, W1 = w.alloc (.cells #[.slice A1 t.length c1, .slice A2 ss.length c2, .slice A3 hh.length c3, .slice A4 cc.length c4, .slice A5 pp.length c5, .int .i64 mn, .bool mg] 28) := ⟨_, rfl⟩
  have hb1 : Below w.heap.size w W1 := by rw [hW1]; exact (Below.refl _ _).alloc (Nat.le_refl _) _
  rw [← hW1] at hz0
  have hs1 : W1.heap.size = w.heap.size + 1 := by rw [hW1]; exact Array.size_push _
  have hz2 := heap_alloc_new W1 (.cells #[.slice B1 t.length e1, .slice B2 ss.length e2, .slice B3 hh.length e3, .slice B4 cc.length e4, .slice B5 pp.length e5, .int .i64 mn, .bool mg] 28)
  obtain ⟨W2, hW2⟩ : ∃ W2, W2 = W1.alloc (.cells #[.slice B1 t.length e1, .slice B2 ss.length e2, .slice B3 hh.length e3, .slice B4 cc.length e4, .slice B5 pp.length e5, .int .i64 mn, .bool mg] 28) := ⟨_, rfl⟩
  have hb12 : Below W1.heap.size W1 W2 := by rw [hW2]; exact (Below.refl _ _).alloc (Nat.le_refl _) _
  have hb2 : Below w.heap.size w W2 := hb1.trans (hb12.mono hb1.size)
  rw [← hW2, hs1] at hz2
  have hz1 := (hb12.block _ (block_lt hz0)).trans hz0
  have HWE := hid hW2
  rw [hW1] at HWE
  have HB2 := hid hb2
  have f0a : W2.cell? ⟨w.heap.size, 0, none⟩ = some (.slice A1 t.length c1) := (cell_of_row _ _ _ _ _ _ hz1).trans rfl
  have f0b : W2.cell? ⟨w.heap.size + 1, 0, none⟩ = some (.slice B1 t.length e1) := (cell_of_row _ _ _ _ _ _ hz2).trans rfl
  have f1a : W2.cell? ⟨w.heap.size, 1, none⟩ = some (.slice A2 ss.length c2) := (cell_of_row _ _ _ _ _ _ hz1).trans rfl
  have f1b : W2.cell? ⟨w.heap.size + 1, 1, none⟩ = some (.slice B2 ss.length e2) := (cell_of_row _ _ _ _ _ _ hz2).trans rfl
  have f2a : W2.cell? ⟨w.heap.size, 2, none⟩ = some (.slice A3 hh.length c3) := (cell_of_row _ _ _ _ _ _ hz1).trans rfl
  have f2b : W2.cell? ⟨w.heap.size + 1, 2, none⟩ = some (.slice B3 hh.length e3) := (cell_of_row _ _ _ _ _ _ hz2).trans rfl
  have f3a : W2.cell? ⟨w.heap.size, 3, none⟩ = some (.slice A4 cc.length c4) := (cell_of_row _ _ _ _ _ _ hz1).trans rfl
  have f3b : W2.cell? ⟨w.heap.size + 1, 3, none⟩ = some (.slice B4 cc.length e4) := (cell_of_row _ _ _ _ _ _ hz2).trans rfl
  have f4a : W2.cell? ⟨w.heap.size, 4, none⟩ = some (.slice A5 pp.length c5) := (cell_of_row _ _ _ _ _ _ hz1).trans rfl
  have f4b : W2.cell? ⟨w.heap.size + 1, 4, none⟩ = some (.slice B5 pp.length e5) := (cell_of_row _ _ _ _ _ _ hz2).trans rfl
  have f5a : W2.cell? ⟨w.heap.size, 5, none⟩ = some (.int .i64 mn) := (cell_of_row _ _ _ _ _ _ hz1).trans rfl
  have f5b : W2.cell? ⟨w.heap.size + 1, 5, none⟩ = some (.int .i64 mn) := (cell_of_row _ _ _ _ _ _ hz2).trans rfl
  have f6a : W2.cell? ⟨w.heap.size, 6, none⟩ = some (.bool mg) := (cell_of_row _ _ _ _ _ _ hz1).trans rfl
  have f6b : W2.cell? ⟨w.heap.size + 1, 6, none⟩ = some (.bool mg) := (cell_of_row _ _ _ _ _ _ hz2).trans rfl
  have HBS := hid hb2.size
  have H0a : Hid (Sl W2 w.heap.size 1 (.slice A1 t.length c1) (intsV t)) := hid (Sl.below s1 hb2)
  have H0b : Hid (Sl W2 w.heap.size 1 (.slice B1 t.length e1) (intsV t)) := hid (Sl.below z1 hb2)
  have H1a : Hid (Sl W2 w.heap.size 1 (.slice A2 ss.length c2) (svs ss)) := hid (Sl.below s2 hb2)
  have H1b : Hid (Sl W2 w.heap.size 1 (.slice B2 ss.length e2) (svs ss)) := hid (Sl.below z2 hb2)
  have H2a : Hid (Sl W2 w.heap.size 1 (.slice A3 hh.length c3) xh) := hid (Sl.below s3 hb2)
  have H2b : Hid (Sl W2 w.heap.size 1 (.slice B3 hh.length e3) yh) := hid (Sl.below z3 hb2)
  have H3a : Hid (Sl W2 w.heap.size 5 (.slice A4 cc.length c4) xc) := hid (Sl.below s4 hb2)
  have H3b : Hid (Sl W2 w.heap.size 5 (.slice B4 cc.length e4) yc) := hid (Sl.below z4 hb2)
  have H4a : Hid (Sl W2 w.heap.size 3 (.slice A5 pp.length c5) xp) := hid (Sl.below s5 hb2)
  have H4b : Hid (Sl W2 w.heap.size 3 (.slice B5 pp.length e5) yp) := hid (Sl.below z5 hb2)
  have R3a := hid (q4.keep hb2)
  have R3b := hid (r4.keep hb2)
  have R2a := hid (shapes_keep q3 hb2)
  have R2b := hid (shapes_keep r3 hb2)
  have R4a := hid (procs_keep q5 hb2)
  have R4b := hid (procs_keep r5 hb2)
  have HTX := hid (texts_same _ _ ss W2 (Sl.more H1a.out hb2.size) (Sl.more H1b.out hb2.size))
  rw [hW2, hW1] at HTX
  clear s1 s2 s3 s4 s5 z1 z2 z3 z4 z5 q3 q4 q5 r3 r4 r5 hz0 hz1 hz2 hb1 hb12 hb2 hs1 hW1 hW2
  go_enter Try.func14, Try.ntmps14
  go_wp2_with fail
  refine HTX.out.mono ?_
  rintro e w3 ⟨rfl, hb3⟩
  rw [← HWE.out] at hb3
  have k0a := keep_cell hb3 f0a
  have k0b := keep_cell hb3 f0b
  have k2a := keep_cell hb3 f2a
  have k2b := keep_cell hb3 f2b
  have k3a := keep_cell hb3 f3a
  have k3b := keep_cell hb3 f3b
  have k4a := keep_cell hb3 f4a
  have k4b := keep_cell hb3 f4b
  have k5a := keep_cell hb3 f5a
  have k5b := keep_cell hb3 f5b
  have k6a := keep_cell hb3 f6a
  have k6b := keep_cell hb3 f6b
  have HB3 := hid hb3
  clear hb3
  go_wp2_with fail
  clear k0a k0b k2a k2b k3a k3b k4a k4b k5a k5b k6a k6b
  go_loopw [6] (fun v6 wr => ∃ k : Nat, v6 = .int .i64 k ∧ k ≤ t.length ∧ Below W2.heap.size W2 wr) (fun v6 _ => t.length - (intOf v6).toNat)
  case atStart => exact ⟨0, rfl, by omega, HB3.out⟩
  case round =>
    obtain ⟨k, rfl, hk, hbr⟩ := hrel
    by_cases hlt : k < t.length
    · have hlt0 := hlt
      obtain ⟨b1, o1, rfl, hc1⟩ := sl_in H0a.out hlt (by omega)
      obtain ⟨b2, o2, rfl, hc2⟩ := sl_in H0b.out hlt (by omega)
      have d10 : W2.cell? ⟨b1, o1 + k, none⟩ = some (.int .i64 t[k]) := by have := hc1 0 _ (show _ = some (.int .i64 t[k]) by simp [intsV, hlt]); simpa [Nat.add_assoc] using this
      have d20 : W2.cell? ⟨b2, o2 + k, none⟩ = some (.int .i64 t[k]) := by have := hc2 0 _ (show _ = some (.int .i64 t[k]) by simp [intsV, hlt]); simpa [Nat.add_assoc] using this
      clear hc1 hc2
      generalize t[k] = X at *
      have hall : ∀ w' : World, Below W2.heap.size W2 w' → w'.cell? ⟨w.heap.size, 0, none⟩ = some (.slice (some ⟨b1, o1, none⟩) t.length c1) ∧ w'.cell? ⟨w.heap.size + 1, 0, none⟩ = some (.slice (some ⟨b2, o2, none⟩) t.length e1) ∧ w'.cell? ⟨b1, o1 + k, none⟩ = some (.int .i64 X) ∧ w'.cell? ⟨b2, o2 + k, none⟩ = some (.int .i64 X) := fun w' h => ⟨keep_cell h f0a, keep_cell h f0b, keep_cell h d10, keep_cell h d20⟩
      have HALL := hid hall
      obtain ⟨p0, p1, p2, p3⟩ := hall wr hbr
      have HBR := hid hbr
      clear hall hbr
      go_wp2_with fail
      refine wp_region_held_drew (S := fun w' => Below W2.heap.size W2 w') (by kernel_rfl) (HBR.out.trans (below_drawn wr 1)) (fun _ => ?_)
      try simp only [Act.put, List.getElem_toArray, List.getElem_cons_zero, List.getElem_cons_succ, List.setIfInBounds_toArray, List.set_cons_zero, List.set_cons_succ]
      refine wpAnyH_take (i := 0) (v := (.pointer (some ⟨w.heap.size, 0, none⟩))) rfl (by kernel_rfl) (by kernel_rfl) (by kernel_rfl) (fun _ _ _ h => h) (Or.inl ⟨by kernel_rfl, by intro w hSw; obtain ⟨q0, q1, q2, q3⟩ := HALL.out w hSw; clear hSw; go_simp⟩) (HBR.out.trans (below_drawn wr 1)) ?_
      try simp only [Act.put, List.getElem_toArray, List.getElem_cons_zero, List.getElem_cons_succ, List.setIfInBounds_toArray, List.set_cons_zero, List.set_cons_succ]
      refine wpAnyH_take (i := 1) (v := (.slice (some ⟨b1, o1, none⟩) t.length c1)) rfl (by kernel_rfl) (by kernel_rfl) (by kernel_rfl) (fun _ _ _ h => h) (Or.inl ⟨by kernel_rfl, by intro w hSw; obtain ⟨q0, q1, q2, q3⟩ := HALL.out w hSw; clear hSw; go_simp⟩) (HBR.out.trans (below_drawn wr 1)) ?_
      try simp only [Act.put, List.getElem_toArray, List.getElem_cons_zero, List.getElem_cons_succ, List.setIfInBounds_toArray, List.set_cons_zero, List.set_cons_succ]
      refine wpAnyH_take (i := 2) (v := (.int .i64 k)) rfl (by kernel_rfl) (by kernel_rfl) (by kernel_rfl) (fun _ _ _ h => h) (Or.inl ⟨by kernel_rfl, by intro w hSw; obtain ⟨q0, q1, q2, q3⟩ := HALL.out w hSw; clear hSw; go_simp⟩) (HBR.out.trans (below_drawn wr 1)) ?_
      try simp only [Act.put, List.getElem_toArray, List.getElem_cons_zero, List.getElem_cons_succ, List.setIfInBounds_toArray, List.set_cons_zero, List.set_cons_succ]
      refine wpAnyH_take (i := 3) (v := (.pointer (some ⟨b1, o1 + k, none⟩))) rfl (by kernel_rfl) (by kernel_rfl) (by kernel_rfl) (fun _ _ _ h => h) (Or.inl ⟨by kernel_rfl, by intro w hSw; obtain ⟨q0, q1, q2, q3⟩ := HALL.out w hSw; clear hSw; go_simp⟩) (HBR.out.trans (below_drawn wr 1)) ?_
      try simp only [Act.put, List.getElem_toArray, List.getElem_cons_zero, List.getElem_cons_succ, List.setIfInBounds_toArray, List.set_cons_zero, List.set_cons_succ]
      refine wpAnyH_take (i := 4) (v := (.int .i64 X)) rfl (by kernel_rfl) (by kernel_rfl) (by kernel_rfl) (fun _ _ _ h => h) (Or.inl ⟨by kernel_rfl, by intro w hSw; obtain ⟨q0, q1, q2, q3⟩ := HALL.out w hSw; clear hSw; go_simp⟩) (HBR.out.trans (below_drawn wr 1)) ?_
      try simp only [Act.put, List.getElem_toArray, List.getElem_cons_zero, List.getElem_cons_succ, List.setIfInBounds_toArray, List.set_cons_zero, List.set_cons_succ]
      refine wpAnyH_take (i := 5) (v := (.pointer (some ⟨w.heap.size + 1, 0, none⟩))) rfl (by kernel_rfl) (by kernel_rfl) (by kernel_rfl) (fun _ _ _ h => h) (Or.inl ⟨by kernel_rfl, by intro w hSw; obtain ⟨q0, q1, q2, q3⟩ := HALL.out w hSw; clear hSw; go_simp⟩) (HBR.out.trans (below_drawn wr 1)) ?_
      try simp only [Act.put, List.getElem_toArray, List.getElem_cons_zero, List.getElem_cons_succ, List.setIfInBounds_toArray, List.set_cons_zero, List.set_cons_succ]
      refine wpAnyH_take (i := 6) (v := (.slice (some ⟨b2, o2, none⟩) t.length e1)) rfl (by kernel_rfl) (by kernel_rfl) (by kernel_rfl) (fun _ _ _ h => h) (Or.inl ⟨by kernel_rfl, by intro w hSw; obtain ⟨q0, q1, q2, q3⟩ := HALL.out w hSw; clear hSw; go_simp⟩) (HBR.out.trans (below_drawn wr 1)) ?_
      try simp only [Act.put, List.getElem_toArray, List.getElem_cons_zero, List.getElem_cons_succ, List.setIfInBounds_toArray, List.set_cons_zero, List.set_cons_succ]
      refine wpAnyH_take (i := 7) (v := (.int .i64 k)) rfl (by kernel_rfl) (by kernel_rfl) (by kernel_rfl) (fun _ _ _ h => h) (Or.inl ⟨by kernel_rfl, by intro w hSw; obtain ⟨q0, q1, q2, q3⟩ := HALL.out w hSw; clear hSw; go_simp⟩) (HBR.out.trans (below_drawn wr 1)) ?_
      try simp only [Act.put, List.getElem_toArray, List.getElem_cons_zero, List.getElem_cons_succ, List.setIfInBounds_toArray, List.set_cons_zero, List.set_cons_succ]
      refine wpAnyH_take (i := 8) (v := (.pointer (some ⟨b2, o2 + k, none⟩))) rfl (by kernel_rfl) (by kernel_rfl) (by kernel_rfl) (fun _ _ _ h => h) (Or.inl ⟨by kernel_rfl, by intro w hSw; obtain ⟨q0, q1, q2, q3⟩ := HALL.out w hSw; clear hSw; go_simp⟩) (HBR.out.trans (below_drawn wr 1)) ?_
      try simp only [Act.put, List.getElem_toArray, List.getElem_cons_zero, List.getElem_cons_succ, List.setIfInBounds_toArray, List.set_cons_zero, List.set_cons_succ]
      refine wpAnyH_take (i := 9) (v := (.int .i64 X)) rfl (by kernel_rfl) (by kernel_rfl) (by kernel_rfl) (fun _ _ _ h => h) (Or.inl ⟨by kernel_rfl, by intro w hSw; obtain ⟨q0, q1, q2, q3⟩ := HALL.out w hSw; clear hSw; go_simp⟩) (HBR.out.trans (below_drawn wr 1)) ?_
      try simp only [Act.put, List.getElem_toArray, List.getElem_cons_zero, List.getElem_cons_succ, List.setIfInBounds_toArray, List.set_cons_zero, List.set_cons_succ]
      refine wpAnyH_take (i := 10) (v := (.bool false)) rfl (by kernel_rfl) (by kernel_rfl) (by kernel_rfl) (fun _ _ _ h => h) (Or.inl ⟨by kernel_rfl, by intro w hSw; obtain ⟨q0, q1, q2, q3⟩ := HALL.out w hSw; clear hSw; go_simp⟩) (HBR.out.trans (below_drawn wr 1)) ?_
      try simp only [Act.put, List.getElem_toArray, List.getElem_cons_zero, List.getElem_cons_succ, List.setIfInBounds_toArray, List.set_cons_zero, List.set_cons_succ]
      refine wpAnyH_done (by kernel_rfl) ?_ _
      go_wp2_with fail
      go_roundw
      case rel => exact ⟨k + 1, rfl, by omega, (HBR.out.trans (below_drawn wr 1))⟩
      case measure => simp [intOf]; omega
    · obtain rfl : k = t.length := by omega
      have p0 : wr.cell? ⟨w.heap.size, 0, none⟩ = some (.slice A1 t.length c1) := keep_cell hbr f0a
      have p1 : wr.cell? ⟨w.heap.size + 1, 0, none⟩ = some (.slice B1 t.length e1) := keep_cell hbr f0b
      have HBR := hid hbr
      clear hbr
      go_wp2_with fail
      go_loopw [7] (fun v7 wr => ∃ k : Nat, v7 = .int .i64 k ∧ k ≤ hh.length ∧ Below W2.heap.size W2 wr) (fun v7 _ => hh.length - (intOf v7).toNat)
      case atStart => exact ⟨0, rfl, by omega, HBR.out⟩
      case round =>
        obtain ⟨k, rfl, hk, hbr⟩ := hrel
        by_cases hlt : k < hh.length
        · have hlt0 := hlt
          obtain ⟨b1, o1, rfl, hc1⟩ := sl_in H2a.out hlt (by omega)
          obtain ⟨v1, hv1, hs1⟩ := R2a.out.2 k hlt
          obtain ⟨P1, m1, q1, rfl⟩ := sl_shape hs1
          obtain ⟨b2, o2, rfl, hc2⟩ := sl_in H2b.out hlt (by omega)
          obtain ⟨v2, hv2, hs2⟩ := R2b.out.2 k hlt
          obtain ⟨P2, m2, q2, rfl⟩ := sl_shape hs2
          have d10 : W2.cell? ⟨b1, o1 + k, none⟩ = some (.slice P1 m1 q1) := by have := hc1 0 _ (by simpa using hv1); simpa [Nat.add_assoc] using this
          have d20 : W2.cell? ⟨b2, o2 + k, none⟩ = some (.slice P2 m2 q2) := by have := hc2 0 _ (by simpa using hv2); simpa [Nat.add_assoc] using this
          have HP := hid (texts_same _ _ _ wr.drew (Sl.far hs1 HBS.out (hbr.trans (below_drawn wr 1))) (Sl.far hs2 HBS.out (hbr.trans (below_drawn wr 1))))
          clear hc1 hc2 hv1 hv2 hs1 hs2
          have hall : ∀ w' : World, Below W2.heap.size W2 w' → w'.cell? ⟨w.heap.size, 2, none⟩ = some (.slice (some ⟨b1, o1, none⟩) hh.length c3) ∧ w'.cell? ⟨w.heap.size + 1, 2, none⟩ = some (.slice (some ⟨b2, o2, none⟩) hh.length e3) ∧ w'.cell? ⟨b1, o1 + k, none⟩ = some (.slice P1 m1 q1) ∧ w'.cell? ⟨b2, o2 + k, none⟩ = some (.slice P2 m2 q2) := fun w' h => ⟨keep_cell h f2a, keep_cell h f2b, keep_cell h d10, keep_cell h d20⟩
          have HALL := hid hall
          obtain ⟨p0, p1, p2, p3⟩ := hall wr hbr
          have HBR := hid hbr
          clear hall hbr
          go_wp2_with fail
          refine wp_region_held_drew (S := fun w' => Below W2.heap.size W2 w') (by kernel_rfl) (HBR.out.trans (below_drawn wr 1)) (fun _ => ?_)
          try simp only [Act.put, List.getElem_toArray, List.getElem_cons_zero, List.getElem_cons_succ, List.setIfInBounds_toArray, List.set_cons_zero, List.set_cons_succ]
          refine wpAnyH_take (i := 0) (v := (.pointer (some ⟨w.heap.size, 2, none⟩))) rfl (by kernel_rfl) (by kernel_rfl) (by kernel_rfl) (fun _ _ _ h => h) (Or.inl ⟨by kernel_rfl, by intro w hSw; obtain ⟨q0, q1, q2, q3⟩ := HALL.out w hSw; clear hSw; go_simp⟩) (HBR.out.trans (below_drawn wr 1)) ?_
          try simp only [Act.put, List.getElem_toArray, List.getElem_cons_zero, List.getElem_cons_succ, List.setIfInBounds_toArray, List.set_cons_zero, List.set_cons_succ]
          refine wpAnyH_take (i := 1) (v := (.slice (some ⟨b1, o1, none⟩) hh.length c3)) rfl (by kernel_rfl) (by kernel_rfl) (by kernel_rfl) (fun _ _ _ h => h) (Or.inl ⟨by kernel_rfl, by intro w hSw; obtain ⟨q0, q1, q2, q3⟩ := HALL.out w hSw; clear hSw; go_simp⟩) (HBR.out.trans (below_drawn wr 1)) ?_
          try simp only [Act.put, List.getElem_toArray, List.getElem_cons_zero, List.getElem_cons_succ, List.setIfInBounds_toArray, List.set_cons_zero, List.set_cons_succ]
          refine wpAnyH_take (i := 2) (v := (.int .i64 k)) rfl (by kernel_rfl) (by kernel_rfl) (by kernel_rfl) (fun _ _ _ h => h) (Or.inl ⟨by kernel_rfl, by intro w hSw; obtain ⟨q0, q1, q2, q3⟩ := HALL.out w hSw; clear hSw; go_simp⟩) (HBR.out.trans (below_drawn wr 1)) ?_
          try simp only [Act.put, List.getElem_toArray, List.getElem_cons_zero, List.getElem_cons_succ, List.setIfInBounds_toArray, List.set_cons_zero, List.set_cons_succ]
          refine wpAnyH_take (i := 3) (v := (.pointer (some ⟨b1, o1 + k, none⟩))) rfl (by kernel_rfl) (by kernel_rfl) (by kernel_rfl) (fun _ _ _ h => h) (Or.inl ⟨by kernel_rfl, by intro w hSw; obtain ⟨q0, q1, q2, q3⟩ := HALL.out w hSw; clear hSw; go_simp⟩) (HBR.out.trans (below_drawn wr 1)) ?_
          try simp only [Act.put, List.getElem_toArray, List.getElem_cons_zero, List.getElem_cons_succ, List.setIfInBounds_toArray, List.set_cons_zero, List.set_cons_succ]
          refine wpAnyH_take (i := 4) (v := (.slice P1 m1 q1)) rfl (by kernel_rfl) (by kernel_rfl) (by kernel_rfl) (fun _ _ _ h => h) (Or.inl ⟨by kernel_rfl, by intro w hSw; obtain ⟨q0, q1, q2, q3⟩ := HALL.out w hSw; clear hSw; go_simp⟩) (HBR.out.trans (below_drawn wr 1)) ?_
          try simp only [Act.put, List.getElem_toArray, List.getElem_cons_zero, List.getElem_cons_succ, List.setIfInBounds_toArray, List.set_cons_zero, List.set_cons_succ]
          refine wpAnyH_take (i := 5) (v := (.pointer (some ⟨w.heap.size + 1, 2, none⟩))) rfl (by kernel_rfl) (by kernel_rfl) (by kernel_rfl) (fun _ _ _ h => h) (Or.inl ⟨by kernel_rfl, by intro w hSw; obtain ⟨q0, q1, q2, q3⟩ := HALL.out w hSw; clear hSw; go_simp⟩) (HBR.out.trans (below_drawn wr 1)) ?_
          try simp only [Act.put, List.getElem_toArray, List.getElem_cons_zero, List.getElem_cons_succ, List.setIfInBounds_toArray, List.set_cons_zero, List.set_cons_succ]
          refine wpAnyH_take (i := 6) (v := (.slice (some ⟨b2, o2, none⟩) hh.length e3)) rfl (by kernel_rfl) (by kernel_rfl) (by kernel_rfl) (fun _ _ _ h => h) (Or.inl ⟨by kernel_rfl, by intro w hSw; obtain ⟨q0, q1, q2, q3⟩ := HALL.out w hSw; clear hSw; go_simp⟩) (HBR.out.trans (below_drawn wr 1)) ?_
          try simp only [Act.put, List.getElem_toArray, List.getElem_cons_zero, List.getElem_cons_succ, List.setIfInBounds_toArray, List.set_cons_zero, List.set_cons_succ]
          refine wpAnyH_take (i := 7) (v := (.int .i64 k)) rfl (by kernel_rfl) (by kernel_rfl) (by kernel_rfl) (fun _ _ _ h => h) (Or.inl ⟨by kernel_rfl, by intro w hSw; obtain ⟨q0, q1, q2, q3⟩ := HALL.out w hSw; clear hSw; go_simp⟩) (HBR.out.trans (below_drawn wr 1)) ?_
          try simp only [Act.put, List.getElem_toArray, List.getElem_cons_zero, List.getElem_cons_succ, List.setIfInBounds_toArray, List.set_cons_zero, List.set_cons_succ]
          refine wpAnyH_take (i := 8) (v := (.pointer (some ⟨b2, o2 + k, none⟩))) rfl (by kernel_rfl) (by kernel_rfl) (by kernel_rfl) (fun _ _ _ h => h) (Or.inl ⟨by kernel_rfl, by intro w hSw; obtain ⟨q0, q1, q2, q3⟩ := HALL.out w hSw; clear hSw; go_simp⟩) (HBR.out.trans (below_drawn wr 1)) ?_
          try simp only [Act.put, List.getElem_toArray, List.getElem_cons_zero, List.getElem_cons_succ, List.setIfInBounds_toArray, List.set_cons_zero, List.set_cons_succ]
          refine wpAnyH_take (i := 9) (v := (.slice P2 m2 q2)) rfl (by kernel_rfl) (by kernel_rfl) (by kernel_rfl) (fun _ _ _ h => h) (Or.inl ⟨by kernel_rfl, by intro w hSw; obtain ⟨q0, q1, q2, q3⟩ := HALL.out w hSw; clear hSw; go_simp⟩) (HBR.out.trans (below_drawn wr 1)) ?_
          try simp only [Act.put, List.getElem_toArray, List.getElem_cons_zero, List.getElem_cons_succ, List.setIfInBounds_toArray, List.set_cons_zero, List.set_cons_succ]
          refine wpAnyH_ready (rs := [10]) (by kernel_rfl) (by simp) ?_
          refine AllReadyH.cons rfl (fun K hK => ?_) AllReadyH.nil
          go_simp
          refine (HP.out).mono ?_
          rintro e w5 ⟨rfl, hb5⟩
          have hS5 : Below W2.heap.size W2 w5 := (HBR.out.trans (below_drawn wr 1)).trans (hb5.mono (HBR.out.trans (below_drawn wr 1)).size)
          refine hK.out _ _ hS5 (fun _ => ?_)
          clear hK K
          try simp only [Act.put, List.getElem_toArray, List.getElem_cons_zero, List.getElem_cons_succ, List.setIfInBounds_toArray, List.set_cons_zero, List.set_cons_succ]
          refine wpAnyH_take (i := 11) (v := .bool true) rfl (by kernel_rfl) (by kernel_rfl) (by kernel_rfl) (fun _ _ _ h => h) (Or.inl ⟨by kernel_rfl, by intro w hSw; obtain ⟨q0, q1, q2, q3⟩ := HALL.out w hSw; clear hSw; go_simp⟩) hS5 ?_
          try simp only [Act.put, List.getElem_toArray, List.getElem_cons_zero, List.getElem_cons_succ, List.setIfInBounds_toArray, List.set_cons_zero, List.set_cons_succ]
          refine wpAnyH_done (by kernel_rfl) ?_ _
          go_wp2_with fail
          go_roundw
          case rel => exact ⟨k + 1, rfl, by omega, hS5⟩
          case measure => simp [intOf]; omega
        · obtain rfl : k = hh.length := by omega
          have p0 : wr.cell? ⟨w.heap.size, 2, none⟩ = some (.slice A3 hh.length c3) := keep_cell hbr f2a
          have p1 : wr.cell? ⟨w.heap.size + 1, 2, none⟩ = some (.slice B3 hh.length e3) := keep_cell hbr f2b
          have HBR := hid hbr
          clear hbr
          go_wp2_with fail
          go_loopw [9] (fun v9 wr => ∃ k : Nat, v9 = .int .i64 k ∧ k ≤ cc.length ∧ Below W2.heap.size W2 wr) (fun v9 _ => cc.length - (intOf v9).toNat)
          case atStart => exact ⟨0, rfl, by omega, HBR.out⟩
          case round =>
            obtain ⟨k, rfl, hk, hbr⟩ := hrel
            by_cases hlt : k < cc.length
            · have hlt0 := hlt
              obtain ⟨b1, o1, rfl, hc1⟩ := sl_in H3a.out hlt (by omega)
              have hr1 := R3a.out.at k hlt
              obtain ⟨P11, m11, q11, P12, m12, q12, P13, m13, q13, P14, m14, q14, P15, m15, q15, hv1⟩ := hr1.slices
              rw [hv1] at hr1
              obtain ⟨b2, o2, rfl, hc2⟩ := sl_in H3b.out hlt (by omega)
              have hr2 := R3b.out.at k hlt
              obtain ⟨P21, m21, q21, P22, m22, q22, P23, m23, q23, P24, m24, q24, P25, m25, q25, hv2⟩ := hr2.slices
              rw [hv2] at hr2
              have d10 : W2.cell? ⟨b1, o1 + k * 5, none⟩ = some (.slice P11 m11 q11) := by have := hc1 0 _ (part_get hv1 (by omega : 0 < 5)); simpa [Nat.add_assoc] using this
              have d11 : W2.cell? ⟨b1, o1 + k * 5 + 1, none⟩ = some (.slice P12 m12 q12) := by have := hc1 1 _ (part_get hv1 (by omega : 1 < 5)); simpa [Nat.add_assoc] using this
              have d12 : W2.cell? ⟨b1, o1 + k * 5 + 2, none⟩ = some (.slice P13 m13 q13) := by have := hc1 2 _ (part_get hv1 (by omega : 2 < 5)); simpa [Nat.add_assoc] using this
              have d13 : W2.cell? ⟨b1, o1 + k * 5 + 3, none⟩ = some (.slice P14 m14 q14) := by have := hc1 3 _ (part_get hv1 (by omega : 3 < 5)); simpa [Nat.add_assoc] using this
              have d14 : W2.cell? ⟨b1, o1 + k * 5 + 4, none⟩ = some (.slice P15 m15 q15) := by have := hc1 4 _ (part_get hv1 (by omega : 4 < 5)); simpa [Nat.add_assoc] using this
              have d20 : W2.cell? ⟨b2, o2 + k * 5, none⟩ = some (.slice P21 m21 q21) := by have := hc2 0 _ (part_get hv2 (by omega : 0 < 5)); simpa [Nat.add_assoc] using this
              have d21 : W2.cell? ⟨b2, o2 + k * 5 + 1, none⟩ = some (.slice P22 m22 q22) := by have := hc2 1 _ (part_get hv2 (by omega : 1 < 5)); simpa [Nat.add_assoc] using this
              have d22 : W2.cell? ⟨b2, o2 + k * 5 + 2, none⟩ = some (.slice P23 m23 q23) := by have := hc2 2 _ (part_get hv2 (by omega : 2 < 5)); simpa [Nat.add_assoc] using this
              have d23 : W2.cell? ⟨b2, o2 + k * 5 + 3, none⟩ = some (.slice P24 m24 q24) := by have := hc2 3 _ (part_get hv2 (by omega : 3 < 5)); simpa [Nat.add_assoc] using this
              have d24 : W2.cell? ⟨b2, o2 + k * 5 + 4, none⟩ = some (.slice P25 m25 q25) := by have := hc2 4 _ (part_get hv2 (by omega : 4 < 5)); simpa [Nat.add_assoc] using this
              have HP := hid (same_any _ wr.drew [(.slice P11 m11 q11), (.slice P12 m12 q12), (.slice P13 m13 q13), (.slice P14 m14 q14), (.slice P15 m15 q15)] [(.slice P21 m21 q21), (.slice P22 m22 q22), (.slice P23 m23 q23), (.slice P24 m24 q24), (.slice P25 m25 q25)] (hr1.far HBS.out (hbr.trans (below_drawn wr 1))) (hr2.far HBS.out (hbr.trans (below_drawn wr 1))))
              clear hc1 hc2 hv1 hv2 hr1 hr2
              have hall : ∀ w' : World, Below W2.heap.size W2 w' → w'.cell? ⟨w.heap.size, 3, none⟩ = some (.slice (some ⟨b1, o1, none⟩) cc.length c4) ∧ w'.cell? ⟨w.heap.size + 1, 3, none⟩ = some (.slice (some ⟨b2, o2, none⟩) cc.length e4) ∧ w'.cell? ⟨b1, o1 + k * 5, none⟩ = some (.slice P11 m11 q11) ∧ w'.cell? ⟨b1, o1 + k * 5 + 1, none⟩ = some (.slice P12 m12 q12) ∧ w'.cell? ⟨b1, o1 + k * 5 + 2, none⟩ = some (.slice P13 m13 q13) ∧ w'.cell? ⟨b1, o1 + k * 5 + 3, none⟩ = some (.slice P14 m14 q14) ∧ w'.cell? ⟨b1, o1 + k * 5 + 4, none⟩ = some (.slice P15 m15 q15) ∧ w'.cell? ⟨b2, o2 + k * 5, none⟩ = some (.slice P21 m21 q21) ∧ w'.cell? ⟨b2, o2 + k * 5 + 1, none⟩ = some (.slice P22 m22 q22) ∧ w'.cell? ⟨b2, o2 + k * 5 + 2, none⟩ = some (.slice P23 m23 q23) ∧ w'.cell? ⟨b2, o2 + k * 5 + 3, none⟩ = some (.slice P24 m24 q24) ∧ w'.cell? ⟨b2, o2 + k * 5 + 4, none⟩ = some (.slice P25 m25 q25) := fun w' h => ⟨keep_cell h f3a, keep_cell h f3b, keep_cell h d10, keep_cell h d11, keep_cell h d12, keep_cell h d13, keep_cell h d14, keep_cell h d20, keep_cell h d21, keep_cell h d22, keep_cell h d23, keep_cell h d24⟩
              have HALL := hid hall
              obtain ⟨p0, p1, p2, p3, p4, p5, p6, p7, p8, p9, p10, p11⟩ := hall wr hbr
              have HBR := hid hbr
              clear hall hbr
              go_wp2_with fail
              refine wp_region_held_drew (S := fun w' => Below W2.heap.size W2 w') (by kernel_rfl) (HBR.out.trans (below_drawn wr 1)) (fun _ => ?_)
              try simp only [Act.put, List.getElem_toArray, List.getElem_cons_zero, List.getElem_cons_succ, List.setIfInBounds_toArray, List.set_cons_zero, List.set_cons_succ]
              refine wpAnyH_take (i := 0) (v := (.pointer (some ⟨w.heap.size, 3, none⟩))) rfl (by kernel_rfl) (by kernel_rfl) (by kernel_rfl) (fun _ _ _ h => h) (Or.inl ⟨by kernel_rfl, by intro w hSw; obtain ⟨q0, q1, q2, q3, q4, q5, q6, q7, q8, q9, q10, q11⟩ := HALL.out w hSw; clear hSw; go_simp⟩) (HBR.out.trans (below_drawn wr 1)) ?_
              try simp only [Act.put, List.getElem_toArray, List.getElem_cons_zero, List.getElem_cons_succ, List.setIfInBounds_toArray, List.set_cons_zero, List.set_cons_succ]
              refine wpAnyH_take (i := 1) (v := (.slice (some ⟨b1, o1, none⟩) cc.length c4)) rfl (by kernel_rfl) (by kernel_rfl) (by kernel_rfl) (fun _ _ _ h => h) (Or.inl ⟨by kernel_rfl, by intro w hSw; obtain ⟨q0, q1, q2, q3, q4, q5, q6, q7, q8, q9, q10, q11⟩ := HALL.out w hSw; clear hSw; go_simp⟩) (HBR.out.trans (below_drawn wr 1)) ?_
              try simp only [Act.put, List.getElem_toArray, List.getElem_cons_zero, List.getElem_cons_succ, List.setIfInBounds_toArray, List.set_cons_zero, List.set_cons_succ]
              refine wpAnyH_take (i := 2) (v := (.int .i64 k)) rfl (by kernel_rfl) (by kernel_rfl) (by kernel_rfl) (fun _ _ _ h => h) (Or.inl ⟨by kernel_rfl, by intro w hSw; obtain ⟨q0, q1, q2, q3, q4, q5, q6, q7, q8, q9, q10, q11⟩ := HALL.out w hSw; clear hSw; go_simp⟩) (HBR.out.trans (below_drawn wr 1)) ?_
              try simp only [Act.put, List.getElem_toArray, List.getElem_cons_zero, List.getElem_cons_succ, List.setIfInBounds_toArray, List.set_cons_zero, List.set_cons_succ]
              refine wpAnyH_take (i := 3) (v := (.pointer (some ⟨b1, o1 + k * 5, none⟩))) rfl (by kernel_rfl) (by kernel_rfl) (by kernel_rfl) (fun _ _ _ h => h) (Or.inl ⟨by kernel_rfl, by intro w hSw; obtain ⟨q0, q1, q2, q3, q4, q5, q6, q7, q8, q9, q10, q11⟩ := HALL.out w hSw; clear hSw; go_simp⟩) (HBR.out.trans (below_drawn wr 1)) ?_
              try simp only [Act.put, List.getElem_toArray, List.getElem_cons_zero, List.getElem_cons_succ, List.setIfInBounds_toArray, List.set_cons_zero, List.set_cons_succ]
              refine wpAnyH_take (i := 4) (v := (.agg #[(.slice P11 m11 q11), (.slice P12 m12 q12), (.slice P13 m13 q13), (.slice P14 m14 q14), (.slice P15 m15 q15)])) rfl (by kernel_rfl) (by kernel_rfl) (by kernel_rfl) (fun _ _ _ h => h) (Or.inl ⟨by kernel_rfl, by intro w hSw; obtain ⟨q0, q1, q2, q3, q4, q5, q6, q7, q8, q9, q10, q11⟩ := HALL.out w hSw; clear hSw; go_simp⟩) (HBR.out.trans (below_drawn wr 1)) ?_
              try simp only [Act.put, List.getElem_toArray, List.getElem_cons_zero, List.getElem_cons_succ, List.setIfInBounds_toArray, List.set_cons_zero, List.set_cons_succ]
              refine wpAnyH_take (i := 5) (v := (.pointer (some ⟨w.heap.size + 1, 3, none⟩))) rfl (by kernel_rfl) (by kernel_rfl) (by kernel_rfl) (fun _ _ _ h => h) (Or.inl ⟨by kernel_rfl, by intro w hSw; obtain ⟨q0, q1, q2, q3, q4, q5, q6, q7, q8, q9, q10, q11⟩ := HALL.out w hSw; clear hSw; go_simp⟩) (HBR.out.trans (below_drawn wr 1)) ?_
              try simp only [Act.put, List.getElem_toArray, List.getElem_cons_zero, List.getElem_cons_succ, List.setIfInBounds_toArray, List.set_cons_zero, List.set_cons_succ]
              refine wpAnyH_take (i := 6) (v := (.slice (some ⟨b2, o2, none⟩) cc.length e4)) rfl (by kernel_rfl) (by kernel_rfl) (by kernel_rfl) (fun _ _ _ h => h) (Or.inl ⟨by kernel_rfl, by intro w hSw; obtain ⟨q0, q1, q2, q3, q4, q5, q6, q7, q8, q9, q10, q11⟩ := HALL.out w hSw; clear hSw; go_simp⟩) (HBR.out.trans (below_drawn wr 1)) ?_
              try simp only [Act.put, List.getElem_toArray, List.getElem_cons_zero, List.getElem_cons_succ, List.setIfInBounds_toArray, List.set_cons_zero, List.set_cons_succ]
              refine wpAnyH_take (i := 7) (v := (.int .i64 k)) rfl (by kernel_rfl) (by kernel_rfl) (by kernel_rfl) (fun _ _ _ h => h) (Or.inl ⟨by kernel_rfl, by intro w hSw; obtain ⟨q0, q1, q2, q3, q4, q5, q6, q7, q8, q9, q10, q11⟩ := HALL.out w hSw; clear hSw; go_simp⟩) (HBR.out.trans (below_drawn wr 1)) ?_
              try simp only [Act.put, List.getElem_toArray, List.getElem_cons_zero, List.getElem_cons_succ, List.setIfInBounds_toArray, List.set_cons_zero, List.set_cons_succ]
              refine wpAnyH_take (i := 8) (v := (.pointer (some ⟨b2, o2 + k * 5, none⟩))) rfl (by kernel_rfl) (by kernel_rfl) (by kernel_rfl) (fun _ _ _ h => h) (Or.inl ⟨by kernel_rfl, by intro w hSw; obtain ⟨q0, q1, q2, q3, q4, q5, q6, q7, q8, q9, q10, q11⟩ := HALL.out w hSw; clear hSw; go_simp⟩) (HBR.out.trans (below_drawn wr 1)) ?_
              try simp only [Act.put, List.getElem_toArray, List.getElem_cons_zero, List.getElem_cons_succ, List.setIfInBounds_toArray, List.set_cons_zero, List.set_cons_succ]
              refine wpAnyH_take (i := 9) (v := (.agg #[(.slice P21 m21 q21), (.slice P22 m22 q22), (.slice P23 m23 q23), (.slice P24 m24 q24), (.slice P25 m25 q25)])) rfl (by kernel_rfl) (by kernel_rfl) (by kernel_rfl) (fun _ _ _ h => h) (Or.inl ⟨by kernel_rfl, by intro w hSw; obtain ⟨q0, q1, q2, q3, q4, q5, q6, q7, q8, q9, q10, q11⟩ := HALL.out w hSw; clear hSw; go_simp⟩) (HBR.out.trans (below_drawn wr 1)) ?_
              try simp only [Act.put, List.getElem_toArray, List.getElem_cons_zero, List.getElem_cons_succ, List.setIfInBounds_toArray, List.set_cons_zero, List.set_cons_succ]
              refine wpAnyH_ready (rs := [10]) (by kernel_rfl) (by simp) ?_
              refine AllReadyH.cons rfl (fun K hK => ?_) AllReadyH.nil
              go_simp
              refine (HP.out).mono ?_
              rintro e w5 ⟨rfl, hb5⟩
              have hS5 : Below W2.heap.size W2 w5 := (HBR.out.trans (below_drawn wr 1)).trans (hb5.mono (HBR.out.trans (below_drawn wr 1)).size)
              refine hK.out _ _ hS5 (fun _ => ?_)
              clear hK K
              try simp only [Act.put, List.getElem_toArray, List.getElem_cons_zero, List.getElem_cons_succ, List.setIfInBounds_toArray, List.set_cons_zero, List.set_cons_succ]
              refine wpAnyH_take (i := 11) (v := .bool true) rfl (by kernel_rfl) (by kernel_rfl) (by kernel_rfl) (fun _ _ _ h => h) (Or.inl ⟨by kernel_rfl, by intro w hSw; obtain ⟨q0, q1, q2, q3, q4, q5, q6, q7, q8, q9, q10, q11⟩ := HALL.out w hSw; clear hSw; go_simp⟩) hS5 ?_
              try simp only [Act.put, List.getElem_toArray, List.getElem_cons_zero, List.getElem_cons_succ, List.setIfInBounds_toArray, List.set_cons_zero, List.set_cons_succ]
              refine wpAnyH_done (by kernel_rfl) ?_ _
              go_wp2_with fail
              go_roundw
              case rel => exact ⟨k + 1, rfl, by omega, hS5⟩
              case measure => simp [intOf]; omega
            · obtain rfl : k = cc.length := by omega
              have p0 : wr.cell? ⟨w.heap.size, 3, none⟩ = some (.slice A4 cc.length c4) := keep_cell hbr f3a
              have p1 : wr.cell? ⟨w.heap.size + 1, 3, none⟩ = some (.slice B4 cc.length e4) := keep_cell hbr f3b
              have HBR := hid hbr
              clear hbr
              go_wp2_with fail
              go_loopw [11] (fun v11 wr => ∃ k : Nat, v11 = .int .i64 k ∧ k ≤ pp.length ∧ Below W2.heap.size W2 wr) (fun v11 _ => pp.length - (intOf v11).toNat)
              case atStart => exact ⟨0, rfl, by omega, HBR.out⟩
              case round =>
                obtain ⟨k, rfl, hk, hbr⟩ := hrel
                by_cases hlt : k < pp.length
                · have hlt0 := hlt
                  obtain ⟨b1, o1, rfl, hc1⟩ := sl_in H4a.out hlt (by omega)
                  obtain ⟨v1, hv1, hs1⟩ := R4a.out.2 k hlt
                  obtain ⟨P1, m1, q1, rfl⟩ := sl_shape hs1
                  obtain ⟨b2, o2, rfl, hc2⟩ := sl_in H4b.out hlt (by omega)
                  obtain ⟨v2, hv2, hs2⟩ := R4b.out.2 k hlt
                  obtain ⟨P2, m2, q2, rfl⟩ := sl_shape hs2
                  have d10 : W2.cell? ⟨b1, o1 + k * 3, none⟩ = some (.int .i64 pp[k].caps) := by have := hc1 0 _ (part_get hv1 (by omega : 0 < 3)); simpa [Nat.add_assoc] using this
                  have d11 : W2.cell? ⟨b1, o1 + k * 3 + 1, none⟩ = some (.int .i64 pp[k].regs) := by have := hc1 1 _ (part_get hv1 (by omega : 1 < 3)); simpa [Nat.add_assoc] using this
                  have d12 : W2.cell? ⟨b1, o1 + k * 3 + 2, none⟩ = some (.slice P1 m1 q1) := by have := hc1 2 _ (part_get hv1 (by omega : 2 < 3)); simpa [Nat.add_assoc] using this
                  have d20 : W2.cell? ⟨b2, o2 + k * 3, none⟩ = some (.int .i64 pp[k].caps) := by have := hc2 0 _ (part_get hv2 (by omega : 0 < 3)); simpa [Nat.add_assoc] using this
                  have d21 : W2.cell? ⟨b2, o2 + k * 3 + 1, none⟩ = some (.int .i64 pp[k].regs) := by have := hc2 1 _ (part_get hv2 (by omega : 1 < 3)); simpa [Nat.add_assoc] using this
                  have d22 : W2.cell? ⟨b2, o2 + k * 3 + 2, none⟩ = some (.slice P2 m2 q2) := by have := hc2 2 _ (part_get hv2 (by omega : 2 < 3)); simpa [Nat.add_assoc] using this
                  have HP := hid (procs_same _ _ pp[k].caps pp[k].regs pp[k].code wr.drew (Sl.far hs1 HBS.out (hbr.trans (below_drawn wr 1))) (Sl.far hs2 HBS.out (hbr.trans (below_drawn wr 1))))
                  clear hc1 hc2 hv1 hv2 hs1 hs2
                  generalize pp[k] = X at *
                  have hall : ∀ w' : World, Below W2.heap.size W2 w' → w'.cell? ⟨w.heap.size, 4, none⟩ = some (.slice (some ⟨b1, o1, none⟩) pp.length c5) ∧ w'.cell? ⟨w.heap.size + 1, 4, none⟩ = some (.slice (some ⟨b2, o2, none⟩) pp.length e5) ∧ w'.cell? ⟨b1, o1 + k * 3, none⟩ = some (.int .i64 X.caps) ∧ w'.cell? ⟨b1, o1 + k * 3 + 1, none⟩ = some (.int .i64 X.regs) ∧ w'.cell? ⟨b1, o1 + k * 3 + 2, none⟩ = some (.slice P1 m1 q1) ∧ w'.cell? ⟨b2, o2 + k * 3, none⟩ = some (.int .i64 X.caps) ∧ w'.cell? ⟨b2, o2 + k * 3 + 1, none⟩ = some (.int .i64 X.regs) ∧ w'.cell? ⟨b2, o2 + k * 3 + 2, none⟩ = some (.slice P2 m2 q2) := fun w' h => ⟨keep_cell h f4a, keep_cell h f4b, keep_cell h d10, keep_cell h d11, keep_cell h d12, keep_cell h d20, keep_cell h d21, keep_cell h d22⟩
                  have HALL := hid hall
                  obtain ⟨p0, p1, p2, p3, p4, p5, p6, p7⟩ := hall wr hbr
                  have HBR := hid hbr
                  clear hall hbr
                  go_wp2_with fail
                  refine wp_region_held_drew (S := fun w' => Below W2.heap.size W2 w') (by kernel_rfl) (HBR.out.trans (below_drawn wr 1)) (fun _ => ?_)
                  try simp only [Act.put, List.getElem_toArray, List.getElem_cons_zero, List.getElem_cons_succ, List.setIfInBounds_toArray, List.set_cons_zero, List.set_cons_succ]
                  refine wpAnyH_take (i := 0) (v := (.pointer (some ⟨w.heap.size, 4, none⟩))) rfl (by kernel_rfl) (by kernel_rfl) (by kernel_rfl) (fun _ _ _ h => h) (Or.inl ⟨by kernel_rfl, by intro w hSw; obtain ⟨q0, q1, q2, q3, q4, q5, q6, q7⟩ := HALL.out w hSw; clear hSw; go_simp⟩) (HBR.out.trans (below_drawn wr 1)) ?_
                  try simp only [Act.put, List.getElem_toArray, List.getElem_cons_zero, List.getElem_cons_succ, List.setIfInBounds_toArray, List.set_cons_zero, List.set_cons_succ]
                  refine wpAnyH_take (i := 1) (v := (.slice (some ⟨b1, o1, none⟩) pp.length c5)) rfl (by kernel_rfl) (by kernel_rfl) (by kernel_rfl) (fun _ _ _ h => h) (Or.inl ⟨by kernel_rfl, by intro w hSw; obtain ⟨q0, q1, q2, q3, q4, q5, q6, q7⟩ := HALL.out w hSw; clear hSw; go_simp⟩) (HBR.out.trans (below_drawn wr 1)) ?_
                  try simp only [Act.put, List.getElem_toArray, List.getElem_cons_zero, List.getElem_cons_succ, List.setIfInBounds_toArray, List.set_cons_zero, List.set_cons_succ]
                  refine wpAnyH_take (i := 2) (v := (.int .i64 k)) rfl (by kernel_rfl) (by kernel_rfl) (by kernel_rfl) (fun _ _ _ h => h) (Or.inl ⟨by kernel_rfl, by intro w hSw; obtain ⟨q0, q1, q2, q3, q4, q5, q6, q7⟩ := HALL.out w hSw; clear hSw; go_simp⟩) (HBR.out.trans (below_drawn wr 1)) ?_
                  try simp only [Act.put, List.getElem_toArray, List.getElem_cons_zero, List.getElem_cons_succ, List.setIfInBounds_toArray, List.set_cons_zero, List.set_cons_succ]
                  refine wpAnyH_take (i := 3) (v := (.pointer (some ⟨b1, o1 + k * 3, none⟩))) rfl (by kernel_rfl) (by kernel_rfl) (by kernel_rfl) (fun _ _ _ h => h) (Or.inl ⟨by kernel_rfl, by intro w hSw; obtain ⟨q0, q1, q2, q3, q4, q5, q6, q7⟩ := HALL.out w hSw; clear hSw; go_simp⟩) (HBR.out.trans (below_drawn wr 1)) ?_
                  try simp only [Act.put, List.getElem_toArray, List.getElem_cons_zero, List.getElem_cons_succ, List.setIfInBounds_toArray, List.set_cons_zero, List.set_cons_succ]
                  refine wpAnyH_take (i := 4) (v := (.agg #[.int .i64 X.caps, .int .i64 X.regs, .slice P1 m1 q1])) rfl (by kernel_rfl) (by kernel_rfl) (by kernel_rfl) (fun _ _ _ h => h) (Or.inl ⟨by kernel_rfl, by intro w hSw; obtain ⟨q0, q1, q2, q3, q4, q5, q6, q7⟩ := HALL.out w hSw; clear hSw; go_simp⟩) (HBR.out.trans (below_drawn wr 1)) ?_
                  try simp only [Act.put, List.getElem_toArray, List.getElem_cons_zero, List.getElem_cons_succ, List.setIfInBounds_toArray, List.set_cons_zero, List.set_cons_succ]
                  refine wpAnyH_take (i := 5) (v := (.pointer (some ⟨w.heap.size + 1, 4, none⟩))) rfl (by kernel_rfl) (by kernel_rfl) (by kernel_rfl) (fun _ _ _ h => h) (Or.inl ⟨by kernel_rfl, by intro w hSw; obtain ⟨q0, q1, q2, q3, q4, q5, q6, q7⟩ := HALL.out w hSw; clear hSw; go_simp⟩) (HBR.out.trans (below_drawn wr 1)) ?_
                  try simp only [Act.put, List.getElem_toArray, List.getElem_cons_zero, List.getElem_cons_succ, List.setIfInBounds_toArray, List.set_cons_zero, List.set_cons_succ]
                  refine wpAnyH_take (i := 6) (v := (.slice (some ⟨b2, o2, none⟩) pp.length e5)) rfl (by kernel_rfl) (by kernel_rfl) (by kernel_rfl) (fun _ _ _ h => h) (Or.inl ⟨by kernel_rfl, by intro w hSw; obtain ⟨q0, q1, q2, q3, q4, q5, q6, q7⟩ := HALL.out w hSw; clear hSw; go_simp⟩) (HBR.out.trans (below_drawn wr 1)) ?_
                  try simp only [Act.put, List.getElem_toArray, List.getElem_cons_zero, List.getElem_cons_succ, List.setIfInBounds_toArray, List.set_cons_zero, List.set_cons_succ]
                  refine wpAnyH_take (i := 7) (v := (.int .i64 k)) rfl (by kernel_rfl) (by kernel_rfl) (by kernel_rfl) (fun _ _ _ h => h) (Or.inl ⟨by kernel_rfl, by intro w hSw; obtain ⟨q0, q1, q2, q3, q4, q5, q6, q7⟩ := HALL.out w hSw; clear hSw; go_simp⟩) (HBR.out.trans (below_drawn wr 1)) ?_
                  try simp only [Act.put, List.getElem_toArray, List.getElem_cons_zero, List.getElem_cons_succ, List.setIfInBounds_toArray, List.set_cons_zero, List.set_cons_succ]
                  refine wpAnyH_take (i := 8) (v := (.pointer (some ⟨b2, o2 + k * 3, none⟩))) rfl (by kernel_rfl) (by kernel_rfl) (by kernel_rfl) (fun _ _ _ h => h) (Or.inl ⟨by kernel_rfl, by intro w hSw; obtain ⟨q0, q1, q2, q3, q4, q5, q6, q7⟩ := HALL.out w hSw; clear hSw; go_simp⟩) (HBR.out.trans (below_drawn wr 1)) ?_
                  try simp only [Act.put, List.getElem_toArray, List.getElem_cons_zero, List.getElem_cons_succ, List.setIfInBounds_toArray, List.set_cons_zero, List.set_cons_succ]
                  refine wpAnyH_take (i := 9) (v := (.agg #[.int .i64 X.caps, .int .i64 X.regs, .slice P2 m2 q2])) rfl (by kernel_rfl) (by kernel_rfl) (by kernel_rfl) (fun _ _ _ h => h) (Or.inl ⟨by kernel_rfl, by intro w hSw; obtain ⟨q0, q1, q2, q3, q4, q5, q6, q7⟩ := HALL.out w hSw; clear hSw; go_simp⟩) (HBR.out.trans (below_drawn wr 1)) ?_
                  try simp only [Act.put, List.getElem_toArray, List.getElem_cons_zero, List.getElem_cons_succ, List.setIfInBounds_toArray, List.set_cons_zero, List.set_cons_succ]
                  refine wpAnyH_ready (rs := [10]) (by kernel_rfl) (by simp) ?_
                  refine AllReadyH.cons rfl (fun K hK => ?_) AllReadyH.nil
                  go_simp
                  refine (HP.out).mono ?_
                  rintro e w5 ⟨rfl, hb5⟩
                  have hS5 : Below W2.heap.size W2 w5 := (HBR.out.trans (below_drawn wr 1)).trans (hb5.mono (HBR.out.trans (below_drawn wr 1)).size)
                  refine hK.out _ _ hS5 (fun _ => ?_)
                  clear hK K
                  try simp only [Act.put, List.getElem_toArray, List.getElem_cons_zero, List.getElem_cons_succ, List.setIfInBounds_toArray, List.set_cons_zero, List.set_cons_succ]
                  refine wpAnyH_take (i := 11) (v := .bool true) rfl (by kernel_rfl) (by kernel_rfl) (by kernel_rfl) (fun _ _ _ h => h) (Or.inl ⟨by kernel_rfl, by intro w hSw; obtain ⟨q0, q1, q2, q3, q4, q5, q6, q7⟩ := HALL.out w hSw; clear hSw; go_simp⟩) hS5 ?_
                  try simp only [Act.put, List.getElem_toArray, List.getElem_cons_zero, List.getElem_cons_succ, List.setIfInBounds_toArray, List.set_cons_zero, List.set_cons_succ]
                  refine wpAnyH_done (by kernel_rfl) ?_ _
                  go_wp2_with fail
                  go_roundw
                  case rel => exact ⟨k + 1, rfl, by omega, hS5⟩
                  case measure => simp [intOf]; omega
                · obtain rfl : k = pp.length := by omega
                  have p0 : wr.cell? ⟨w.heap.size, 4, none⟩ = some (.slice A5 pp.length c5) := keep_cell hbr f4a
                  have p1 : wr.cell? ⟨w.heap.size + 1, 4, none⟩ = some (.slice B5 pp.length e5) := keep_cell hbr f4b
                  have HBR := hid hbr
                  clear hbr
                  go_wp2_with fail
                  go_ret
                  exact ⟨rfl, HB2.out.trans ((HBR.out).mono HB2.out.size)⟩
end Go.Proofs.Ytpnggkkfoipfhaa
