/- What reads as the same is the same: the law's comparisons. -/
import Derived.Test.YtpnggkkfoipfhaaCI
import Derived.Laws.StructEq
set_option linter.unusedVariables false
namespace Go.Proofs.Ytpnggkkfoipfhaa
open Go.RowKit

theorem keep_cell {W w' : World} {b i : Nat} {v : Value} (h : Below W.heap.size W w') (d : W.cell? ⟨b, i, none⟩ = some v) : w'.cell? ⟨b, i, none⟩ = some v :=
  (h.cell (p := ⟨b, i, none⟩) (cell_lt d)).trans d
theorem sl_len {w : World} {B k : Nat} {A : Option Addr} {n c : Nat} {xs : List Value} (h : Sl w B k (.slice A n c) xs) : xs.length = n * k ∧ n ≤ c ∧ c ≤ 2 ^ 63 - 1 := by
  obtain ⟨A', n', c', hv, hl, hn, hc, _⟩ := h
  injection hv with e1 e2 e3
  subst e1 e2 e3
  unfold maxLen at hc
  exact ⟨hl, hn, hc⟩
/-- An element's cells, in the world where the slice reads. -/
theorem sl_in {w : World} {B k : Nat} {xs : List Value} {A : Option Addr} {n c : Nat} (h : Sl w B k (.slice A n c) xs) {i : Nat} (hi : i < n) (hk : 0 < k) :
    ∃ b off, A = some ⟨b, off, none⟩ ∧ ∀ (j : Nat) u, xs[i * k + j]? = some u → w.cell? ⟨b, off + (i * k + j), none⟩ = some u :=
  sl_at h (Below.refl _ _) rfl hi hk

theorem instrsV_length (l : List (Int × Int × Int × Int)) : (instrsV l).length = l.length * 4 := by
  induction l with
  | nil => rfl
  | cons x l ih =>
    have e : instrsV (x :: l) = [.int .i64 x.1, .int .i64 x.2.1, .int .i64 x.2.2.1, .int .i64 x.2.2.2] ++ instrsV l := rfl
    rw [e, List.length_append, ih, List.length_cons]; simp; omega
theorem needsV_length (l : List (Bt × Int)) : (needsV l).length = l.length * 2 := by
  induction l with
  | nil => rfl
  | cons x l ih =>
    have e : needsV (x :: l) = [sv x.1, .int .i64 x.2] ++ needsV l := rfl
    rw [e, List.length_append, ih, List.length_cons]; simp; omega
theorem Sl.far {W w' : World} {B k : Nat} {v : Value} {xs : List Value} (h : Sl W B k v xs) (hB : B ≤ W.heap.size) (hb : Below W.heap.size W w') : Sl w' w'.heap.size k v xs :=
  Sl.more (Sl.below h (hb.mono hB)) (Nat.le_trans hB hb.size)
theorem CoR.far {W w' : World} {B : Nat} {x : List Value} {c : CoD} (h : CoR W B x c) (hB : B ≤ W.heap.size) (hb : Below W.heap.size W w') : CoR w' w'.heap.size x c :=
  (h.keep (hb.mono hB)).more (Nat.le_trans hB hb.size)
theorem sl_exact {w : World} {B k m : Nat} {v : Value} {xs : List Value} (h : Sl w B k v xs) (hk : 0 < k) (hm : xs.length = m * k) : ∃ A c, v = .slice A m c := by
  obtain ⟨A, n, c, rfl⟩ := sl_shape h
  have := (sl_len h).1
  rw [hm] at this
  obtain rfl : m = n := Nat.eq_of_mul_eq_mul_right hk this
  exact ⟨A, c, rfl⟩
theorem co_parts {w : World} {B : Nat} {x : List Value} {t : List Int} {n : List (Bt × Int)} {m : List Bt} {f u : List CoD} (h : CoR w B x (.mk t n m f u)) :
    ∃ A1 c1 A2 c2 A3 c3 A4 c4 A5 c5 xf xu, x = [.slice A1 t.length c1, .slice A2 n.length c2, .slice A3 m.length c3, .slice A4 f.length c4, .slice A5 u.length c5] ∧
      Sl w B 1 (.slice A1 t.length c1) (intsV t) ∧ Sl w B 2 (.slice A2 n.length c2) (needsV n) ∧ Sl w B 1 (.slice A3 m.length c3) (svs m) ∧ Sl w B 5 (.slice A4 f.length c4) xf ∧ CosR w B xf f ∧ Sl w B 5 (.slice A5 u.length c5) xu ∧ CosR w B xu u := by
  cases h with
  | mk h1 h2 h3 h4 h4c h5 h5c =>
    obtain ⟨A1, c1, rfl⟩ := sl_exact h1 (by omega) (m := t.length) (by rw [intsV_length]; omega)
    obtain ⟨A2, c2, rfl⟩ := sl_exact h2 (by omega) (m := n.length) (needsV_length n)
    obtain ⟨A3, c3, rfl⟩ := sl_exact h3 (by omega) (m := m.length) (by rw [svs_length]; omega)
    obtain ⟨A4, c4, rfl⟩ := sl_exact h4 (by omega) (m := f.length) h4c.length
    obtain ⟨A5, c5, rfl⟩ := sl_exact h5 (by omega) (m := u.length) h5c.length
    exact ⟨A1, c1, A2, c2, A3, c3, A4, c4, A5, c5, _, _, rfl, h1, h2, h3, h4, h4c, h5, h5c⟩
theorem code_parts {w : World} {B : Nat} {x : List Value} {c : CodeD} (h : CodeR w B x c) :
    ∃ A1 c1 A2 c2 A3 c3 A4 c4 A5 c5 xh xc xp, x = [.slice A1 c.ints.length c1, .slice A2 c.strs.length c2, .slice A3 c.shapes.length c3, .slice A4 c.cos.length c4, .slice A5 c.procs.length c5, .int .i64 c.main, .bool c.merge] ∧
      Sl w B 1 (.slice A1 c.ints.length c1) (intsV c.ints) ∧ Sl w B 1 (.slice A2 c.strs.length c2) (svs c.strs) ∧ Sl w B 1 (.slice A3 c.shapes.length c3) xh ∧ ShapesR w B xh c.shapes ∧ Sl w B 5 (.slice A4 c.cos.length c4) xc ∧ CosR w B xc c.cos ∧ Sl w B 3 (.slice A5 c.procs.length c5) xp ∧ ProcsR w B xp c.procs := by
  obtain ⟨vi, vs, vh, vc, vp, xh, xc, xp, rfl, h1, h2, h3, h3r, h4, h4r, h5, h5r⟩ := h
  obtain ⟨A1, c1, rfl⟩ := sl_exact h1 (by omega) (m := c.ints.length) (by rw [intsV_length]; omega)
  obtain ⟨A2, c2, rfl⟩ := sl_exact h2 (by omega) (m := c.strs.length) (by rw [svs_length]; omega)
  obtain ⟨A3, c3, rfl⟩ := sl_exact h3 (by omega) (m := c.shapes.length) (by rw [h3r.1]; omega)
  obtain ⟨A4, c4, rfl⟩ := sl_exact h4 (by omega) (m := c.cos.length) h4r.length
  obtain ⟨A5, c5, rfl⟩ := sl_exact h5 (by omega) (m := c.procs.length) h5r.1
  exact ⟨A1, c1, A2, c2, A3, c3, A4, c4, A5, c5, _, _, _, rfl, h1, h2, h3, h3r, h4, h4r, h5, h5r⟩
set_option maxRecDepth 100000 in
set_option maxHeartbeats 4000000 in
theorem texts_same (va vb : Value) (l : List Bt) (w : World) (ha : Ss w w.heap.size va l) (hb : Ss w w.heap.size vb l) :
    Calls Try.prog 37 #[va, vb] w fun e w' => e = .returned (.bool true) ∧ Below w.heap.size w w' := by
  obtain ⟨A1, n1, c1, rfl⟩ := sl_shape ha
  obtain ⟨A2, n2, c2, rfl⟩ := sl_shape hb
  obtain ⟨la, na, ca⟩ := sl_len ha
  obtain ⟨lb, nb, cb⟩ := sl_len hb
  rw [svs_length] at la lb
  obtain rfl : n1 = l.length := by omega
  obtain rfl : n2 = l.length := by omega
  have HA : Hid (Sl w w.heap.size 1 (.slice A1 l.length c1) (svs l)) := hid ha
  have HB : Hid (Sl w w.heap.size 1 (.slice A2 l.length c2) (svs l)) := hid hb
  clear ha hb la lb
  go_enter Try.func37, Try.ntmps37
  go_wp2_with fail
  go_loopw [5] (fun v5 wr => ∃ k : Nat, v5 = .int .i64 k ∧ k ≤ l.length ∧ Below w.heap.size w wr) (fun v5 _ => l.length - (intOf v5).toNat)
  case atStart => exact ⟨0, rfl, by omega, Below.refl _ _⟩
  case round =>
    obtain ⟨k, rfl, hk, hbr⟩ := hrel
    by_cases hlt : k < l.length
    · have hlt0 := hlt
      obtain ⟨b1, o1, rfl, hc1⟩ := sl_in HA.out hlt (by omega)
      obtain ⟨b2, o2, rfl, hc2⟩ := sl_in HB.out hlt (by omega)
      have d1 : w.cell? ⟨b1, o1 + k, none⟩ = some (sv l[k]) := by have := hc1 0 (sv l[k]) (by simp [svs, hlt]); simpa using this
      have d2 : w.cell? ⟨b2, o2 + k, none⟩ = some (sv l[k]) := by have := hc2 0 (sv l[k]) (by simp [svs, hlt]); simpa using this
      clear hc1 hc2
      generalize l[k] = X at *
      have hall : ∀ w' : World, Below w.heap.size w w' → w'.cell? ⟨b1, o1 + k, none⟩ = some (sv X) ∧ w'.cell? ⟨b2, o2 + k, none⟩ = some (sv X) := fun w' h => ⟨keep_cell h d1, keep_cell h d2⟩
      have HALL := hid hall
      obtain ⟨p0, p1⟩ := hall wr hbr
      have HBR := hid hbr
      clear hall hbr
      go_wp2_with fail
      refine wp_region_held_drew (S := fun w' => Below w.heap.size w w') (by kernel_rfl) (HBR.out.trans (below_drawn wr 1)) (fun _ => ?_)
      try simp only [Act.put, List.getElem_toArray, List.getElem_cons_zero, List.getElem_cons_succ, List.setIfInBounds_toArray, List.set_cons_zero, List.set_cons_succ]
      refine wpAnyH_take (i := 0) (v := (.slice (some ⟨b1, o1, none⟩) l.length c1)) rfl (by kernel_rfl) (by kernel_rfl) (by kernel_rfl) (fun _ _ _ h => h) (Or.inl ⟨by kernel_rfl, by intro w hSw; obtain ⟨q0, q1⟩ := HALL.out w hSw; clear hSw; go_simp⟩) (HBR.out.trans (below_drawn wr 1)) ?_
      try simp only [Act.put, List.getElem_toArray, List.getElem_cons_zero, List.getElem_cons_succ, List.setIfInBounds_toArray, List.set_cons_zero, List.set_cons_succ]
      refine wpAnyH_take (i := 1) (v := (.int .i64 k)) rfl (by kernel_rfl) (by kernel_rfl) (by kernel_rfl) (fun _ _ _ h => h) (Or.inl ⟨by kernel_rfl, by intro w hSw; obtain ⟨q0, q1⟩ := HALL.out w hSw; clear hSw; go_simp⟩) (HBR.out.trans (below_drawn wr 1)) ?_
      try simp only [Act.put, List.getElem_toArray, List.getElem_cons_zero, List.getElem_cons_succ, List.setIfInBounds_toArray, List.set_cons_zero, List.set_cons_succ]
      refine wpAnyH_take (i := 2) (v := (.pointer (some ⟨b1, o1 + k, none⟩))) rfl (by kernel_rfl) (by kernel_rfl) (by kernel_rfl) (fun _ _ _ h => h) (Or.inl ⟨by kernel_rfl, by intro w hSw; obtain ⟨q0, q1⟩ := HALL.out w hSw; clear hSw; go_simp⟩) (HBR.out.trans (below_drawn wr 1)) ?_
      try simp only [Act.put, List.getElem_toArray, List.getElem_cons_zero, List.getElem_cons_succ, List.setIfInBounds_toArray, List.set_cons_zero, List.set_cons_succ]
      refine wpAnyH_take (i := 3) (v := (sv X)) rfl (by kernel_rfl) (by kernel_rfl) (by kernel_rfl) (fun _ _ _ h => h) (Or.inl ⟨by kernel_rfl, by intro w hSw; obtain ⟨q0, q1⟩ := HALL.out w hSw; clear hSw; go_simp⟩) (HBR.out.trans (below_drawn wr 1)) ?_
      try simp only [Act.put, List.getElem_toArray, List.getElem_cons_zero, List.getElem_cons_succ, List.setIfInBounds_toArray, List.set_cons_zero, List.set_cons_succ]
      refine wpAnyH_take (i := 4) (v := (.slice (some ⟨b2, o2, none⟩) l.length c2)) rfl (by kernel_rfl) (by kernel_rfl) (by kernel_rfl) (fun _ _ _ h => h) (Or.inl ⟨by kernel_rfl, by intro w hSw; obtain ⟨q0, q1⟩ := HALL.out w hSw; clear hSw; go_simp⟩) (HBR.out.trans (below_drawn wr 1)) ?_
      try simp only [Act.put, List.getElem_toArray, List.getElem_cons_zero, List.getElem_cons_succ, List.setIfInBounds_toArray, List.set_cons_zero, List.set_cons_succ]
      refine wpAnyH_take (i := 5) (v := (.int .i64 k)) rfl (by kernel_rfl) (by kernel_rfl) (by kernel_rfl) (fun _ _ _ h => h) (Or.inl ⟨by kernel_rfl, by intro w hSw; obtain ⟨q0, q1⟩ := HALL.out w hSw; clear hSw; go_simp⟩) (HBR.out.trans (below_drawn wr 1)) ?_
      try simp only [Act.put, List.getElem_toArray, List.getElem_cons_zero, List.getElem_cons_succ, List.setIfInBounds_toArray, List.set_cons_zero, List.set_cons_succ]
      refine wpAnyH_take (i := 6) (v := (.pointer (some ⟨b2, o2 + k, none⟩))) rfl (by kernel_rfl) (by kernel_rfl) (by kernel_rfl) (fun _ _ _ h => h) (Or.inl ⟨by kernel_rfl, by intro w hSw; obtain ⟨q0, q1⟩ := HALL.out w hSw; clear hSw; go_simp⟩) (HBR.out.trans (below_drawn wr 1)) ?_
      try simp only [Act.put, List.getElem_toArray, List.getElem_cons_zero, List.getElem_cons_succ, List.setIfInBounds_toArray, List.set_cons_zero, List.set_cons_succ]
      refine wpAnyH_take (i := 7) (v := (sv X)) rfl (by kernel_rfl) (by kernel_rfl) (by kernel_rfl) (fun _ _ _ h => h) (Or.inl ⟨by kernel_rfl, by intro w hSw; obtain ⟨q0, q1⟩ := HALL.out w hSw; clear hSw; go_simp⟩) (HBR.out.trans (below_drawn wr 1)) ?_
      try simp only [Act.put, List.getElem_toArray, List.getElem_cons_zero, List.getElem_cons_succ, List.setIfInBounds_toArray, List.set_cons_zero, List.set_cons_succ]
      refine wpAnyH_take (i := 8) (v := (.bool false)) rfl (by kernel_rfl) (by kernel_rfl) (by kernel_rfl) (fun _ _ _ h => h) (Or.inl ⟨by kernel_rfl, by intro w hSw; obtain ⟨q0, q1⟩ := HALL.out w hSw; clear hSw; go_simp⟩) (HBR.out.trans (below_drawn wr 1)) ?_
      try simp only [Act.put, List.getElem_toArray, List.getElem_cons_zero, List.getElem_cons_succ, List.setIfInBounds_toArray, List.set_cons_zero, List.set_cons_succ]
      refine wpAnyH_done (by kernel_rfl) ?_ _
      go_wp2_with fail
      go_roundw
      case rel => exact ⟨k + 1, rfl, by omega, (HBR.out.trans (below_drawn wr 1))⟩
      case measure => simp [intOf]; omega
    · obtain rfl : k = l.length := by omega
      have HBR := hid hbr
      clear hbr
      go_wp2_with fail
      go_ret
      exact ⟨rfl, HBR.out⟩
set_option maxRecDepth 100000 in
set_option maxHeartbeats 4000000 in
theorem procs_same (va vb : Value) (cp rg : Int) (l : List (Int × Int × Int × Int)) (w : World) (ha : Sl w w.heap.size 4 va (instrsV l)) (hb : Sl w w.heap.size 4 vb (instrsV l)) :
    Calls Try.prog 39 #[.agg #[.int .i64 cp, .int .i64 rg, va], .agg #[.int .i64 cp, .int .i64 rg, vb]] w fun e w' => e = .returned (.bool true) ∧ Below w.heap.size w w' := by
  obtain ⟨A1, n1, c1, rfl⟩ := sl_shape ha
  obtain ⟨B2, n2, c2, rfl⟩ := sl_shape hb
  obtain ⟨la, na, ca⟩ := sl_len ha
  obtain ⟨lb, nb, cb⟩ := sl_len hb
  rw [instrsV_length] at la lb
  obtain rfl : n1 = l.length := by omega
  obtain rfl : n2 = l.length := by omega
  have hz0 := heap_alloc_new w (.cells #[.int .i64 cp, .int .i64 rg, .slice A1 l.length c1] 47)
  obtain ⟨W1, hW1⟩ : ∃ W1, W1 = w.alloc (.cells #[.int .i64 cp, .int .i64 rg, .slice A1 l.length c1] 47) := ⟨_, rfl⟩
  have hb1 : Below w.heap.size w W1 := by rw [hW1]; exact (Below.refl _ _).alloc (Nat.le_refl _) _
  rw [← hW1] at hz0
  have hs1 : W1.heap.size = w.heap.size + 1 := by rw [hW1]; exact Array.size_push _
  have hz2 := heap_alloc_new W1 (.cells #[.int .i64 cp, .int .i64 rg, .slice B2 l.length c2] 47)
  obtain ⟨W2, hW2⟩ : ∃ W2, W2 = W1.alloc (.cells #[.int .i64 cp, .int .i64 rg, .slice B2 l.length c2] 47) := ⟨_, rfl⟩
  have hb12 : Below W1.heap.size W1 W2 := by rw [hW2]; exact (Below.refl _ _).alloc (Nat.le_refl _) _
  have hb2 : Below w.heap.size w W2 := hb1.trans (hb12.mono hb1.size)
  rw [← hW2, hs1] at hz2
  have hz1 := (hb12.block _ (block_lt hz0)).trans hz0
  have HWE := hid hW2
  rw [hW1] at HWE
  have HB2 := hid hb2
  have f1 : W2.cell? ⟨w.heap.size, 2, none⟩ = some (.slice A1 l.length c1) := (cell_of_row _ _ _ _ _ _ hz1).trans rfl
  have f2 : W2.cell? ⟨w.heap.size + 1, 2, none⟩ = some (.slice B2 l.length c2) := (cell_of_row _ _ _ _ _ _ hz2).trans rfl
  have HA : Hid (Sl W2 w.heap.size 4 (.slice A1 l.length c1) (instrsV l)) := hid (ha.below hb2)
  have HB : Hid (Sl W2 w.heap.size 4 (.slice B2 l.length c2) (instrsV l)) := hid (hb.below hb2)
  clear ha hb la lb hz0 hz1 hz2 hb1 hb12 hb2 hs1 hW1 hW2
  go_enter Try.func39, Try.ntmps39
  go_wp2_with fail
  go_loopw [5] (fun v5 wr => ∃ k : Nat, v5 = .int .i64 k ∧ k ≤ l.length ∧ Below W2.heap.size W2 wr) (fun v5 _ => l.length - (intOf v5).toNat)
  case atStart => exact ⟨0, rfl, by omega, (by rw [← HWE.out]; exact Below.refl _ _)⟩
  case round =>
    obtain ⟨k, rfl, hk, hbr⟩ := hrel
    by_cases hlt : k < l.length
    · have hlt0 := hlt
      obtain ⟨b1, o1, rfl, hc1⟩ := sl_in HA.out hlt (by omega)
      obtain ⟨b2, o2, rfl, hc2⟩ := sl_in HB.out hlt (by omega)
      have d1 : ∀ (j : Nat) u, j < 4 → [Value.int .i64 l[k].1, .int .i64 l[k].2.1, .int .i64 l[k].2.2.1, .int .i64 l[k].2.2.2][j]? = some u → W2.cell? ⟨b1, o1 + (k * 4 + j), none⟩ = some u := fun j u hj hu => hc1 j u (by rw [instrsV, flat_some (k := 4) (fun _ => rfl) l k hlt j hj]; exact hu)
      have d2 : ∀ (j : Nat) u, j < 4 → [Value.int .i64 l[k].1, .int .i64 l[k].2.1, .int .i64 l[k].2.2.1, .int .i64 l[k].2.2.2][j]? = some u → W2.cell? ⟨b2, o2 + (k * 4 + j), none⟩ = some u := fun j u hj hu => hc2 j u (by rw [instrsV, flat_some (k := 4) (fun _ => rfl) l k hlt j hj]; exact hu)
      generalize l[k] = X at *
      obtain ⟨x0, x1, x2, x3⟩ := X
      have d10 : W2.cell? ⟨b1, o1 + k * 4, none⟩ = some (.int .i64 x0) := by have := d1 0 _ (by omega) rfl; simpa [Nat.add_assoc] using this
      have d11 : W2.cell? ⟨b1, o1 + k * 4 + 1, none⟩ = some (.int .i64 x1) := by have := d1 1 _ (by omega) rfl; simpa [Nat.add_assoc] using this
      have d12 : W2.cell? ⟨b1, o1 + k * 4 + 2, none⟩ = some (.int .i64 x2) := by have := d1 2 _ (by omega) rfl; simpa [Nat.add_assoc] using this
      have d13 : W2.cell? ⟨b1, o1 + k * 4 + 3, none⟩ = some (.int .i64 x3) := by have := d1 3 _ (by omega) rfl; simpa [Nat.add_assoc] using this
      have d20 : W2.cell? ⟨b2, o2 + k * 4, none⟩ = some (.int .i64 x0) := by have := d2 0 _ (by omega) rfl; simpa [Nat.add_assoc] using this
      have d21 : W2.cell? ⟨b2, o2 + k * 4 + 1, none⟩ = some (.int .i64 x1) := by have := d2 1 _ (by omega) rfl; simpa [Nat.add_assoc] using this
      have d22 : W2.cell? ⟨b2, o2 + k * 4 + 2, none⟩ = some (.int .i64 x2) := by have := d2 2 _ (by omega) rfl; simpa [Nat.add_assoc] using this
      have d23 : W2.cell? ⟨b2, o2 + k * 4 + 3, none⟩ = some (.int .i64 x3) := by have := d2 3 _ (by omega) rfl; simpa [Nat.add_assoc] using this
      clear hc1 hc2 d1 d2
      have hall : ∀ w' : World, Below W2.heap.size W2 w' → w'.cell? ⟨w.heap.size, 2, none⟩ = some (.slice (some ⟨b1, o1, none⟩) l.length c1) ∧ w'.cell? ⟨w.heap.size + 1, 2, none⟩ = some (.slice (some ⟨b2, o2, none⟩) l.length c2) ∧ w'.cell? ⟨b1, o1 + k * 4, none⟩ = some (.int .i64 x0) ∧ w'.cell? ⟨b1, o1 + k * 4 + 1, none⟩ = some (.int .i64 x1) ∧ w'.cell? ⟨b1, o1 + k * 4 + 2, none⟩ = some (.int .i64 x2) ∧ w'.cell? ⟨b1, o1 + k * 4 + 3, none⟩ = some (.int .i64 x3) ∧ w'.cell? ⟨b2, o2 + k * 4, none⟩ = some (.int .i64 x0) ∧ w'.cell? ⟨b2, o2 + k * 4 + 1, none⟩ = some (.int .i64 x1) ∧ w'.cell? ⟨b2, o2 + k * 4 + 2, none⟩ = some (.int .i64 x2) ∧ w'.cell? ⟨b2, o2 + k * 4 + 3, none⟩ = some (.int .i64 x3) := fun w' h => ⟨keep_cell h f1, keep_cell h f2, keep_cell h d10, keep_cell h d11, keep_cell h d12, keep_cell h d13, keep_cell h d20, keep_cell h d21, keep_cell h d22, keep_cell h d23⟩
      have HALL := hid hall
      obtain ⟨p0, p1, p2, p3, p4, p5, p6, p7, p8, p9⟩ := hall wr hbr
      have HBR := hid hbr
      clear hall hbr
      go_wp2_with fail
      refine wp_region_held_drew (S := fun w' => Below W2.heap.size W2 w') (by kernel_rfl) (HBR.out.trans (below_drawn wr 1)) (fun _ => ?_)
      try simp only [Act.put, List.getElem_toArray, List.getElem_cons_zero, List.getElem_cons_succ, List.setIfInBounds_toArray, List.set_cons_zero, List.set_cons_succ]
      refine wpAnyH_take (i := 0) (v := (.pointer (some ⟨w.heap.size, 2, none⟩))) rfl (by kernel_rfl) (by kernel_rfl) (by kernel_rfl) (fun _ _ _ h => h) (Or.inl ⟨by kernel_rfl, by intro w hSw; obtain ⟨q0, q1, q2, q3, q4, q5, q6, q7, q8, q9⟩ := HALL.out w hSw; clear hSw; go_simp⟩) (HBR.out.trans (below_drawn wr 1)) ?_
      try simp only [Act.put, List.getElem_toArray, List.getElem_cons_zero, List.getElem_cons_succ, List.setIfInBounds_toArray, List.set_cons_zero, List.set_cons_succ]
      refine wpAnyH_take (i := 1) (v := (.slice (some ⟨b1, o1, none⟩) l.length c1)) rfl (by kernel_rfl) (by kernel_rfl) (by kernel_rfl) (fun _ _ _ h => h) (Or.inl ⟨by kernel_rfl, by intro w hSw; obtain ⟨q0, q1, q2, q3, q4, q5, q6, q7, q8, q9⟩ := HALL.out w hSw; clear hSw; go_simp⟩) (HBR.out.trans (below_drawn wr 1)) ?_
      try simp only [Act.put, List.getElem_toArray, List.getElem_cons_zero, List.getElem_cons_succ, List.setIfInBounds_toArray, List.set_cons_zero, List.set_cons_succ]
      refine wpAnyH_take (i := 2) (v := (.int .i64 k)) rfl (by kernel_rfl) (by kernel_rfl) (by kernel_rfl) (fun _ _ _ h => h) (Or.inl ⟨by kernel_rfl, by intro w hSw; obtain ⟨q0, q1, q2, q3, q4, q5, q6, q7, q8, q9⟩ := HALL.out w hSw; clear hSw; go_simp⟩) (HBR.out.trans (below_drawn wr 1)) ?_
      try simp only [Act.put, List.getElem_toArray, List.getElem_cons_zero, List.getElem_cons_succ, List.setIfInBounds_toArray, List.set_cons_zero, List.set_cons_succ]
      refine wpAnyH_take (i := 3) (v := (.pointer (some ⟨b1, o1 + k * 4, none⟩))) rfl (by kernel_rfl) (by kernel_rfl) (by kernel_rfl) (fun _ _ _ h => h) (Or.inl ⟨by kernel_rfl, by intro w hSw; obtain ⟨q0, q1, q2, q3, q4, q5, q6, q7, q8, q9⟩ := HALL.out w hSw; clear hSw; go_simp⟩) (HBR.out.trans (below_drawn wr 1)) ?_
      try simp only [Act.put, List.getElem_toArray, List.getElem_cons_zero, List.getElem_cons_succ, List.setIfInBounds_toArray, List.set_cons_zero, List.set_cons_succ]
      refine wpAnyH_take (i := 4) (v := (.agg #[.int .i64 x0, .int .i64 x1, .int .i64 x2, .int .i64 x3])) rfl (by kernel_rfl) (by kernel_rfl) (by kernel_rfl) (fun _ _ _ h => h) (Or.inl ⟨by kernel_rfl, by intro w hSw; obtain ⟨q0, q1, q2, q3, q4, q5, q6, q7, q8, q9⟩ := HALL.out w hSw; clear hSw; go_simp⟩) (HBR.out.trans (below_drawn wr 1)) ?_
      try simp only [Act.put, List.getElem_toArray, List.getElem_cons_zero, List.getElem_cons_succ, List.setIfInBounds_toArray, List.set_cons_zero, List.set_cons_succ]
      refine wpAnyH_take (i := 5) (v := (.pointer (some ⟨w.heap.size + 1, 2, none⟩))) rfl (by kernel_rfl) (by kernel_rfl) (by kernel_rfl) (fun _ _ _ h => h) (Or.inl ⟨by kernel_rfl, by intro w hSw; obtain ⟨q0, q1, q2, q3, q4, q5, q6, q7, q8, q9⟩ := HALL.out w hSw; clear hSw; go_simp⟩) (HBR.out.trans (below_drawn wr 1)) ?_
      try simp only [Act.put, List.getElem_toArray, List.getElem_cons_zero, List.getElem_cons_succ, List.setIfInBounds_toArray, List.set_cons_zero, List.set_cons_succ]
      refine wpAnyH_take (i := 6) (v := (.slice (some ⟨b2, o2, none⟩) l.length c2)) rfl (by kernel_rfl) (by kernel_rfl) (by kernel_rfl) (fun _ _ _ h => h) (Or.inl ⟨by kernel_rfl, by intro w hSw; obtain ⟨q0, q1, q2, q3, q4, q5, q6, q7, q8, q9⟩ := HALL.out w hSw; clear hSw; go_simp⟩) (HBR.out.trans (below_drawn wr 1)) ?_
      try simp only [Act.put, List.getElem_toArray, List.getElem_cons_zero, List.getElem_cons_succ, List.setIfInBounds_toArray, List.set_cons_zero, List.set_cons_succ]
      refine wpAnyH_take (i := 7) (v := (.int .i64 k)) rfl (by kernel_rfl) (by kernel_rfl) (by kernel_rfl) (fun _ _ _ h => h) (Or.inl ⟨by kernel_rfl, by intro w hSw; obtain ⟨q0, q1, q2, q3, q4, q5, q6, q7, q8, q9⟩ := HALL.out w hSw; clear hSw; go_simp⟩) (HBR.out.trans (below_drawn wr 1)) ?_
      try simp only [Act.put, List.getElem_toArray, List.getElem_cons_zero, List.getElem_cons_succ, List.setIfInBounds_toArray, List.set_cons_zero, List.set_cons_succ]
      refine wpAnyH_take (i := 8) (v := (.pointer (some ⟨b2, o2 + k * 4, none⟩))) rfl (by kernel_rfl) (by kernel_rfl) (by kernel_rfl) (fun _ _ _ h => h) (Or.inl ⟨by kernel_rfl, by intro w hSw; obtain ⟨q0, q1, q2, q3, q4, q5, q6, q7, q8, q9⟩ := HALL.out w hSw; clear hSw; go_simp⟩) (HBR.out.trans (below_drawn wr 1)) ?_
      try simp only [Act.put, List.getElem_toArray, List.getElem_cons_zero, List.getElem_cons_succ, List.setIfInBounds_toArray, List.set_cons_zero, List.set_cons_succ]
      refine wpAnyH_take (i := 9) (v := (.agg #[.int .i64 x0, .int .i64 x1, .int .i64 x2, .int .i64 x3])) rfl (by kernel_rfl) (by kernel_rfl) (by kernel_rfl) (fun _ _ _ h => h) (Or.inl ⟨by kernel_rfl, by intro w hSw; obtain ⟨q0, q1, q2, q3, q4, q5, q6, q7, q8, q9⟩ := HALL.out w hSw; clear hSw; go_simp⟩) (HBR.out.trans (below_drawn wr 1)) ?_
      try simp only [Act.put, List.getElem_toArray, List.getElem_cons_zero, List.getElem_cons_succ, List.setIfInBounds_toArray, List.set_cons_zero, List.set_cons_succ]
      refine wpAnyH_take (i := 10) (v := (.bool false)) rfl (by kernel_rfl) (by kernel_rfl) (by kernel_rfl) (fun _ _ _ h => h) (Or.inl ⟨by kernel_rfl, by intro w hSw; obtain ⟨q0, q1, q2, q3, q4, q5, q6, q7, q8, q9⟩ := HALL.out w hSw; clear hSw; go_simp⟩) (HBR.out.trans (below_drawn wr 1)) ?_
      try simp only [Act.put, List.getElem_toArray, List.getElem_cons_zero, List.getElem_cons_succ, List.setIfInBounds_toArray, List.set_cons_zero, List.set_cons_succ]
      refine wpAnyH_done (by kernel_rfl) ?_ _
      go_wp2_with fail
      go_roundw
      case rel => exact ⟨k + 1, rfl, by omega, (HBR.out.trans (below_drawn wr 1))⟩
      case measure => simp [intOf]; omega
    · obtain rfl : k = l.length := by omega
      have p0 : wr.cell? ⟨w.heap.size, 2, none⟩ = some (.slice A1 l.length c1) := keep_cell hbr f1
      have p1 : wr.cell? ⟨w.heap.size + 1, 2, none⟩ = some (.slice B2 l.length c2) := keep_cell hbr f2
      have HBR := hid hbr
      clear hbr
      go_wp2_with fail
      go_ret
      exact ⟨rfl, HB2.out.trans ((HBR.out).mono HB2.out.size)⟩
end Go.Proofs.Ytpnggkkfoipfhaa
