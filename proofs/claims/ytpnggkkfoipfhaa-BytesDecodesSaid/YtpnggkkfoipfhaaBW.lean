/- A writer of bytes: numbers. -/
import Derived.Test.YtpnggkkfoipfhaaBM
import Derived.Test.YtpnggkkfoipfhaaMR
set_option linter.unusedVariables false
namespace Go.Proofs.Ytpnggkkfoipfhaa
open Go.RowKit

theorem ss_cell' {w wr : World} {F : Nat → Prop} {b off : Nat} (t : Turn F w wr) (hb : b < w.heap.size) (hF : ¬ F b) {u : Value} (h : w.cell? ⟨b, off, none⟩ = some u) : wr.cell? ⟨b, off, none⟩ = some u := by
  rw [← h]; simp only [World.cell?, t.block hb hF]
theorem block_free {w : World} {b : Nat} {cs : Array Value} {t : TypeId} (h : w.heap[b]? = some (.cells cs t (0, 0))) (i : Nat) : w.frozen? ⟨b, i, none⟩ = false := by
  simp [World.frozen?, h]
theorem ownB_shape {w : World} {base : Nat} {e : TypeId} {v : Value} {l : Bt} (h : OwnB w base e v l) (hl : 0 < l.length) : ∃ g c n, v = .slice (some ⟨g, 0, none⟩) n c := by
  obtain ⟨n, h⟩ := h
  have hn : n = l.length := by have := h.1; rw [bv_length] at this; omega
  subst hn
  obtain ⟨g, c, hv, _⟩ := own_form h hl
  exact ⟨g, c, _, hv⟩
/-- A row has grown by bytes, and the writer has it. -/
theorem wr_grown {wr w5 w9 : World} {base : Nat} {F : Nat → Prop} {bw : Nat} {vw v9 : Value} {m : Bt} (h1 : wr.heap[bw]? = some (.cells #[vw] 50 (0, 0))) (h2 : F bw) (h4 : ∀ g, vw.ownBlock = some g → F g ∧ g ≠ bw) (h6 : ∀ k, F k → base ≤ k ∧ k < wr.heap.size)
    (hb : Below wr.heap.size wr w5) (hg : w5.grownBy w9 vw.ownBlock) (ho : OwnB w9 0 5 v9 m) (hbk : v9.ownBlock = vw.ownBlock ∨ v9.ownBlock = some w5.heap.size) :
    WrTo base F bw wr (w9.setCell ⟨bw, 0, none⟩ v9) m ∧ w9.heap[bw]? = some (.cells #[vw] 50 (0, 0)) := by
  have hlt : bw < wr.heap.size := block_lt h1
  have h5 : w5.heap[bw]? = some (.cells #[vw] 50 (0, 0)) := (hb.block bw hlt).trans h1
  have h9 : w9.heap[bw]? = some (.cells #[vw] 50 (0, 0)) := (hg.block bw (block_lt h5) (fun h => (h4 bw h.symm).2 rfl)).trans h5
  have hne : ∀ g, v9.ownBlock = some g → g ≠ bw := by
    intro g hgv
    rcases hbk with h | h
    · exact (h4 g (h ▸ hgv)).2
    · rw [h] at hgv; injection hgv with hgv; have := hb.size; omega
  have ts := turn_set w9 bw 0 v9
  refine ⟨⟨fun k => F k ∨ v9.ownBlock = some k, ⟨v9, heap_setCell_same w9 bw 0 _ _ v9 h9, .inl h2, ?_, fun g hgv => ⟨.inr hgv, hne g hgv⟩, fun k hk => ?_⟩, ?_, fun k hk => ?_⟩, h9⟩
  · obtain ⟨n, ho⟩ := ho
    exact ⟨n, own_turn ho ts (fun g hgv h => hne g hgv h)⟩
  · rw [World.size_setCell]
    rcases hk with hk | hk
    · exact ⟨(h6 k hk).1, Nat.lt_of_lt_of_le (h6 k hk).2 (Nat.le_trans hb.size hg.size)⟩
    · refine ⟨?_, (ho.lt k hk).2⟩
      rcases hbk with h | h
      · exact (h6 k (h4 k (h ▸ hk)).1).1
      · rw [h] at hk; injection hk with hk; have := (h6 bw h2); have := hb.size; omega
  · exact (Turn.of_below hb).trans ((Turn.of_grown hg (fun k hk => (h4 k hk).1)).trans ts (fun i _ h => h ▸ h2)) (fun _ _ h => h)
  · rcases hk with hk | hk
    · exact .inl hk
    · rcases hbk with h | h
      · exact .inl (h4 k (h ▸ hk)).1
      · rw [h] at hk; injection hk with hk; exact .inr (by have := hb.size; omega)

set_option maxRecDepth 100000 in
set_option maxHeartbeats 2000000 in
theorem num_any (w : World) (base : Nat) (F : Nat → Prop) (bw : Nat) (b : Bt) (v : Value) (l : List Int) (hW : WrAt w base F bw b) (hv : Sl w w.heap.size 1 v (intsV l)) (hd : ∀ g, v.ownBlock = some g → ¬ F g) (hin : ∀ x ∈ l, In64 x) (hlen : b.length + 10 * l.length ≤ 140737488355000) :
    Calls Try.prog 17 #[.pointer (some ⟨bw, 0, none⟩), v] w fun e w' => e = .returned (.tuple #[]) ∧ WrTo base F bw w w' (b ++ l.flatMap putL) := by
  obtain ⟨A, c, rfl, hn, hc, hx⟩ := Is.open_ hv
  unfold maxLen at hc
  have HW := hid (WrTo.refl hW)
  clear hv hW
  go_enter Try.func17, Try.ntmps17
  go_wp2_with fail
  go_loopw [5, 8] (fun v5 v8 wr => ∃ k : Nat, v8 = .int .i64 k ∧ k ≤ l.length ∧ WrTo base F bw w wr (b ++ (l.take k).flatMap putL)) (fun _ v8 _ => l.length - (intOf v8).toNat)
  case atStart => exact ⟨0, rfl, by omega, by simpa using HW.out⟩
  case round =>
    obtain ⟨k, rfl, hk, hto⟩ := hrel
    by_cases hlt : k < l.length
    · have HTO := hid hto
      obtain ⟨F1, ⟨vw, h1, h2, h3, h4, h6⟩, t1, n1⟩ := hto
      obtain ⟨bx, off, rfl, hb, hcell⟩ := hx (by omega)
      have d1 := ss_cell' t1 hb (hd bx rfl) (hcell k hlt)
      have hX := hin l[k] (List.getElem_mem hlt)
      have hsn : (l.take (k + 1)).flatMap putL = (l.take k).flatMap putL ++ putL l[k] := by rw [List.take_succ_eq_append_getElem hlt, List.flatMap_append]; simp
      have hbl : ((l.take k).flatMap putL).length ≤ 10 * k := by
        have : ∀ m : List Int, (m.flatMap putL).length ≤ 10 * m.length := by
          intro m
          induction m with
          | nil => simp
          | cons x m ih => have := (putL_some x).2; rw [List.flatMap_cons, List.length_append, List.length_cons]; omega
        have := this (l.take k)
        rw [List.length_take] at this
        omega
      have hpl := putL_some l[k]
      generalize l[k] = X at *
      have HSN := hid hsn
      have HN1 := hid n1
      clear hcell hx hsn n1
      obtain ⟨bk, hbk⟩ : ∃ bk, bk = b ++ (l.take k).flatMap putL := ⟨_, rfl⟩
      rw [← hbk] at h3 HTO
      have hbkl : bk.length ≤ b.length + 10 * k := by rw [hbk, List.length_append]; omega
      have HBK := hid hbk
      clear hbk
      have c0 : wr.drew.cell? ⟨bw, 0, none⟩ = some vw := (cell_of_row _ _ _ _ _ (0, 0) h1).trans rfl
      have hlb : ∀ w5, Below wr.heap.size wr.drew w5 → w5.cell? ⟨bw, 0, none⟩ = some vw := fun w5 h5 => (h5.cell (p := ⟨bw, 0, none⟩) (block_lt h1)).trans c0
      have HLB := hid hlb
      have HIN := hid (put_any (.slice none 0 0) [] X)
      clear hlb
      have fin : ∀ w10, WrTo base F1 bw wr w10 (bk ++ putL X) → ∃ k_1 : Nat, Value.int .i64 ((k : Int) + 1) = .int .i64 k_1 ∧ k_1 ≤ l.length ∧ WrTo base F bw w w10 (b ++ (l.take k_1).flatMap putL) := by
        intro w10 h10
        refine ⟨k + 1, rfl, by omega, ?_⟩
        rw [HSN.out, ← List.append_assoc, ← HBK.out]
        obtain ⟨F2, g1, g2, g3⟩ := h10
        refine ⟨F2, g1, t1.trans g2 (fun i hi hF => (HN1.out i hF).elim id (fun h => absurd h (by omega))), fun j hj => ?_⟩
        rcases g3 j hj with h | h
        · exact HN1.out j h
        · exact .inr (Nat.le_trans t1.size h)
      have FIN := hid fin
      clear fin
      go_wp2_with fail
      refine wp_region_held_drew (S := fun _ => True) (by kernel_rfl) trivial (fun _ => ?_)
      try simp only [Act.put, List.getElem_toArray, List.getElem_cons_zero, List.getElem_cons_succ, List.setIfInBounds_toArray, List.set_cons_zero, List.set_cons_succ]
      refine wpAnyH_take (i := 0) (v := (.pointer (some ⟨bw, 0, none⟩))) rfl (by kernel_rfl) (by kernel_rfl) (by kernel_rfl) (fun _ _ _ h => h) (Or.inl ⟨by kernel_rfl, by intro w hSw; go_simp⟩) trivial ?_
      try simp only [Act.put, List.getElem_toArray, List.getElem_cons_zero, List.getElem_cons_succ, List.setIfInBounds_toArray, List.set_cons_zero, List.set_cons_succ]
      refine wpAnyH_take (i := 1) (v := (.pointer (some ⟨bw, 0, none⟩))) rfl (by kernel_rfl) (by kernel_rfl) (by kernel_rfl) (fun _ _ _ h => h) (Or.inl ⟨by kernel_rfl, by intro w hSw; go_simp⟩) trivial ?_
      try simp only [Act.put, List.getElem_toArray, List.getElem_cons_zero, List.getElem_cons_succ, List.setIfInBounds_toArray, List.set_cons_zero, List.set_cons_succ]
      refine wpAnyH_take (i := 2) (v := (.pointer (some ⟨bw, 0, none⟩))) rfl (by kernel_rfl) (by kernel_rfl) (by kernel_rfl) (fun _ _ _ h => h) (Or.inl ⟨by kernel_rfl, by intro w hSw; go_simp⟩) trivial ?_
      try simp only [Act.put, List.getElem_toArray, List.getElem_cons_zero, List.getElem_cons_succ, List.setIfInBounds_toArray, List.set_cons_zero, List.set_cons_succ]
      refine wpAnyH_take (i := 3) (v := (.pointer (some ⟨bw, 0, none⟩))) rfl (by kernel_rfl) (by kernel_rfl) (by kernel_rfl) (fun _ _ _ h => h) (Or.inl ⟨by kernel_rfl, by intro w hSw; go_simp⟩) trivial ?_
      try simp only [Act.put, List.getElem_toArray, List.getElem_cons_zero, List.getElem_cons_succ, List.setIfInBounds_toArray, List.set_cons_zero, List.set_cons_succ]
      refine wpAnyH_take (i := 5) (v := (.int .i64 X)) rfl (by kernel_rfl) (by kernel_rfl) (by kernel_rfl) (fun _ _ _ h => h) (Or.inl ⟨by kernel_rfl, by intro w hSw; go_simp⟩) trivial ?_
      try simp only [Act.put, List.getElem_toArray, List.getElem_cons_zero, List.getElem_cons_succ, List.setIfInBounds_toArray, List.set_cons_zero, List.set_cons_succ]
      refine wpAnyH_ready (rs := [4, 6]) (by kernel_rfl) (by simp) ?_
      refine AllReadyH.cons rfl (fun K hK => ?_) (AllReadyH.cons rfl (fun K hK => ?_) AllReadyH.nil)
      · go_simp
        refine hK.out _ _ trivial (fun _ => ?_)
        clear hK K
        try simp only [Act.put, List.getElem_toArray, List.getElem_cons_zero, List.getElem_cons_succ, List.setIfInBounds_toArray, List.set_cons_zero, List.set_cons_succ]
        refine wpAnyH_ready (rs := [6]) (by kernel_rfl) (by simp) ?_
        refine AllReadyH.cons rfl (fun K hK => ?_) AllReadyH.nil
        go_simp
        refine (HIN.out _ hX (Sl.nil _ _ _) (by decide)).mono ?_
        rintro e w5 ⟨v5, rfl, hown5, hb5⟩
        rw [List.nil_append] at hown5
        refine hK.out _ _ trivial (fun _ => ?_)
        clear hK K
        try simp only [Act.put, List.getElem_toArray, List.getElem_cons_zero, List.getElem_cons_succ, List.setIfInBounds_toArray, List.set_cons_zero, List.set_cons_succ]
        have hbel : Below wr.heap.size wr w5 := (below_drawn wr 1).trans hb5
        obtain ⟨n3, hrow3⟩ := h3
        have hrow5 := own_below hrow3 hbel
        have hn3 : n3 = bk.length := by have := hrow3.1; rw [bv_length] at this; omega
        refine wpAnyH_ready (rs := [7]) (by kernel_rfl) (by simp) ?_
        refine AllReadyH.cons rfl (fun K hK => ?_) AllReadyH.nil
        refine step_app rfl (.tmp 16) (.tmp 18) _ rfl 0 el_byte _ _ rfl rfl hrow5 hown5.bs (bv_one _) (by rw [bv_length, hn3]; unfold maxLen; omega) (by rw [bv_length, hn3]; omega) (Nat.zero_le _) (fun v9 w9 n9 hown9 hg9 hbk9 => ?_)
        rw [← bv_append] at hown9
        have hob9 : OwnB w9 0 5 v9 (bk ++ putL X) := ⟨n9, hown9⟩
        obtain ⟨g9, c9, m9, rfl⟩ := ownB_shape hob9 (by rw [List.length_append]; omega)
        obtain ⟨hto9, hblk9⟩ := wr_grown h1 h2 h4 h6 hbel hg9 hob9 hbk9
        have e0 : w9.cell? ⟨bw, 0, none⟩ = some vw := (cell_of_row _ _ _ _ _ (0, 0) hblk9).trans rfl
        have e1 := block_free hblk9 0
        have FN := hid (FIN.out _ hto9)
        refine hK.out _ _ trivial (fun _ => ?_)
        clear hK K
        try simp only [Act.put, List.getElem_toArray, List.getElem_cons_zero, List.getElem_cons_succ, List.setIfInBounds_toArray, List.set_cons_zero, List.set_cons_succ]
        refine wpAnyH_take (i := 8) (v := (.pointer (some ⟨bw, 0, none⟩))) rfl (by kernel_rfl) (by kernel_rfl) (by kernel_rfl) (fun _ _ _ h => h) (Or.inl ⟨by kernel_rfl, by intro w hSw; go_simp⟩) trivial ?_
        try simp only [Act.put, List.getElem_toArray, List.getElem_cons_zero, List.getElem_cons_succ, List.setIfInBounds_toArray, List.set_cons_zero, List.set_cons_succ]
        refine wpAnyH_take (i := 9) (v := (.pointer (some ⟨bw, 0, none⟩))) rfl (by kernel_rfl) (by kernel_rfl) (by kernel_rfl) (fun _ _ _ h => h) (Or.inl ⟨by kernel_rfl, by intro w hSw; go_simp⟩) trivial ?_
        try simp only [Act.put, List.getElem_toArray, List.getElem_cons_zero, List.getElem_cons_succ, List.setIfInBounds_toArray, List.set_cons_zero, List.set_cons_succ]
        refine wpAnyH_ready (rs := [10]) (by kernel_rfl) (by simp) ?_
        refine AllReadyH.cons rfl (fun K hK => ?_) AllReadyH.nil
        go_simp
        refine hK.out _ _ trivial (fun _ => ?_)
        clear hK K
        try simp only [Act.put, List.getElem_toArray, List.getElem_cons_zero, List.getElem_cons_succ, List.setIfInBounds_toArray, List.set_cons_zero, List.set_cons_succ]
        refine wpAnyH_done (by kernel_rfl) ?_ _
        clear hto9 hob9 hown9 hg9 hbk9
        go_wp2_with fail
        go_roundw
        case rel => exact FN.out
        case measure => simp [intOf]; omega
      · go_simp
        refine (HIN.out _ hX (Sl.nil _ _ _) (by decide)).mono ?_
        rintro e w5 ⟨v5, rfl, hown5, hb5⟩
        rw [List.nil_append] at hown5
        refine hK.out _ _ trivial (fun _ => ?_)
        clear hK K
        try simp only [Act.put, List.getElem_toArray, List.getElem_cons_zero, List.getElem_cons_succ, List.setIfInBounds_toArray, List.set_cons_zero, List.set_cons_succ]
        have hc5 := HLB.out w5 hb5
        refine wpAnyH_ready (rs := [4]) (by kernel_rfl) (by simp) ?_
        refine AllReadyH.cons rfl (fun K hK => ?_) AllReadyH.nil
        go_simp
        refine hK.out _ _ trivial (fun _ => ?_)
        clear hK K
        try simp only [Act.put, List.getElem_toArray, List.getElem_cons_zero, List.getElem_cons_succ, List.setIfInBounds_toArray, List.set_cons_zero, List.set_cons_succ]
        have hbel : Below wr.heap.size wr w5 := (below_drawn wr 1).trans hb5
        obtain ⟨n3, hrow3⟩ := h3
        have hrow5 := own_below hrow3 hbel
        have hn3 : n3 = bk.length := by have := hrow3.1; rw [bv_length] at this; omega
        refine wpAnyH_ready (rs := [7]) (by kernel_rfl) (by simp) ?_
        refine AllReadyH.cons rfl (fun K hK => ?_) AllReadyH.nil
        refine step_app rfl (.tmp 16) (.tmp 18) _ rfl 0 el_byte _ _ rfl rfl hrow5 hown5.bs (bv_one _) (by rw [bv_length, hn3]; unfold maxLen; omega) (by rw [bv_length, hn3]; omega) (Nat.zero_le _) (fun v9 w9 n9 hown9 hg9 hbk9 => ?_)
        rw [← bv_append] at hown9
        have hob9 : OwnB w9 0 5 v9 (bk ++ putL X) := ⟨n9, hown9⟩
        obtain ⟨g9, c9, m9, rfl⟩ := ownB_shape hob9 (by rw [List.length_append]; omega)
        obtain ⟨hto9, hblk9⟩ := wr_grown h1 h2 h4 h6 hbel hg9 hob9 hbk9
        have e0 : w9.cell? ⟨bw, 0, none⟩ = some vw := (cell_of_row _ _ _ _ _ (0, 0) hblk9).trans rfl
        have e1 := block_free hblk9 0
        have FN := hid (FIN.out _ hto9)
        refine hK.out _ _ trivial (fun _ => ?_)
        clear hK K
        try simp only [Act.put, List.getElem_toArray, List.getElem_cons_zero, List.getElem_cons_succ, List.setIfInBounds_toArray, List.set_cons_zero, List.set_cons_succ]
        refine wpAnyH_take (i := 8) (v := (.pointer (some ⟨bw, 0, none⟩))) rfl (by kernel_rfl) (by kernel_rfl) (by kernel_rfl) (fun _ _ _ h => h) (Or.inl ⟨by kernel_rfl, by intro w hSw; go_simp⟩) trivial ?_
        try simp only [Act.put, List.getElem_toArray, List.getElem_cons_zero, List.getElem_cons_succ, List.setIfInBounds_toArray, List.set_cons_zero, List.set_cons_succ]
        refine wpAnyH_take (i := 9) (v := (.pointer (some ⟨bw, 0, none⟩))) rfl (by kernel_rfl) (by kernel_rfl) (by kernel_rfl) (fun _ _ _ h => h) (Or.inl ⟨by kernel_rfl, by intro w hSw; go_simp⟩) trivial ?_
        try simp only [Act.put, List.getElem_toArray, List.getElem_cons_zero, List.getElem_cons_succ, List.setIfInBounds_toArray, List.set_cons_zero, List.set_cons_succ]
        refine wpAnyH_ready (rs := [10]) (by kernel_rfl) (by simp) ?_
        refine AllReadyH.cons rfl (fun K hK => ?_) AllReadyH.nil
        go_simp
        refine hK.out _ _ trivial (fun _ => ?_)
        clear hK K
        try simp only [Act.put, List.getElem_toArray, List.getElem_cons_zero, List.getElem_cons_succ, List.setIfInBounds_toArray, List.set_cons_zero, List.set_cons_succ]
        refine wpAnyH_done (by kernel_rfl) ?_ _
        clear hto9 hob9 hown9 hg9 hbk9
        go_wp2_with fail
        go_roundw
        case rel => exact FN.out
        case measure => simp [intOf]; omega
    · obtain rfl : k = l.length := by omega
      rw [List.take_length] at hto
      go_wp2_with fail
      go_end0
      exact ⟨rfl, hto⟩
end Go.Proofs.Ytpnggkkfoipfhaa
