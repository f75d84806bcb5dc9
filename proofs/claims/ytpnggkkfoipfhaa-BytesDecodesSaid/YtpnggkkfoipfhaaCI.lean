/- BytesAgain, walked. -/
import Derived.Test.YtpnggkkfoipfhaaCH
set_option linter.unusedVariables false
namespace Go.Proofs.Ytpnggkkfoipfhaa
open Go.RowKit

mutual
theorem CoR.more {w : World} {B B' : Nat} {x : List Value} {c : CoD} (h : CoR w B x c) (hb : B ≤ B') : CoR w B' x c :=
  match h with
  | .mk h1 h2 h3 h4 h5 h6 h7 => .mk (h1.more hb) (h2.more hb) (Sl.more h3 hb) (h4.more hb) (h5.more hb) (h6.more hb) (h7.more hb)
theorem CosR.more {w : World} {B B' : Nat} {x : List Value} {l : List CoD} (h : CosR w B x l) (hb : B ≤ B') : CosR w B' x l :=
  match h with
  | .nil => .nil
  | .cons h1 h2 => .cons (h1.more hb) (h2.more hb)
end
theorem CodeR.to {w w' : World} {B B' : Nat} {x : List Value} {c : CodeD} (h : CodeR w B x c) (hb : Below B w w') (hB : B ≤ B') : CodeR w' B' x c := by
  obtain ⟨vi, vs, vh, vc, vp, xh, xc, xp, rfl, s1, s2, s3, s4, s5, s6, s7, s8⟩ := h
  refine ⟨vi, vs, vh, vc, vp, xh, xc, xp, rfl, (s1.below hb).more hB, Sl.more (Sl.below s2 hb) hB, (s3.below hb).more hB, ⟨s4.1, fun i hi => ?_⟩, (s5.below hb).more hB, (s6.keep hb).more hB, (s7.below hb).more hB, ⟨s8.1, fun i hi => ?_⟩⟩
  · obtain ⟨v, h1, h2⟩ := s4.2 i hi
    exact ⟨v, h1, Sl.more (Sl.below h2 hb) hB⟩
  · obtain ⟨v, h1, h2⟩ := s8.2 i hi
    exact ⟨v, h1, (h2.below hb).more hB⟩
theorem dec_cases (l : Bt) : decE l = 2 ∨ decE l = 20 ∨ (decE l = 0 ∧ l.length ≤ 1048576 ∧ wholeD l = some (decC l)) := by
  unfold decE decC
  by_cases h : 1048576 < l.length
  · rw [if_pos h]; exact .inl rfl
  · rw [if_neg h, if_neg h]
    cases hq : wholeD l with
    | none => exact .inr (.inl rfl)
    | some c => exact .inr (.inr ⟨rfl, by omega, rfl⟩)
theorem code_row {w : World} {b : Nat} {x0 x1 x2 x3 x4 x5 x6 : Value} {T : TypeId} (h : w.heap[b]? = some (.cells #[x0, x1, x2, x3, x4, x5, x6] T (0, 0))) :
    w.cell? ⟨b, 0, none⟩ = some x0 ∧ w.cell? ⟨b, 1, none⟩ = some x1 ∧ w.cell? ⟨b, 2, none⟩ = some x2 ∧ w.cell? ⟨b, 3, none⟩ = some x3 ∧ w.cell? ⟨b, 4, none⟩ = some x4 ∧ w.cell? ⟨b, 5, none⟩ = some x5 ∧ w.cell? ⟨b, 6, none⟩ = some x6 :=
  ⟨(cell_of_row _ _ _ _ _ _ h).trans rfl, (cell_of_row _ _ _ _ _ _ h).trans rfl, (cell_of_row _ _ _ _ _ _ h).trans rfl, (cell_of_row _ _ _ _ _ _ h).trans rfl, (cell_of_row _ _ _ _ _ _ h).trans rfl, (cell_of_row _ _ _ _ _ _ h).trans rfl, (cell_of_row _ _ _ _ _ _ h).trans rfl⟩

set_option maxRecDepth 100000 in
set_option maxHeartbeats 4000000 in
theorem bytesAgain_any (v : Value) (l : Bt) (w : World) (hv : Bs w w.heap.size v l) :
    Calls Try.prog 6 #[v] w fun e w' => e = .returned (.bool true) ∧ Below w.heap.size w w' := by
  have HV := hid hv
  obtain ⟨A, c, rfl, hn, hc, _⟩ := hv.open_
  unfold maxLen at hc
  clear hv
  go_enter Try.func6, Try.ntmps6
  go_wp2_with fail
  refine (awake_any w).mono ?_
  rintro e w1 ⟨rfl, hb1⟩
  have HB1 := hid hb1
  have HD := hid (decode_any _ l w1 ((HV.out.below hb1).more hb1.size))
  clear hb1
  go_wp2_with fail
  refine HD.out.mono ?_
  rintro e w2 ⟨hb2, z, rfl, hz⟩
  have HZ := hid hz
  have HB2 := hid (HB1.out.trans (hb2.mono HB1.out.size))
  obtain ⟨A1, A2, A3, A4, A5, n1, n2, n3, n4, n5, c1, c2, c3, c4, c5, rfl⟩ := hz.shape
  obtain ⟨dc, hdc⟩ : ∃ dc, decC l = dc := ⟨_, rfl⟩
  rw [hdc] at HZ ⊢
  obtain ⟨dm, hdm⟩ : ∃ dm, dc.main = dm := ⟨_, rfl⟩
  obtain ⟨dg, hdg⟩ : ∃ dg, dc.merge = dg := ⟨_, rfl⟩
  rw [hdm, hdg] at HZ ⊢
  have HDC := hid hdc
  clear hz hb2 HD hdc hdm hdg
  rcases dec_cases l with h | h | ⟨h, hl, hw⟩
  · rw [h]
    go_wp2_with fail
    go_ret
    exact ⟨rfl, HB2.out.alloc HB2.out.size _⟩
  · rw [h]
    go_wp2_with fail
    go_ret
    exact ⟨rfl, HB2.out.alloc HB2.out.size _⟩
  · rw [h]
    rw [HDC.out] at hw
    have HWA := hid (whole_again hw)
    clear hw h
    go_wp2_with fail
    -- REGION
    obtain ⟨w5, hw5⟩ : ∃ w5, w2.alloc (.cells #[.slice A1 n1 c1, .slice A2 n2 c2, .slice A3 n3 c3, .slice A4 n4 c4, .slice A5 n5 c5, .int .i64 dm, .bool dg] 28) = w5 := ⟨_, rfl⟩
    have hb5 : Below w.heap.size w w5 := by rw [← hw5]; exact HB2.out.alloc HB2.out.size _
    have hb25 : Below w2.heap.size w2 w5 := by rw [← hw5]; exact (Below.refl _ _).alloc (Nat.le_refl _) _
    have hs5 : w5.drew.heap[w2.heap.size]? = some (.cells #[.slice A1 n1 c1, .slice A2 n2 c2, .slice A3 n3 c3, .slice A4 n4 c4, .slice A5 n5 c5, .int .i64 dm, .bool dg] 28 (0, 0)) := by rw [← hw5]; exact heap_alloc_new w2 _
    have HS := hid hs5
    have HB5 := hid hb5
    have HV5 := hid (HV.out.below hb5)
    have hd5 := run_string_of (P := Try.prog) (w := w5.drew) (show Bs w5.drew w.heap.size _ l from HV5.out) 31 5 9 Try.underlying31 Try.underlying5 Try.underlying9
    have HE := hid (encode_any w5.drew _ dc (HZ.out.to (hb25.trans (below_drawn w5 1)) hb25.size) HWA.out.2.1 (by rw [← HWA.out.1]; omega))
    rw [hw5]
    clear hb5 hb25 hs5 hw5
    refine wp_region_held_drew (S := fun w' => w'.heap[w2.heap.size]? = some (.cells #[.slice A1 n1 c1, .slice A2 n2 c2, .slice A3 n3 c3, .slice A4 n4 c4, .slice A5 n5 c5, .int .i64 dm, .bool dg] 28 (0, 0))) (by kernel_rfl) HS.out (fun _ => ?_)
    try simp only [Act.put, List.getElem_toArray, List.getElem_cons_zero, List.getElem_cons_succ, List.setIfInBounds_toArray, List.set_cons_zero, List.set_cons_succ]
    refine wpAnyH_take (i := 0) (v := .agg #[.slice A1 n1 c1, .slice A2 n2 c2, .slice A3 n3 c3, .slice A4 n4 c4, .slice A5 n5 c5, .int .i64 dm, .bool dg]) rfl (by kernel_rfl) (by kernel_rfl) (by kernel_rfl) (fun _ _ _ h => h) (Or.inl ⟨by kernel_rfl, by intro w hSw; obtain ⟨g0, g1, g2, g3, g4, g5, g6⟩ := code_row hSw; go_simp⟩) HS.out ?_
    try simp only [Act.put, List.getElem_toArray, List.getElem_cons_zero, List.getElem_cons_succ, List.setIfInBounds_toArray, List.set_cons_zero, List.set_cons_succ]
    refine wpAnyH_take (i := 3) (v := .slice A l.length c) rfl (by kernel_rfl) (by kernel_rfl) (by kernel_rfl) (fun _ _ _ h => h) (Or.inl ⟨by kernel_rfl, by intro w hSw; go_simp⟩) HS.out ?_
    try simp only [Act.put, List.getElem_toArray, List.getElem_cons_zero, List.getElem_cons_succ, List.setIfInBounds_toArray, List.set_cons_zero, List.set_cons_succ]
    refine wpAnyH_ready (rs := [1, 4]) (by kernel_rfl) (by simp) ?_
    refine AllReadyH.cons rfl (fun K hK => ?_) (AllReadyH.cons rfl (fun K hK => ?_) (AllReadyH.nil))
    · skip
      go_simp
      refine HE.out.mono ?_
      rintro e w6 ⟨v6, rfl, hown6, hb6⟩
      rw [← HWA.out.1] at hown6
      have hc6 := run_string_of (P := Try.prog) hown6.bs 31 5 9 Try.underlying31 Try.underlying5 Try.underlying9
      have hd6 := run_string_of (P := Try.prog) ((HV5.out.below (below_drawn w5 1)).below (hb6.mono HB5.out.size)) 31 5 9 Try.underlying31 Try.underlying5 Try.underlying9
      have hS6 := hid ((hb6.block _ (block_lt HS.out)).trans HS.out)
      refine hK.out _ _ hS6.out (fun _ => ?_)
      clear hK K
      try simp only [Act.put, List.getElem_toArray, List.getElem_cons_zero, List.getElem_cons_succ, List.setIfInBounds_toArray, List.set_cons_zero, List.set_cons_succ]
      refine wpAnyH_ready (rs := [2, 4]) (by kernel_rfl) (by simp) ?_
      refine AllReadyH.cons rfl (fun K hK => ?_) (AllReadyH.cons rfl (fun K hK => ?_) (AllReadyH.nil))
      · go_simp
        refine hK.out _ _ hS6.out (fun _ => ?_)
        clear hK K
        try simp only [Act.put, List.getElem_toArray, List.getElem_cons_zero, List.getElem_cons_succ, List.setIfInBounds_toArray, List.set_cons_zero, List.set_cons_succ]
        refine wpAnyH_ready (rs := [4]) (by kernel_rfl) (by simp) ?_
        refine AllReadyH.cons rfl (fun K hK => ?_) (AllReadyH.nil)
        go_simp
        refine hK.out _ _ hS6.out (fun _ => ?_)
        clear hK K
        try simp only [Act.put, List.getElem_toArray, List.getElem_cons_zero, List.getElem_cons_succ, List.setIfInBounds_toArray, List.set_cons_zero, List.set_cons_succ]
        refine wpAnyH_take (i := 5) (v := .bool true) rfl (by kernel_rfl) (by kernel_rfl) (by kernel_rfl) (fun _ _ _ h => h) (Or.inl ⟨by kernel_rfl, by intro w hSw; go_simp⟩) hS6.out ?_
        try simp only [Act.put, List.getElem_toArray, List.getElem_cons_zero, List.getElem_cons_succ, List.setIfInBounds_toArray, List.set_cons_zero, List.set_cons_succ]
        refine wpAnyH_take (i := 6) (v := .bool true) rfl (by kernel_rfl) (by kernel_rfl) (by kernel_rfl) (fun _ _ _ h => h) (Or.inl ⟨by kernel_rfl, by intro w hSw; go_simp⟩) hS6.out ?_
        try simp only [Act.put, List.getElem_toArray, List.getElem_cons_zero, List.getElem_cons_succ, List.setIfInBounds_toArray, List.set_cons_zero, List.set_cons_succ]
        refine wpAnyH_done (by kernel_rfl) ?_ _
        go_wp2_with fail
        go_ret
        exact ⟨rfl, (HB5.out.trans (below_drawn w5 1)).trans (hb6.mono HB5.out.size)⟩
      · go_simp
        refine hK.out _ _ hS6.out (fun _ => ?_)
        clear hK K
        try simp only [Act.put, List.getElem_toArray, List.getElem_cons_zero, List.getElem_cons_succ, List.setIfInBounds_toArray, List.set_cons_zero, List.set_cons_succ]
        refine wpAnyH_ready (rs := [2]) (by kernel_rfl) (by simp) ?_
        refine AllReadyH.cons rfl (fun K hK => ?_) (AllReadyH.nil)
        go_simp
        refine hK.out _ _ hS6.out (fun _ => ?_)
        clear hK K
        try simp only [Act.put, List.getElem_toArray, List.getElem_cons_zero, List.getElem_cons_succ, List.setIfInBounds_toArray, List.set_cons_zero, List.set_cons_succ]
        refine wpAnyH_take (i := 5) (v := .bool true) rfl (by kernel_rfl) (by kernel_rfl) (by kernel_rfl) (fun _ _ _ h => h) (Or.inl ⟨by kernel_rfl, by intro w hSw; go_simp⟩) hS6.out ?_
        try simp only [Act.put, List.getElem_toArray, List.getElem_cons_zero, List.getElem_cons_succ, List.setIfInBounds_toArray, List.set_cons_zero, List.set_cons_succ]
        refine wpAnyH_take (i := 6) (v := .bool true) rfl (by kernel_rfl) (by kernel_rfl) (by kernel_rfl) (fun _ _ _ h => h) (Or.inl ⟨by kernel_rfl, by intro w hSw; go_simp⟩) hS6.out ?_
        try simp only [Act.put, List.getElem_toArray, List.getElem_cons_zero, List.getElem_cons_succ, List.setIfInBounds_toArray, List.set_cons_zero, List.set_cons_succ]
        refine wpAnyH_done (by kernel_rfl) ?_ _
        go_wp2_with fail
        go_ret
        exact ⟨rfl, (HB5.out.trans (below_drawn w5 1)).trans (hb6.mono HB5.out.size)⟩
    · go_simp
      refine hK.out _ _ HS.out (fun _ => ?_)
      clear hK K
      try simp only [Act.put, List.getElem_toArray, List.getElem_cons_zero, List.getElem_cons_succ, List.setIfInBounds_toArray, List.set_cons_zero, List.set_cons_succ]
      refine wpAnyH_ready (rs := [1]) (by kernel_rfl) (by simp) ?_
      refine AllReadyH.cons rfl (fun K hK => ?_) (AllReadyH.nil)
      go_simp
      refine HE.out.mono ?_
      rintro e w6 ⟨v6, rfl, hown6, hb6⟩
      rw [← HWA.out.1] at hown6
      have hc6 := run_string_of (P := Try.prog) hown6.bs 31 5 9 Try.underlying31 Try.underlying5 Try.underlying9
      have hd6 := run_string_of (P := Try.prog) ((HV5.out.below (below_drawn w5 1)).below (hb6.mono HB5.out.size)) 31 5 9 Try.underlying31 Try.underlying5 Try.underlying9
      have hS6 := hid ((hb6.block _ (block_lt HS.out)).trans HS.out)
      refine hK.out _ _ hS6.out (fun _ => ?_)
      clear hK K
      try simp only [Act.put, List.getElem_toArray, List.getElem_cons_zero, List.getElem_cons_succ, List.setIfInBounds_toArray, List.set_cons_zero, List.set_cons_succ]
      refine wpAnyH_ready (rs := [2]) (by kernel_rfl) (by simp) ?_
      refine AllReadyH.cons rfl (fun K hK => ?_) (AllReadyH.nil)
      go_simp
      refine hK.out _ _ hS6.out (fun _ => ?_)
      clear hK K
      try simp only [Act.put, List.getElem_toArray, List.getElem_cons_zero, List.getElem_cons_succ, List.setIfInBounds_toArray, List.set_cons_zero, List.set_cons_succ]
      refine wpAnyH_take (i := 5) (v := .bool true) rfl (by kernel_rfl) (by kernel_rfl) (by kernel_rfl) (fun _ _ _ h => h) (Or.inl ⟨by kernel_rfl, by intro w hSw; go_simp⟩) hS6.out ?_
      try simp only [Act.put, List.getElem_toArray, List.getElem_cons_zero, List.getElem_cons_succ, List.setIfInBounds_toArray, List.set_cons_zero, List.set_cons_succ]
      refine wpAnyH_take (i := 6) (v := .bool true) rfl (by kernel_rfl) (by kernel_rfl) (by kernel_rfl) (fun _ _ _ h => h) (Or.inl ⟨by kernel_rfl, by intro w hSw; go_simp⟩) hS6.out ?_
      try simp only [Act.put, List.getElem_toArray, List.getElem_cons_zero, List.getElem_cons_succ, List.setIfInBounds_toArray, List.set_cons_zero, List.set_cons_succ]
      refine wpAnyH_done (by kernel_rfl) ?_ _
      go_wp2_with fail
      go_ret
      exact ⟨rfl, (HB5.out.trans (below_drawn w5 1)).trans (hb6.mono HB5.out.size)⟩
    -- END
end Go.Proofs.Ytpnggkkfoipfhaa
