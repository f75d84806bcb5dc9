/- BytesEncodes and BytesCuts, walked. -/
import Derived.Test.YtpnggkkfoipfhaaCR
set_option linter.unusedVariables false
namespace Go.Proofs.Ytpnggkkfoipfhaa
open Go.RowKit

theorem Bs.upto_ {w : World} {B : Nat} {A : Option Addr} {n c : Nat} {l : Bt} (h : Bs w B (.slice A n c) l) {k : Nat} (hk : k ≤ n) : Bs w B (.slice A k c) (l.take k) := by
  obtain ⟨A', n', c', hv, hl, hn, hc, hx⟩ := h
  injection hv with hv1 hv2 hv3
  subst hv1 hv2 hv3
  rw [bv_length] at hl
  refine ⟨_, _, _, rfl, by rw [bv_length, List.length_take]; omega, by omega, hc, fun h0 => ?_⟩
  obtain ⟨b, off, hA, hb, hcell⟩ := hx (by omega)
  refine ⟨b, off, hA, hb, fun j u hu => hcell j u ?_⟩
  unfold bv at hu ⊢
  rw [List.map_take, List.getElem?_take] at hu
  split at hu
  · exact hu
  · cases hu
theorem dec_none {l : Bt} (h : wholeD l = none) (hl : l.length ≤ 1048576) : decE l = 20 := by
  unfold decE
  rw [if_neg (by omega), h]
  rfl
set_option maxRecDepth 100000 in
set_option maxHeartbeats 8000000 in
theorem bytesEncodes_any (x : List Value) (c : CodeD) (w : World) (hr : CodeR w w.heap.size x c) (hok : CodeOk c) (hlen : (codeE c).length + 100 ≤ 140737488355000) :
    Calls Try.prog 3 #[.agg x.toArray] w fun e w' => e = .returned (.bool true) ∧ Below w.heap.size w w' := by
  have hr0 := hr
  obtain ⟨A1, c1, A2, c2, A3, c3, A4, c4, A5, c5, xh, xc, xp, rfl, s1, s2, s3, q3, s4, q4, s5, q5⟩ := code_parts hr
  obtain ⟨mn, hmn⟩ : ∃ mn, c.main = mn := ⟨_, rfl⟩
  obtain ⟨mg, hmg⟩ : ∃ mg, c.merge = mg := ⟨_, rfl⟩
  rw [hmn, hmg] at hr0 ⊢
  clear hr hmn hmg s1 s2 s3 s4 s5 q3 q4 q5
  generalize c.ints.length = n1 at *
  generalize c.strs.length = n2 at *
  generalize c.shapes.length = n3 at *
  generalize c.cos.length = n4 at *
  generalize c.procs.length = n5 at *
  have hz1 := heap_alloc_new w (.cells #[.slice A1 n1 c1, .slice A2 n2 c2, .slice A3 n3 c3, .slice A4 n4 c4, .slice A5 n5 c5, .int .i64 mn, .bool mg] 28)
  obtain ⟨W1, hW1⟩ : ∃ W1, W1 = w.alloc (.cells #[.slice A1 n1 c1, .slice A2 n2 c2, .slice A3 n3 c3, .slice A4 n4 c4, .slice A5 n5 c5, .int .i64 mn, .bool mg] 28) := ⟨_, rfl⟩
  have hb1 : Below w.heap.size w W1 := by rw [hW1]; exact (Below.refl _ _).alloc (Nat.le_refl _) _
  rw [← hW1] at hz1
  have HWE := hid hW1
  have HB1 := hid hb1
  have HZ1 := hid hz1
  have HX1 := hid (hr0.to hb1 hb1.size)
  have HOK := hid hok
  have HLEN := hid hlen
  have HA := hid (awake_any W1)
  rw [hW1] at HA
  have hrow : ∀ wz : World, Below W1.heap.size W1 wz → wz.heap[w.heap.size]? = some (.cells #[.slice A1 n1 c1, .slice A2 n2 c2, .slice A3 n3 c3, .slice A4 n4 c4, .slice A5 n5 c5, .int .i64 mn, .bool mg] 28 (0, 0)) := fun wz h => (h.block _ (block_lt HZ1.out)).trans HZ1.out
  have HROW := hid hrow
  clear hr0 hz1 hb1 hW1 hok hrow hlen
  go_enter Try.func3, Try.ntmps3
  go_wp2_with fail
  refine HA.out.mono ?_
  rintro e w2 ⟨rfl, hb2⟩
  rw [← HWE.out] at hb2
  obtain ⟨g0, g1, g2, g3, g4, g5, g6⟩ := code_row (HROW.out w2 hb2)
  have HS := hid (sized_any w2 _ c 1000 (HX1.out.to hb2 hb2.size) (by omega))
  have HB2 := hid hb2
  clear hb2 HA
  go_wp2_with fail
  refine HS.out.mono ?_
  rintro e w3 ⟨b, rfl, hsz, hb3⟩
  have HSZ := hid hsz
  have HB3 := hid (HB2.out.trans (hb3.mono HB2.out.size))
  clear hsz hb3 HS HB2 g0 g1 g2 g3 g4 g5 g6
  cases b with
  | false =>
    go_wp2_with fail
    go_ret
    exact ⟨rfl, HB1.out.trans (HB3.out.mono HB1.out.size)⟩
  | true =>
    clear HSZ
    go_wp2_with fail
    have HS0 : Hid (Below W1.heap.size W1 w3.drew) := hid (HB3.out.trans (below_drawn w3 1))
    refine wp_region_held_drew (S := fun w' => Below W1.heap.size W1 w') (by kernel_rfl) HS0.out (fun _ => ?_)
    try simp only [Act.put, List.getElem_toArray, List.getElem_cons_zero, List.getElem_cons_succ, List.setIfInBounds_toArray, List.set_cons_zero, List.set_cons_succ]
    refine wpAnyH_take (i := 0) (v := .agg #[.slice A1 n1 c1, .slice A2 n2 c2, .slice A3 n3 c3, .slice A4 n4 c4, .slice A5 n5 c5, .int .i64 mn, .bool mg]) rfl (by kernel_rfl) (by kernel_rfl) (by kernel_rfl) (fun _ _ _ h => h) (Or.inl ⟨by kernel_rfl, by intro w hSw; obtain ⟨g0, g1, g2, g3, g4, g5, g6⟩ := code_row (HROW.out w hSw); clear hSw; go_simp⟩) HS0.out ?_
    try simp only [Act.put, List.getElem_toArray, List.getElem_cons_zero, List.getElem_cons_succ, List.setIfInBounds_toArray, List.set_cons_zero, List.set_cons_succ]
    refine wpAnyH_take (i := 3) (v := .agg #[.slice A1 n1 c1, .slice A2 n2 c2, .slice A3 n3 c3, .slice A4 n4 c4, .slice A5 n5 c5, .int .i64 mn, .bool mg]) rfl (by kernel_rfl) (by kernel_rfl) (by kernel_rfl) (fun _ _ _ h => h) (Or.inl ⟨by kernel_rfl, by intro w hSw; obtain ⟨g0, g1, g2, g3, g4, g5, g6⟩ := code_row (HROW.out w hSw); clear hSw; go_simp⟩) HS0.out ?_
    try simp only [Act.put, List.getElem_toArray, List.getElem_cons_zero, List.getElem_cons_succ, List.setIfInBounds_toArray, List.set_cons_zero, List.set_cons_succ]
    refine wpAnyH_ready (rs := [1]) (by kernel_rfl) (by simp) ?_
    refine AllReadyH.cons rfl (fun K hK => ?_) (AllReadyH.nil)
    have HE := hid (encode_any w3.drew _ c (HX1.out.to HS0.out (HS0.out).size) HOK.out HLEN.out)
    go_simp
    refine HE.out.mono ?_
    rintro e u1 ⟨vA, rfl, hownA, hbA⟩
    have HS1 := hid ((HS0.out).trans (hbA.mono (HS0.out).size))
    have HVA := hid hownA.bs
    clear hownA hbA HE
    have hcA := run_string_of (P := Try.prog) HVA.out 31 5 9 Try.underlying31 Try.underlying5 Try.underlying9
    refine hK.out _ _ HS1.out (fun _ => ?_)
    clear hK K
    try simp only [Act.put, List.getElem_toArray, List.getElem_cons_zero, List.getElem_cons_succ, List.setIfInBounds_toArray, List.set_cons_zero, List.set_cons_succ]
    refine wpAnyH_ready (rs := [2, 4]) (by kernel_rfl) (by simp) ?_
    refine AllReadyH.cons rfl (fun K hK => ?_) (AllReadyH.cons rfl (fun K hK => ?_) (AllReadyH.nil))
    · skip
      go_simp
      refine hK.out _ _ HS1.out (fun _ => ?_)
      clear hK K
      try simp only [Act.put, List.getElem_toArray, List.getElem_cons_zero, List.getElem_cons_succ, List.setIfInBounds_toArray, List.set_cons_zero, List.set_cons_succ]
      refine wpAnyH_ready (rs := [4]) (by kernel_rfl) (by simp) ?_
      refine AllReadyH.cons rfl (fun K hK => ?_) (AllReadyH.nil)
      have HE := hid (rencode_any u1 _ c (HX1.out.to HS1.out (HS1.out).size) HOK.out HLEN.out)
      go_simp
      refine HE.out.mono ?_
      rintro e u2 ⟨vB, rfl, hownB, hbB⟩
      have HS2 := hid ((HS1.out).trans (hbB.mono (HS1.out).size))
      have HVB := hid hownB.bs
      clear hownB hbB HE
      have hcB := run_string_of (P := Try.prog) HVB.out 31 5 9 Try.underlying31 Try.underlying5 Try.underlying9
      refine hK.out _ _ HS2.out (fun _ => ?_)
      clear hK K
      try simp only [Act.put, List.getElem_toArray, List.getElem_cons_zero, List.getElem_cons_succ, List.setIfInBounds_toArray, List.set_cons_zero, List.set_cons_succ]
      refine wpAnyH_ready (rs := [5]) (by kernel_rfl) (by simp) ?_
      refine AllReadyH.cons rfl (fun K hK => ?_) (AllReadyH.nil)
      go_simp
      refine hK.out _ _ HS2.out (fun _ => ?_)
      clear hK K
      try simp only [Act.put, List.getElem_toArray, List.getElem_cons_zero, List.getElem_cons_succ, List.setIfInBounds_toArray, List.set_cons_zero, List.set_cons_succ]
      refine wpAnyH_take (i := 6) (v := .bool true) rfl (by kernel_rfl) (by kernel_rfl) (by kernel_rfl) (fun _ _ _ h => h) (Or.inl ⟨by kernel_rfl, by intro w hSw; go_simp⟩) HS2.out ?_
      try simp only [Act.put, List.getElem_toArray, List.getElem_cons_zero, List.getElem_cons_succ, List.setIfInBounds_toArray, List.set_cons_zero, List.set_cons_succ]
      refine wpAnyH_take (i := 7) (v := .bool true) rfl (by kernel_rfl) (by kernel_rfl) (by kernel_rfl) (fun _ _ _ h => h) (Or.inl ⟨by kernel_rfl, by intro w hSw; go_simp⟩) HS2.out ?_
      try simp only [Act.put, List.getElem_toArray, List.getElem_cons_zero, List.getElem_cons_succ, List.setIfInBounds_toArray, List.set_cons_zero, List.set_cons_succ]
      refine wpAnyH_done (by kernel_rfl) ?_ _
      go_wp2_with fail
      go_ret
      exact ⟨rfl, HB1.out.trans ((HS2.out).mono HB1.out.size)⟩
    · skip
      have HE := hid (rencode_any u1 _ c (HX1.out.to HS1.out (HS1.out).size) HOK.out HLEN.out)
      go_simp
      refine HE.out.mono ?_
      rintro e u2 ⟨vB, rfl, hownB, hbB⟩
      have HS2 := hid ((HS1.out).trans (hbB.mono (HS1.out).size))
      have HVB := hid hownB.bs
      have HVA := hid ((HVA.out.below hbB).more hbB.size)
      clear hownB hbB HE
      have hcA := run_string_of (P := Try.prog) HVA.out 31 5 9 Try.underlying31 Try.underlying5 Try.underlying9
      have hcB := run_string_of (P := Try.prog) HVB.out 31 5 9 Try.underlying31 Try.underlying5 Try.underlying9
      refine hK.out _ _ HS2.out (fun _ => ?_)
      clear hK K
      try simp only [Act.put, List.getElem_toArray, List.getElem_cons_zero, List.getElem_cons_succ, List.setIfInBounds_toArray, List.set_cons_zero, List.set_cons_succ]
      refine wpAnyH_ready (rs := [2, 5]) (by kernel_rfl) (by simp) ?_
      refine AllReadyH.cons rfl (fun K hK => ?_) (AllReadyH.cons rfl (fun K hK => ?_) (AllReadyH.nil))
      · skip
        go_simp
        refine hK.out _ _ HS2.out (fun _ => ?_)
        clear hK K
        try simp only [Act.put, List.getElem_toArray, List.getElem_cons_zero, List.getElem_cons_succ, List.setIfInBounds_toArray, List.set_cons_zero, List.set_cons_succ]
        refine wpAnyH_ready (rs := [5]) (by kernel_rfl) (by simp) ?_
        refine AllReadyH.cons rfl (fun K hK => ?_) (AllReadyH.nil)
        go_simp
        refine hK.out _ _ HS2.out (fun _ => ?_)
        clear hK K
        try simp only [Act.put, List.getElem_toArray, List.getElem_cons_zero, List.getElem_cons_succ, List.setIfInBounds_toArray, List.set_cons_zero, List.set_cons_succ]
        refine wpAnyH_take (i := 6) (v := .bool true) rfl (by kernel_rfl) (by kernel_rfl) (by kernel_rfl) (fun _ _ _ h => h) (Or.inl ⟨by kernel_rfl, by intro w hSw; go_simp⟩) HS2.out ?_
        try simp only [Act.put, List.getElem_toArray, List.getElem_cons_zero, List.getElem_cons_succ, List.setIfInBounds_toArray, List.set_cons_zero, List.set_cons_succ]
        refine wpAnyH_take (i := 7) (v := .bool true) rfl (by kernel_rfl) (by kernel_rfl) (by kernel_rfl) (fun _ _ _ h => h) (Or.inl ⟨by kernel_rfl, by intro w hSw; go_simp⟩) HS2.out ?_
        try simp only [Act.put, List.getElem_toArray, List.getElem_cons_zero, List.getElem_cons_succ, List.setIfInBounds_toArray, List.set_cons_zero, List.set_cons_succ]
        refine wpAnyH_done (by kernel_rfl) ?_ _
        go_wp2_with fail
        go_ret
        exact ⟨rfl, HB1.out.trans ((HS2.out).mono HB1.out.size)⟩
      · skip
        go_simp
        refine hK.out _ _ HS2.out (fun _ => ?_)
        clear hK K
        try simp only [Act.put, List.getElem_toArray, List.getElem_cons_zero, List.getElem_cons_succ, List.setIfInBounds_toArray, List.set_cons_zero, List.set_cons_succ]
        refine wpAnyH_ready (rs := [2]) (by kernel_rfl) (by simp) ?_
        refine AllReadyH.cons rfl (fun K hK => ?_) (AllReadyH.nil)
        go_simp
        refine hK.out _ _ HS2.out (fun _ => ?_)
        clear hK K
        try simp only [Act.put, List.getElem_toArray, List.getElem_cons_zero, List.getElem_cons_succ, List.setIfInBounds_toArray, List.set_cons_zero, List.set_cons_succ]
        refine wpAnyH_take (i := 6) (v := .bool true) rfl (by kernel_rfl) (by kernel_rfl) (by kernel_rfl) (fun _ _ _ h => h) (Or.inl ⟨by kernel_rfl, by intro w hSw; go_simp⟩) HS2.out ?_
        try simp only [Act.put, List.getElem_toArray, List.getElem_cons_zero, List.getElem_cons_succ, List.setIfInBounds_toArray, List.set_cons_zero, List.set_cons_succ]
        refine wpAnyH_take (i := 7) (v := .bool true) rfl (by kernel_rfl) (by kernel_rfl) (by kernel_rfl) (fun _ _ _ h => h) (Or.inl ⟨by kernel_rfl, by intro w hSw; go_simp⟩) HS2.out ?_
        try simp only [Act.put, List.getElem_toArray, List.getElem_cons_zero, List.getElem_cons_succ, List.setIfInBounds_toArray, List.set_cons_zero, List.set_cons_succ]
        refine wpAnyH_done (by kernel_rfl) ?_ _
        go_wp2_with fail
        go_ret
        exact ⟨rfl, HB1.out.trans ((HS2.out).mono HB1.out.size)⟩
end Go.Proofs.Ytpnggkkfoipfhaa
