/- VA -/
import Derived.Test.YtbpedjkebemhnaaGreatDoorSA06
import Derived.Test.YtbpedjkebemhnaaGreatDoorSA20
import Derived.Test.YtbpedjkebemhnaaGreatDoorSA09
set_option linter.unusedSimpArgs false
set_option linter.unusedVariables false
/- A written type as text: the reference. -/
set_option linter.unusedVariables false
namespace Go.Proofs.YtbpedjkebemhnaaGreatDoor
open Go.RowKit

theorem inner_not {b : Nat} (hb : b ≤ 2) {k : Int} (h6 : k ≠ 6) (h7 : k ≠ 7) (s : Bt) : innerS (brK b) k s = s := by
  have h : (brK b).contains k = false := by
    have : b = 0 ∨ b = 1 ∨ b = 2 := by omega
    rcases this with rfl | rfl | rfl <;> simp [brK, h6, h7]
  unfold innerS
  rw [h]
  rfl
/-- The contract of the reference's written, of a written type of not too many. -/
def RShC (t : TyD) : Prop := ∀ (w : World) (z : List Value) (m b : Nat), b ≤ 2 → TyR w w.heap.size z t → writtenB m t = true → cntT t ≤ 100000 →
  Calls Tryz.prog 39 #[.agg z.toArray, .int .i64 (b : Int)] w fun e w' => e = .returned (sv (innerS (brK b) t.kind (showT t))) ∧ Below w.heap.size w w'
def RShK (k : Int) (nm : Bt) (ns : List Bt) (ks : List TyD) : Prop := ∀ (w : World) (z : List Value) (m b : Nat), b ≤ 2 → TyR w w.heap.size z (.mk k nm ns ks) → writtenB m (.mk k nm ns ks) = true → cntT (.mk k nm ns ks) ≤ 100000 →
  Calls Tryz.prog 39 #[.agg z.toArray, .int .i64 (b : Int)] w fun e w' => e = .returned (sv (innerS (brK b) k (showT (.mk k nm ns ks)))) ∧ Below w.heap.size w w'
theorem rshow_k0 (nm : Bt) (ns : List Bt) (ks : List TyD) : RShK 0 nm ns ks := by
  intro w z m b hb2 hr hw hc
  obtain ⟨A1, c1, A2, c2, xk, rfl, s1, s2, r2⟩ := hr.parts
  have HT : Hid (innerS (brK b) 0 (showT (.mk 0 nm ns ks)) = [97, 110, 121]) := hid (by rw [inner_not hb2 (by decide) (by decide), showT]; rfl)
  have HB : Hid (Below w.heap.size w ((w.alloc (.cells #[.int .i64 0, sv nm, .slice A1 ns.length c1, .slice A2 ks.length c2] 32)).alloc (.cells #[sv [97, 110, 121], sv [110, 117, 108, 108], sv [98, 111, 111, 108], sv [105, 110, 116], sv [115, 116, 114]] 9))) := hid (((Below.refl _ _).alloc (Nat.le_refl _) _).alloc (by simp) _)
  rw [HT.out]
  clear hr hw hc s1 s2 r2 hb2
  go_enter Tryz.func39, Tryz.ntmps39
  go_wp2_with fail
  go_ret
  exact ⟨rfl, HB.out⟩
theorem rshow_k1 (nm : Bt) (ns : List Bt) (ks : List TyD) : RShK 1 nm ns ks := by
  intro w z m b hb2 hr hw hc
  obtain ⟨A1, c1, A2, c2, xk, rfl, s1, s2, r2⟩ := hr.parts
  have HT : Hid (innerS (brK b) 1 (showT (.mk 1 nm ns ks)) = [110, 117, 108, 108]) := hid (by rw [inner_not hb2 (by decide) (by decide), showT]; rfl)
  have HB : Hid (Below w.heap.size w ((w.alloc (.cells #[.int .i64 1, sv nm, .slice A1 ns.length c1, .slice A2 ks.length c2] 32)).alloc (.cells #[sv [97, 110, 121], sv [110, 117, 108, 108], sv [98, 111, 111, 108], sv [105, 110, 116], sv [115, 116, 114]] 9))) := hid (((Below.refl _ _).alloc (Nat.le_refl _) _).alloc (by simp) _)
  rw [HT.out]
  clear hr hw hc s1 s2 r2 hb2
  go_enter Tryz.func39, Tryz.ntmps39
  go_wp2_with fail
  go_ret
  exact ⟨rfl, HB.out⟩
theorem rshow_k2 (nm : Bt) (ns : List Bt) (ks : List TyD) : RShK 2 nm ns ks := by
  intro w z m b hb2 hr hw hc
  obtain ⟨A1, c1, A2, c2, xk, rfl, s1, s2, r2⟩ := hr.parts
  have HT : Hid (innerS (brK b) 2 (showT (.mk 2 nm ns ks)) = [98, 111, 111, 108]) := hid (by rw [inner_not hb2 (by decide) (by decide), showT]; rfl)
  have HB : Hid (Below w.heap.size w ((w.alloc (.cells #[.int .i64 2, sv nm, .slice A1 ns.length c1, .slice A2 ks.length c2] 32)).alloc (.cells #[sv [97, 110, 121], sv [110, 117, 108, 108], sv [98, 111, 111, 108], sv [105, 110, 116], sv [115, 116, 114]] 9))) := hid (((Below.refl _ _).alloc (Nat.le_refl _) _).alloc (by simp) _)
  rw [HT.out]
  clear hr hw hc s1 s2 r2 hb2
  go_enter Tryz.func39, Tryz.ntmps39
  go_wp2_with fail
  go_ret
  exact ⟨rfl, HB.out⟩
theorem rshow_k3 (nm : Bt) (ns : List Bt) (ks : List TyD) : RShK 3 nm ns ks := by
  intro w z m b hb2 hr hw hc
  obtain ⟨A1, c1, A2, c2, xk, rfl, s1, s2, r2⟩ := hr.parts
  have HT : Hid (innerS (brK b) 3 (showT (.mk 3 nm ns ks)) = [105, 110, 116]) := hid (by rw [inner_not hb2 (by decide) (by decide), showT]; rfl)
  have HB : Hid (Below w.heap.size w ((w.alloc (.cells #[.int .i64 3, sv nm, .slice A1 ns.length c1, .slice A2 ks.length c2] 32)).alloc (.cells #[sv [97, 110, 121], sv [110, 117, 108, 108], sv [98, 111, 111, 108], sv [105, 110, 116], sv [115, 116, 114]] 9))) := hid (((Below.refl _ _).alloc (Nat.le_refl _) _).alloc (by simp) _)
  rw [HT.out]
  clear hr hw hc s1 s2 r2 hb2
  go_enter Tryz.func39, Tryz.ntmps39
  go_wp2_with fail
  go_ret
  exact ⟨rfl, HB.out⟩
theorem rshow_k4 (nm : Bt) (ns : List Bt) (ks : List TyD) : RShK 4 nm ns ks := by
  intro w z m b hb2 hr hw hc
  obtain ⟨A1, c1, A2, c2, xk, rfl, s1, s2, r2⟩ := hr.parts
  have HT : Hid (innerS (brK b) 4 (showT (.mk 4 nm ns ks)) = [115, 116, 114]) := hid (by rw [inner_not hb2 (by decide) (by decide), showT]; rfl)
  have HB : Hid (Below w.heap.size w ((w.alloc (.cells #[.int .i64 4, sv nm, .slice A1 ns.length c1, .slice A2 ks.length c2] 32)).alloc (.cells #[sv [97, 110, 121], sv [110, 117, 108, 108], sv [98, 111, 111, 108], sv [105, 110, 116], sv [115, 116, 114]] 9))) := hid (((Below.refl _ _).alloc (Nat.le_refl _) _).alloc (by simp) _)
  rw [HT.out]
  clear hr hw hc s1 s2 r2 hb2
  go_enter Tryz.func39, Tryz.ntmps39
  go_wp2_with fail
  go_ret
  exact ⟨rfl, HB.out⟩
theorem rshow_k8 (nm : Bt) (ns : List Bt) (ks : List TyD) : RShK 8 nm ns ks := by
  intro w z m b hb2 hr hw hc
  obtain ⟨A1, c1, A2, c2, xk, rfl, s1, s2, r2⟩ := hr.parts
  have HT : Hid (innerS (brK b) 8 (showT (.mk 8 nm ns ks)) = nm) := hid (by rw [inner_not hb2 (by decide) (by decide), showT]; rfl)
  have HB : Hid (Below w.heap.size w (w.alloc (.cells #[.int .i64 8, sv nm, .slice A1 ns.length c1, .slice A2 ks.length c2] 32))) := hid ((Below.refl _ _).alloc (Nat.le_refl _) _)
  rw [HT.out]
  clear hr hw hc s1 s2 r2 hb2
  go_enter Tryz.func39, Tryz.ntmps39
  go_wp2_with fail
  go_ret
  exact ⟨rfl, HB.out⟩
set_option maxRecDepth 100000 in
set_option maxHeartbeats 4000000 in
theorem rshow_k6 (nm : Bt) (ns : List Bt) (ks : List TyD) (ih : ∀ x ∈ ks, RShC x) : RShK 6 nm ns ks := by
  intro w z m b hb2 hr hw hc
  obtain ⟨A1, c1, A2, c2, xk, rfl, s1, s2, r2⟩ := hr.parts
  have hlen := show_len _ m hw
  obtain ⟨q, rfl, h1, h2, h3⟩ := written_open hw
  obtain ⟨t0, t1, rfl⟩ := len_two (kind_six h3)
  have HT0 : showT (.mk 6 nm ns [t0, t1]) = innerS [6] t0.kind (showT t0) ++ ([32, 45, 62, 32] ++ showT t1) := by rw [showT]; rfl
  rw [HT0] at hlen ⊢
  rw [cntT, cntTs, cntTs, cntTs] at hc hlen
  simp only [List.length_append, List.length_cons, List.length_nil] at hlen
  obtain ⟨b2, o2, k0, ss0, A3, n3, c3, A4, n4, c4, rfl, hr0, d0, d1, d2, d3⟩ := elem_at s2 r2 (i := 0) (by simp) rfl
  obtain ⟨b2', o2', k1, ss1, A5, n5, c5, A6, n6, c6, hbe, hr1, e0, e1, e2, e3⟩ := elem_at s2 r2 (i := 1) (by simp) rfl
  injection hbe with hbe
  injection hbe with hbe1 hbe2 hbe3
  subst hbe1 hbe2
  simp only [List.getElem_cons_zero, List.getElem_cons_succ, Nat.zero_mul, Nat.one_mul, Nat.add_zero, Nat.add_assoc] at hr0 hr1 d0 d1 d2 d3 e0 e1 e2 e3
  obtain ⟨W, hW⟩ : ∃ W, w.alloc (.cells #[.int .i64 6, sv nm, .slice A1 ns.length c1, .slice (some ⟨b2, o2, none⟩) 2 c2] 32) = W := ⟨_, rfl⟩
  have hb1 : Below w.heap.size w W := by rw [← hW]; exact (Below.refl _ _).alloc (Nat.le_refl _) _
  have hbx : W.heap[w.heap.size]? = some (.cells #[.int .i64 6, sv nm, .slice A1 ns.length c1, .slice (some ⟨b2, o2, none⟩) 2 c2] 32 (0, 0)) := by rw [← hW]; exact heap_alloc_new w _
  obtain ⟨_, _, _, g3⟩ := t_row4 hbx
  have HI := hid (fun (w1 : World) (h : Below W.heap.size W w1) => ih t0 (by simp) w1 _ q 1 (by omega) (hr0.far (Nat.le_refl _) (hb1.trans (h.mono hb1.size))) (h2 t0 (by simp)) (by omega))
  have HS := hid (fun (w1 : World) (h : Below W.heap.size W w1) => ih t1 (by simp) w1 _ q 0 (by omega) (hr1.far (Nat.le_refl _) (hb1.trans (h.mono hb1.size))) (h2 t1 (by simp)) (by omega))
  have hi1 : innerS (brK 1) t0.kind (showT t0) = innerS [6] t0.kind (showT t0) := rfl
  have hi0 : innerS (brK 0) t1.kind (showT t1) = showT t1 := rfl
  rw [hi1] at HI
  rw [hi0] at HS
  have G3 := hid g3
  have D0 := hid (kp hb1 d0)
  have D1 := hid (kp hb1 d1)
  have D2 := hid (kp hb1 d2)
  have D3 := hid (kp hb1 d3)
  have E0 := hid (kp hb1 e0)
  have E1 := hid (kp hb1 e1)
  have E2 := hid (kp hb1 e2)
  have E3 := hid (kp hb1 e3)
  have HB := hid hb1
  have HW := hid hW
  generalize innerS [6] t0.kind (showT t0) = s at *
  generalize showT t1 = u at *
  have HBR : Hid (b = 0 ∨ b = 1 ∨ b = 2) := hid (by omega)
  have HB60 : Hid (∀ t : Bt, innerS (brK 0) 6 t = t) := hid (fun t => rfl)
  have HB61 : Hid (∀ t : Bt, innerS (brK 1) 6 t = [40] ++ (t ++ [41])) := hid (fun t => rfl)
  have HB62 : Hid (∀ t : Bt, innerS (brK 2) 6 t = [40] ++ (t ++ [41])) := hid (fun t => rfl)
  have hz0 := sv_size s
  have hz1 := sv_size u
  have q0 : ¬ (9223372036854775807 < s.length + 4) := by omega
  have q1 : ¬ (9223372036854775807 < s.length + 4 + u.length) := by omega
  have q2 : ¬ (9223372036854775807 < 1 + (s.length + 4 + u.length)) := by omega
  have q3 : ¬ (9223372036854775807 < 1 + (s.length + 4 + u.length) + 1) := by omega
  have HB0 : Hid (Below W.heap.size W W.drew) := hid (below_drawn W 1)
  clear hr hw hc s1 s2 r2 hlen h1 h2 h3 ih hW hb1 hbx hr0 hr1 g3 d0 d1 d2 d3 e0 e1 e2 e3 HT0 hi1 hi0 hb2
  go_enter Tryz.func39, Tryz.ntmps39
  go_wp2_with fail
  have hW := HW.out
  rw [hW]
  clear hW
  refine wp_region_held_drew (S := fun w' => Below W.heap.size W w') (by kernel_rfl) HB0.out (fun _ => ?_)
  try simp only [Act.put, List.getElem_toArray, List.getElem_cons_zero, List.getElem_cons_succ, List.setIfInBounds_toArray, List.set_cons_zero, List.set_cons_succ]
  refine tk 0 (.pointer (some ⟨w.heap.size, 3, none⟩)) HB0.out ?_
  refine tkf 1 (.slice (some ⟨b2, o2, none⟩) 2 c2) (kp1 G3.out) HB0.out ?_
  refine tk 2 (.pointer (some ⟨b2, o2, none⟩)) HB0.out ?_
  refine tkf 3 (.agg #[.int .i64 k0, .string ss0, .slice A3 n3 c3, .slice A4 n4 c4]) (kp4 D0.out D1.out D2.out D3.out) HB0.out ?_
  refine tk 6 (.pointer (some ⟨w.heap.size, 3, none⟩)) HB0.out ?_
  refine tkf 7 (.slice (some ⟨b2, o2, none⟩) 2 c2) (kp1 G3.out) HB0.out ?_
  refine tk 8 (.pointer (some ⟨b2, o2 + 4, none⟩)) HB0.out ?_
  refine tkf 9 (.agg #[.int .i64 k1, .string ss1, .slice A5 n5 c5, .slice A6 n6 c6]) (kp4 E0.out E1.out E2.out E3.out) HB0.out ?_
  refine wpAnyH_ready (rs := [4]) (by kernel_rfl) (by simp) ?_
  refine AllReadyH.cons rfl (fun K hK => ?_) (AllReadyH.nil)
  go_simp
  refine (HI.out _ HB0.out).mono ?_
  rintro e w2 ⟨rfl, hb⟩
  have HB2 := hid (HB0.out.trans (hb.mono HB0.out.size))
  clear hb
  refine hK.out _ _ HB2.out (fun _ => ?_)
  clear hK K
  try simp only [Act.put, List.getElem_toArray, List.getElem_cons_zero, List.getElem_cons_succ, List.setIfInBounds_toArray, List.set_cons_zero, List.set_cons_succ]
  refine tk 5 (.string ((⟨s.toArray⟩ : ByteArray) ++ ⟨#[32, 45, 62, 32]⟩)) HB2.out ?_
  refine wpAnyH_ready (rs := [10]) (by kernel_rfl) (by simp) ?_
  refine AllReadyH.cons rfl (fun K hK => ?_) (AllReadyH.nil)
  go_simp
  refine (HS.out _ HB2.out).mono ?_
  rintro e w4 ⟨rfl, hb⟩
  have HB4 := hid (HB2.out.trans (hb.mono HB2.out.size))
  clear hb
  refine hK.out _ _ HB4.out (fun _ => ?_)
  clear hK K
  try simp only [Act.put, List.getElem_toArray, List.getElem_cons_zero, List.getElem_cons_succ, List.setIfInBounds_toArray, List.set_cons_zero, List.set_cons_succ]
  refine tk 11 (.string ((⟨s.toArray⟩ : ByteArray) ++ ⟨#[32, 45, 62, 32]⟩ ++ ⟨u.toArray⟩)) HB4.out ?_
  refine tk 12 (.string ((⟨s.toArray⟩ : ByteArray) ++ ⟨#[32, 45, 62, 32]⟩ ++ ⟨u.toArray⟩)) HB4.out ?_
  refine wpAnyH_done (by kernel_rfl) ?_ _
  have hbr := HBR.out
  clear HBR
  rcases hbr with rfl | rfl | rfl
  · go_wp2_with fail
    go_ret
    refine ⟨?_, HB.out.trans (HB4.out.mono HB.out.size)⟩
    rw [HB60.out]
    have e : (⟨s.toArray⟩ : ByteArray) ++ ⟨([32, 45, 62, 32] : Bt).toArray⟩ ++ ⟨u.toArray⟩ = ⟨(s ++ ([32, 45, 62, 32] ++ u)).toArray⟩ := by
      rw [str_append, str_append, List.append_assoc]
    exact congrArg (fun b => Ending.returned (Value.string b)) e
  · go_wp2_with fail
    go_ret
    refine ⟨?_, HB.out.trans (HB4.out.mono HB.out.size)⟩
    rw [HB61.out]
    have e : (⟨([40] : Bt).toArray⟩ : ByteArray) ++ ((⟨s.toArray⟩ : ByteArray) ++ ⟨([32, 45, 62, 32] : Bt).toArray⟩ ++ ⟨u.toArray⟩) ++ ⟨([41] : Bt).toArray⟩ = ⟨([40] ++ ((s ++ ([32, 45, 62, 32] ++ u)) ++ [41])).toArray⟩ := by
      rw [str_append, str_append, str_append, str_append]
      simp
    exact congrArg (fun b => Ending.returned (Value.string b)) e
  · go_wp2_with fail
    go_ret
    refine ⟨?_, HB.out.trans (HB4.out.mono HB.out.size)⟩
    rw [HB62.out]
    have e : (⟨([40] : Bt).toArray⟩ : ByteArray) ++ ((⟨s.toArray⟩ : ByteArray) ++ ⟨([32, 45, 62, 32] : Bt).toArray⟩ ++ ⟨u.toArray⟩) ++ ⟨([41] : Bt).toArray⟩ = ⟨([40] ++ ((s ++ ([32, 45, 62, 32] ++ u)) ++ [41])).toArray⟩ := by
      rw [str_append, str_append, str_append, str_append]
      simp
    exact congrArg (fun b => Ending.returned (Value.string b)) e
set_option maxRecDepth 100000 in
set_option maxHeartbeats 8000000 in
theorem rshow_k5 (nm : Bt) (ns : List Bt) (ks : List TyD) (ih : ∀ x ∈ ks, RShC x) : RShK 5 nm ns ks := by
  intro w z m b hb2 hr hw hc
  obtain ⟨A1, c1, A2, c2, xk, rfl, s1, s2, r2⟩ := hr.parts
  have hlen := show_len _ m hw
  obtain ⟨q, rfl, h1, h2, h3⟩ := written_open hw
  have hab := kind_five h3
  obtain ⟨L, hL⟩ : ∃ L, List.zipWith fieldS ns (showTs ks) = L := ⟨_, rfl⟩
  have HT0 : showT (.mk 5 nm ns ks) = ([123] : Bt) ++ joinS [44, 32] L ++ ([125] : Bt) := by rw [← hL, showT]; simp
  rw [HT0] at hlen
  have HT : Hid (innerS (brK b) 5 (showT (.mk 5 nm ns ks)) = ([123] : Bt) ++ joinS [44, 32] L ++ ([125] : Bt)) := hid (by rw [inner_not hb2 (by decide) (by decide), HT0])
  rw [HT.out]
  have hcl := cnts_len ks
  rw [cntT] at hc hlen
  simp only [List.length_append, List.length_cons, List.length_nil] at hlen
  have hll : L.length = ks.length := by rw [← hL, List.length_zipWith, showTs_length]; omega
  have HGET : Hid (∀ (i : Nat) (h : i < ns.length) (h1 : i < ks.length) (h2 : i < L.length), L[i] = fieldS ns[i] (showT ks[i])) := hid (by
    intro i h h1 h2
    subst hL
    exact field_get ns ks i h2 h h1)
  obtain ⟨W1, hW1⟩ : ∃ W1, w.alloc (.cells #[.int .i64 5, sv nm, .slice A1 ns.length c1, .slice A2 ks.length c2] 32) = W1 := ⟨_, rfl⟩
  have hb1 : Below w.heap.size w W1 := by rw [← hW1]; exact (Below.refl _ _).alloc (Nat.le_refl _) _
  have hbx : W1.heap[w.heap.size]? = some (.cells #[.int .i64 5, sv nm, .slice A1 ns.length c1, .slice A2 ks.length c2] 32 (0, 0)) := by rw [← hW1]; exact heap_alloc_new w _
  have l1 := (t_sl_len s1).2
  have l2 := (t_sl_len s2).2
  have HS1 := hid (Sl.more (Sl.below s1 hb1) hb1.size)
  have HS := hid (And.intro (Sl.more (Sl.below s2 hb1) hb1.size) ((r2.keep hb1).more hb1.size))
  have HIH := hid ih
  have H2 := hid h2
  have H1 := hid h1
  have HB1 := hid hb1
  have HCN := hid (fun (x : TyD) (hx : x ∈ ks) => cnt_mem hx)
  have HJ : Hid (∀ i, (joinS [44, 32] (L.take i)).length ≤ 8000000) := hid (fun i => by have := joinS_le [44, 32] L i; omega)
  obtain ⟨a, hA⟩ : ∃ a, ns.length = a := ⟨_, rfl⟩
  obtain ⟨d, hD⟩ : ∃ d, ks.length = d := ⟨_, rfl⟩
  rw [hA] at hab HS1 hbx hW1 l1
  rw [hD] at hab hcl hll l2 HS hbx hW1
  rw [hA, hD]
  have HA := hid hA
  have HD := hid hD
  have HBX := hid hbx
  have HW := hid hW1
  have HAB := hid hab
  have HLL := hid hll
  clear hr hw s1 s2 r2 h1 h2 h3 ih hb1 hL HT0 hA hD hbx hW1 hab hlen hb2 hll
  go_enter Tryz.func39, Tryz.ntmps39
  go_wp2_with fail
  have hW := HW.out
  rw [hW]
  clear hW
  go_loopw [5, 6] (fun v5 v6 wr => ∃ i : Nat, v6 = .int .i64 i ∧ i ≤ a ∧ v5 = sv (joinS [44, 32] (L.take i)) ∧ Below W1.heap.size W1 wr) (fun v5 v6 _ => a - (intOf v6).toNat)
  case atStart => exact ⟨0, rfl, by omega, rfl, Below.refl _ _⟩
  case round =>
    obtain ⟨i, rfl, hi, rfl, hbr⟩ := hrel
    have HB := hid hbr
    obtain ⟨g0, g1, g2, g3⟩ := t_row4 ((hbr.block _ (block_lt HBX.out)).trans HBX.out)
    have hjl := HJ.out i
    by_cases hlt : i < a
    · have hin : i < ns.length := by rw [HA.out]; exact hlt
      have hil : i < ks.length := by rw [HD.out, ← HAB.out]; exact hlt
      have hiL : i < L.length := by rw [HLL.out, ← HAB.out]; exact hlt
      obtain ⟨b1, o1, rfl, d0⟩ := text_at (Sl.more (Sl.below HS1.out hbr) hbr.size) hin
      obtain ⟨b2, o2, kk, ss, A3, n3, c3, A4, n4, c4, rfl, hr1, e0, e1, e2, e3⟩ := elem_at (Sl.more (Sl.below HS.out.1 hbr) hbr.size) ((HS.out.2.keep hbr).more hbr.size) hil HD.out.symm
      have HI := hid (fun (w1 : World) (h : Below wr.heap.size wr w1) => HIH.out ks[i] (List.getElem_mem hil) w1 _ q 0 (by omega) (hr1.far (Nat.le_refl _) h) (H2.out _ (List.getElem_mem hil)) (by have := HCN.out _ (List.getElem_mem hil); omega))
      have hi0 : innerS (brK 0) (ks[i]).kind (showT ks[i]) = showT ks[i] := rfl
      rw [hi0] at HI
      have hg := HGET.out i hin hil hiL
      have hj1 := HJ.out (i + 1)
      have HNX0 : Hid (i = 0 → joinS [44, 32] (L.take (i + 1)) = joinS [44, 32] (L.take i) ++ fieldS ns[i] (showT ks[i])) := hid (fun h => by
        subst h
        rw [Nat.zero_add, join_first _ hiL, hg]
        rfl)
      have HNX1 : Hid (0 < i → joinS [44, 32] (L.take (i + 1)) = joinS [44, 32] (L.take i) ++ ([44, 32] ++ fieldS ns[i] (showT ks[i]))) := hid (fun h => by rw [join_next _ hiL h, hg])
      have hid_ : i < d := by rw [← HAB.out]; exact hlt
      generalize hN : joinS [44, 32] (L.take (i + 1)) = N at *
      have HN := hid hN
      clear hN
      generalize joinS [44, 32] (L.take i) = P at *
      generalize ns[i] = X at *
      generalize showT ks[i] = s at *
      have hz0 := sv_size P
      have hz1 := sv_size X
      have hz2 := sv_size s
      have G2 := hid g2
      have G3 := hid g3
      have D0 := hid d0
      have E0 := hid e0
      have E1 := hid e1
      have E2 := hid e2
      have E3 := hid e3
      have HB0 : Hid (Below wr.heap.size wr wr.drew) := hid (below_drawn wr 1)
      clear hr1 hg hi0
      by_cases hi0 : i = 0
      · have HNX : Hid (N = P ++ X ++ ([58, 32] : Bt) ++ s) := hid (by rw [HNX0.out hi0]; simp [fieldS])
        rw [HNX.out] at hj1
        simp only [List.length_append, List.length_cons, List.length_nil] at hj1
        have gi : decide ((0 : Int) < (i : Int)) = false := by simp; omega
        have gi2 : ¬ (0 : Int) < (i : Int) := by omega
        have q0 : ¬ (9223372036854775807 < P.length + X.length) := by omega
        have q1 : ¬ (9223372036854775807 < P.length + X.length + 2) := by omega
        have q2 : ¬ (9223372036854775807 < P.length + X.length + 2 + s.length) := by omega
        clear hi0 HNX0 HNX1 hj1 hjl hbr d0 e0 e1 e2 e3 g0 g1 g3
        go_wp2_with fail
        clear g2
        refine wp_region_held_drew (S := fun w' => Below wr.heap.size wr w') (by kernel_rfl) HB0.out (fun _ => ?_)
        try simp only [Act.put, List.getElem_toArray, List.getElem_cons_zero, List.getElem_cons_succ, List.setIfInBounds_toArray, List.set_cons_zero, List.set_cons_succ]
        refine tk 0 (sv P) HB0.out ?_
        refine tk 1 (.pointer (some ⟨w.heap.size, 2, none⟩)) HB0.out ?_
        refine tkf 2 (.slice (some ⟨b1, o1, none⟩) a c1) (kp1 G2.out) HB0.out ?_
        refine tk 3 (.int .i64 (i : Int)) HB0.out ?_
        refine tk 4 (.pointer (some ⟨b1, o1 + i, none⟩)) HB0.out ?_
        refine tkf 5 (sv X) (kp1 D0.out) HB0.out ?_
        refine tk 6 (.string ((⟨P.toArray⟩ : ByteArray) ++ ⟨X.toArray⟩)) HB0.out ?_
        refine tk 7 (.string ((⟨P.toArray⟩ : ByteArray) ++ ⟨X.toArray⟩ ++ ⟨#[58, 32]⟩)) HB0.out ?_
        refine tk 8 (.pointer (some ⟨w.heap.size, 3, none⟩)) HB0.out ?_
        refine tkf 9 (.slice (some ⟨b2, o2, none⟩) d c2) (kp1 G3.out) HB0.out ?_
        refine tk 10 (.int .i64 (i : Int)) HB0.out ?_
        refine tk 11 (.pointer (some ⟨b2, o2 + i * 4, none⟩)) HB0.out ?_
        refine tkf 12 (.agg #[.int .i64 kk, .string ss, .slice A3 n3 c3, .slice A4 n4 c4]) (kp4 E0.out E1.out E2.out E3.out) HB0.out ?_
        refine wpAnyH_ready (rs := [13]) (by kernel_rfl) (by simp) ?_
        refine AllReadyH.cons rfl (fun K hK => ?_) (AllReadyH.nil)
        go_simp
        refine (HI.out _ HB0.out).mono ?_
        rintro e w2 ⟨rfl, hb⟩
        have HB2 := hid (HB0.out.trans (hb.mono HB0.out.size))
        clear hb
        refine hK.out _ _ HB2.out (fun _ => ?_)
        clear hK K
        try simp only [Act.put, List.getElem_toArray, List.getElem_cons_zero, List.getElem_cons_succ, List.setIfInBounds_toArray, List.set_cons_zero, List.set_cons_succ]
        refine tk 14 (.string ((⟨P.toArray⟩ : ByteArray) ++ ⟨X.toArray⟩ ++ ⟨#[58, 32]⟩ ++ ⟨s.toArray⟩)) HB2.out ?_
        refine tk 15 (.string ((⟨P.toArray⟩ : ByteArray) ++ ⟨X.toArray⟩ ++ ⟨#[58, 32]⟩ ++ ⟨s.toArray⟩)) HB2.out ?_
        refine wpAnyH_done (by kernel_rfl) ?_ _
        go_wp2_with fail
        go_roundw
        case rel =>
          refine ⟨i + 1, rfl, by omega, ?_, HB.out.trans (HB2.out.mono HB.out.size)⟩
          rw [HN.out, HNX.out]
          have e : (⟨P.toArray⟩ : ByteArray) ++ ⟨X.toArray⟩ ++ ⟨([58, 32] : Bt).toArray⟩ ++ ⟨s.toArray⟩ = ⟨(P ++ X ++ ([58, 32] : Bt) ++ s).toArray⟩ := by
            rw [str_append, str_append, str_append]
          exact congrArg Value.string e
        case measure => simp [intOf]; omega
      · have HNX : Hid (N = P ++ ([44, 32] : Bt) ++ X ++ ([58, 32] : Bt) ++ s) := hid (by rw [HNX1.out (by omega)]; simp [fieldS])
        rw [HNX.out] at hj1
        simp only [List.length_append, List.length_cons, List.length_nil] at hj1
        have gi : decide ((0 : Int) < (i : Int)) = true := by simp; omega
        have gi2 : (0 : Int) < (i : Int) := by omega
        have q0 : ¬ (9223372036854775807 < P.length + 2) := by omega
        have q1 : ¬ (9223372036854775807 < P.length + 2 + X.length) := by omega
        have q2 : ¬ (9223372036854775807 < P.length + 2 + X.length + 2) := by omega
        have q3 : ¬ (9223372036854775807 < P.length + 2 + X.length + 2 + s.length) := by omega
        clear hi0 HNX0 HNX1 hj1 hjl hbr d0 e0 e1 e2 e3 g0 g1 g3
        go_wp2_with fail
        clear g2
        refine wp_region_held_drew (S := fun w' => Below wr.heap.size wr w') (by kernel_rfl) HB0.out (fun _ => ?_)
        try simp only [Act.put, List.getElem_toArray, List.getElem_cons_zero, List.getElem_cons_succ, List.setIfInBounds_toArray, List.set_cons_zero, List.set_cons_succ]
        refine tk 0 (.string ((⟨P.toArray⟩ : ByteArray) ++ ⟨#[44, 32]⟩)) HB0.out ?_
        refine tk 1 (.pointer (some ⟨w.heap.size, 2, none⟩)) HB0.out ?_
        refine tkf 2 (.slice (some ⟨b1, o1, none⟩) a c1) (kp1 G2.out) HB0.out ?_
        refine tk 3 (.int .i64 (i : Int)) HB0.out ?_
        refine tk 4 (.pointer (some ⟨b1, o1 + i, none⟩)) HB0.out ?_
        refine tkf 5 (sv X) (kp1 D0.out) HB0.out ?_
        refine tk 6 (.string ((⟨P.toArray⟩ : ByteArray) ++ ⟨#[44, 32]⟩ ++ ⟨X.toArray⟩)) HB0.out ?_
        refine tk 7 (.string ((⟨P.toArray⟩ : ByteArray) ++ ⟨#[44, 32]⟩ ++ ⟨X.toArray⟩ ++ ⟨#[58, 32]⟩)) HB0.out ?_
        refine tk 8 (.pointer (some ⟨w.heap.size, 3, none⟩)) HB0.out ?_
        refine tkf 9 (.slice (some ⟨b2, o2, none⟩) d c2) (kp1 G3.out) HB0.out ?_
        refine tk 10 (.int .i64 (i : Int)) HB0.out ?_
        refine tk 11 (.pointer (some ⟨b2, o2 + i * 4, none⟩)) HB0.out ?_
        refine tkf 12 (.agg #[.int .i64 kk, .string ss, .slice A3 n3 c3, .slice A4 n4 c4]) (kp4 E0.out E1.out E2.out E3.out) HB0.out ?_
        refine wpAnyH_ready (rs := [13]) (by kernel_rfl) (by simp) ?_
        refine AllReadyH.cons rfl (fun K hK => ?_) (AllReadyH.nil)
        go_simp
        refine (HI.out _ HB0.out).mono ?_
        rintro e w2 ⟨rfl, hb⟩
        have HB2 := hid (HB0.out.trans (hb.mono HB0.out.size))
        clear hb
        refine hK.out _ _ HB2.out (fun _ => ?_)
        clear hK K
        try simp only [Act.put, List.getElem_toArray, List.getElem_cons_zero, List.getElem_cons_succ, List.setIfInBounds_toArray, List.set_cons_zero, List.set_cons_succ]
        refine tk 14 (.string ((⟨P.toArray⟩ : ByteArray) ++ ⟨#[44, 32]⟩ ++ ⟨X.toArray⟩ ++ ⟨#[58, 32]⟩ ++ ⟨s.toArray⟩)) HB2.out ?_
        refine tk 15 (.string ((⟨P.toArray⟩ : ByteArray) ++ ⟨#[44, 32]⟩ ++ ⟨X.toArray⟩ ++ ⟨#[58, 32]⟩ ++ ⟨s.toArray⟩)) HB2.out ?_
        refine wpAnyH_done (by kernel_rfl) ?_ _
        go_wp2_with fail
        go_roundw
        case rel =>
          refine ⟨i + 1, rfl, by omega, ?_, HB.out.trans (HB2.out.mono HB.out.size)⟩
          rw [HN.out, HNX.out]
          have e : (⟨P.toArray⟩ : ByteArray) ++ ⟨([44, 32] : Bt).toArray⟩ ++ ⟨X.toArray⟩ ++ ⟨([58, 32] : Bt).toArray⟩ ++ ⟨s.toArray⟩ = ⟨(P ++ ([44, 32] : Bt) ++ X ++ ([58, 32] : Bt) ++ s).toArray⟩ := by
            rw [str_append, str_append, str_append, str_append]
          exact congrArg Value.string e
        case measure => simp [intOf]; omega
    · obtain rfl : i = a := by omega
      rw [List.take_of_length_le (by rw [HLL.out, ← HAB.out]; omega)] at hjl ⊢
      generalize hP : joinS [44, 32] L = P at *
      have HP := hid hP
      clear hP
      have hz0 := sv_size P
      have q0 : ¬ (9223372036854775807 < 1 + P.length) := by omega
      have q1 : ¬ (9223372036854775807 < 1 + P.length + 1) := by omega
      clear hbr hlt hjl g0 g1 g3
      go_wp2_with fail
      go_ret
      refine ⟨?_, HB1.out.trans (HB.out.mono HB1.out.size)⟩
      rw [HP.out]
      have e : (⟨([123] : Bt).toArray⟩ : ByteArray) ++ ⟨P.toArray⟩ ++ ⟨([125] : Bt).toArray⟩ = ⟨([123] ++ P ++ [125]).toArray⟩ := by
        rw [str_append, str_append]
      exact congrArg (fun b => Ending.returned (Value.string b)) e
set_option maxRecDepth 100000 in
set_option maxHeartbeats 8000000 in
theorem rshow_k7 (nm : Bt) (ns : List Bt) (ks : List TyD) (ih : ∀ x ∈ ks, RShC x) : RShK 7 nm ns ks := by
  intro w z m b hb2 hr hw hc
  obtain ⟨A1, c1, A2, c2, xk, rfl, s1, s2, r2⟩ := hr.parts
  have hlen := show_len _ m hw
  obtain ⟨q, rfl, h1, h2, h3⟩ := written_open hw
  obtain ⟨L, hL⟩ : ∃ L, List.zipWith (innerS [6, 7]) (ks.map TyD.kind) (showTs ks) = L := ⟨_, rfl⟩
  have HT0 : showT (.mk 7 nm ns ks) = joinS [32, 124, 32] L := by rw [← hL, showT]; rfl
  rw [HT0] at hlen ⊢
  have hcl := cnts_len ks
  rw [cntT] at hc hlen
  have hll : L.length = ks.length := by rw [← hL, List.length_zipWith, showTs_length, List.length_map]; omega
  have HGET : Hid (∀ (i : Nat) (h1 : i < ks.length) (h2 : i < L.length), L[i] = innerS (brK 2) ks[i].kind (showT ks[i])) := hid (by
    intro i h1 h2
    subst hL
    rw [List.getElem_zipWith]
    simp [showTs_map, brK])
  obtain ⟨W1, hW1⟩ : ∃ W1, w.alloc (.cells #[.int .i64 7, sv nm, .slice A1 ns.length c1, .slice A2 ks.length c2] 32) = W1 := ⟨_, rfl⟩
  have hb1 : Below w.heap.size w W1 := by rw [← hW1]; exact (Below.refl _ _).alloc (Nat.le_refl _) _
  have hbx : W1.heap[w.heap.size]? = some (.cells #[.int .i64 7, sv nm, .slice A1 ns.length c1, .slice A2 ks.length c2] 32 (0, 0)) := by rw [← hW1]; exact heap_alloc_new w _
  have l2 := (t_sl_len s2).2
  have HS := hid (And.intro (Sl.more (Sl.below s2 hb1) hb1.size) ((r2.keep hb1).more hb1.size))
  have HIH := hid ih
  have H2 := hid h2
  have HB1 := hid hb1
  have HCN := hid (fun (x : TyD) (hx : x ∈ ks) => cnt_mem hx)
  have HJ : Hid (∀ i, (joinS [32, 124, 32] (L.take i)).length ≤ 8000000) := hid (fun i => by have := joinS_le [32, 124, 32] L i; omega)
  have HBR : Hid (b = 0 ∨ b = 1 ∨ b = 2) := hid (by omega)
  obtain ⟨d, hD⟩ : ∃ d, ks.length = d := ⟨_, rfl⟩
  rw [hD] at hcl hll l2 HS hbx hW1
  rw [hD]
  have HD := hid hD
  have HBX := hid hbx
  have HW := hid hW1
  have HLL := hid hll
  clear hr hw s1 s2 r2 h1 h2 h3 ih hb1 hL HT0 hD hbx hW1 hlen hb2 hll
  go_enter Tryz.func39, Tryz.ntmps39
  go_wp2_with fail
  have hW := HW.out
  rw [hW]
  clear hW
  go_loopw [5, 7] (fun v5 v7 wr => ∃ i : Nat, v7 = .int .i64 i ∧ i ≤ d ∧ v5 = sv (joinS [32, 124, 32] (L.take i)) ∧ Below W1.heap.size W1 wr) (fun v5 v7 _ => d - (intOf v7).toNat)
  case atStart => exact ⟨0, rfl, by omega, rfl, Below.refl _ _⟩
  case round =>
    obtain ⟨i, rfl, hi, rfl, hbr⟩ := hrel
    have HB := hid hbr
    obtain ⟨g0, g1, g2, g3⟩ := t_row4 ((hbr.block _ (block_lt HBX.out)).trans HBX.out)
    have hjl := HJ.out i
    by_cases hlt : i < d
    · have hil : i < ks.length := by rw [HD.out]; exact hlt
      have hiL : i < L.length := by rw [HLL.out]; exact hlt
      obtain ⟨b2, o2, kk, ss, A3, n3, c3, A4, n4, c4, rfl, hr1, e0, e1, e2, e3⟩ := elem_at (Sl.more (Sl.below HS.out.1 hbr) hbr.size) ((HS.out.2.keep hbr).more hbr.size) hil HD.out.symm
      have HI := hid (HIH.out ks[i] (List.getElem_mem hil) wr _ q 2 (by omega) hr1 (H2.out _ (List.getElem_mem hil)) (by have := HCN.out _ (List.getElem_mem hil); omega))
      rw [← HGET.out i hil hiL] at HI
      have hj1 := HJ.out (i + 1)
      have HNX0 : Hid (i = 0 → joinS [32, 124, 32] (L.take (i + 1)) = joinS [32, 124, 32] (L.take i) ++ L[i]) := hid (fun h => by
        subst h
        rw [Nat.zero_add, join_first _ hiL]
        rfl)
      have HNX1 : Hid (0 < i → joinS [32, 124, 32] (L.take (i + 1)) = joinS [32, 124, 32] (L.take i) ++ ([32, 124, 32] ++ L[i])) := hid (fun h => by rw [join_next _ hiL h])
      generalize hN : joinS [32, 124, 32] (L.take (i + 1)) = N at *
      have HN := hid hN
      clear hN
      generalize joinS [32, 124, 32] (L.take i) = P at *
      generalize L[i] = X at *
      have hz0 := sv_size P
      have hz1 := sv_size X
      clear hr1
      by_cases hi0 : i = 0
      · have HNX : Hid (N = P ++ X) := hid (HNX0.out hi0)
        rw [HNX.out] at hj1
        simp only [List.length_append, List.length_cons, List.length_nil] at hj1
        have gi : decide ((0 : Int) < (i : Int)) = false := by simp; omega
        have gi2 : ¬ (0 : Int) < (i : Int) := by omega
        have q0 : ¬ (9223372036854775807 < P.length + X.length) := by omega
        clear hi0 HNX0 HNX1 hj1 hjl hbr g0 g1 g2
        go_wp2_with fail
        refine HI.out.mono ?_
        rintro e w2 ⟨rfl, hb⟩
        have HB2 := hid (HB.out.trans (hb.mono HB.out.size))
        clear hb e0 e1 e2 e3 g3
        go_wp2_with fail
        go_roundw
        case rel =>
          refine ⟨i + 1, rfl, by omega, ?_, HB2.out⟩
          rw [HN.out, HNX.out]
          have e : (⟨P.toArray⟩ : ByteArray) ++ ⟨X.toArray⟩ = ⟨(P ++ X).toArray⟩ := by rw [str_append]
          exact congrArg Value.string e
        case measure => simp [intOf]; omega
      · have HNX : Hid (N = P ++ ([32, 124, 32] : Bt) ++ X) := hid (by rw [HNX1.out (by omega), List.append_assoc])
        rw [HNX.out] at hj1
        simp only [List.length_append, List.length_cons, List.length_nil] at hj1
        have gi : decide ((0 : Int) < (i : Int)) = true := by simp; omega
        have gi2 : (0 : Int) < (i : Int) := by omega
        have q0 : ¬ (9223372036854775807 < P.length + 3) := by omega
        have q1 : ¬ (9223372036854775807 < P.length + 3 + X.length) := by omega
        clear hi0 HNX0 HNX1 hj1 hjl hbr g0 g1 g2
        go_wp2_with fail
        refine HI.out.mono ?_
        rintro e w2 ⟨rfl, hb⟩
        have HB2 := hid (HB.out.trans (hb.mono HB.out.size))
        clear hb e0 e1 e2 e3 g3
        go_wp2_with fail
        go_roundw
        case rel =>
          refine ⟨i + 1, rfl, by omega, ?_, HB2.out⟩
          rw [HN.out, HNX.out]
          have e : (⟨P.toArray⟩ : ByteArray) ++ ⟨([32, 124, 32] : Bt).toArray⟩ ++ ⟨X.toArray⟩ = ⟨(P ++ ([32, 124, 32] : Bt) ++ X).toArray⟩ := by rw [str_append, str_append]
          exact congrArg Value.string e
        case measure => simp [intOf]; omega
    · obtain rfl : i = d := by omega
      rw [List.take_of_length_le (by rw [HLL.out]; omega)] at hjl ⊢
      generalize hP : joinS [32, 124, 32] L = P at *
      have HP := hid hP
      clear hP
      have hz0 := sv_size P
      have q0 : ¬ (9223372036854775807 < 1 + P.length) := by omega
      have q1 : ¬ (9223372036854775807 < 1 + P.length + 1) := by omega
      have HB70 : Hid (∀ t : Bt, innerS (brK 0) 7 t = t) := hid (fun t => rfl)
      have HB71 : Hid (∀ t : Bt, innerS (brK 1) 7 t = t) := hid (fun t => rfl)
      have HB72 : Hid (∀ t : Bt, innerS (brK 2) 7 t = [40] ++ t ++ [41]) := hid (fun t => by show [40] ++ (t ++ [41]) = _; simp)
      clear hbr hlt hjl g0 g1 g2
      have hbb := HBR.out
      clear HBR
      rcases hbb with rfl | rfl | rfl
      · go_wp2_with fail
        go_ret
        refine ⟨?_, HB1.out.trans (HB.out.mono HB1.out.size)⟩
        rw [HB70.out, HP.out]
        rfl
      · go_wp2_with fail
        go_ret
        refine ⟨?_, HB1.out.trans (HB.out.mono HB1.out.size)⟩
        rw [HB71.out, HP.out]
        rfl
      · go_wp2_with fail
        go_ret
        refine ⟨?_, HB1.out.trans (HB.out.mono HB1.out.size)⟩
        rw [HB72.out, HP.out]
        have e : (⟨([40] : Bt).toArray⟩ : ByteArray) ++ ⟨P.toArray⟩ ++ ⟨([41] : Bt).toArray⟩ = ⟨([40] ++ P ++ [41]).toArray⟩ := by
          rw [str_append, str_append]
        exact congrArg (fun b => Ending.returned (Value.string b)) e
theorem rshow_all (t : TyD) : RShC t := by
  induction h : cntT t using Nat.strongRecOn generalizing t with
  | _ n ih =>
    obtain ⟨k, nm, ns, ks⟩ := t
    have ihk : ∀ x ∈ ks, RShC x := fun x hx => ih (cntT x) (by rw [← h, cntT]; have := cnt_mem hx; omega) x rfl
    intro w z m b hb hr hw hc
    have hk : 0 ≤ k ∧ k ≤ 8 := by obtain ⟨q, rfl, h1, h2, h3⟩ := written_open hw; exact kind_range h3
    have hk2 : k = 0 ∨ k = 1 ∨ k = 2 ∨ k = 3 ∨ k = 4 ∨ k = 5 ∨ k = 6 ∨ k = 7 ∨ k = 8 := by omega
    rcases hk2 with rfl | rfl | rfl | rfl | rfl | rfl | rfl | rfl | rfl
    · exact rshow_k0 nm ns ks w z m b hb hr hw hc
    · exact rshow_k1 nm ns ks w z m b hb hr hw hc
    · exact rshow_k2 nm ns ks w z m b hb hr hw hc
    · exact rshow_k3 nm ns ks w z m b hb hr hw hc
    · exact rshow_k4 nm ns ks w z m b hb hr hw hc
    · exact rshow_k5 nm ns ks ihk w z m b hb hr hw hc
    · exact rshow_k6 nm ns ks ihk w z m b hb hr hw hc
    · exact rshow_k7 nm ns ks ihk w z m b hb hr hw hc
    · exact rshow_k8 nm ns ks w z m b hb hr hw hc
end Go.Proofs.YtbpedjkebemhnaaGreatDoor
