/- TL, TM, YG, YE -/
import Derived.Test.YtbpedjkebemhnaaGreatDoorSD06
import Derived.Test.YtbpedjkebemhnaaGreatDoorSD02
import Derived.Test.YtbpedjkebemhnaaGreatDoorSD03
import Derived.Test.YtbpedjkebemhnaaGreatDoorSD07
set_option linter.unusedSimpArgs false
set_option linter.unusedVariables false
section
/- A written type as text: tree.show. -/
set_option linter.unusedVariables false
namespace Go.Proofs.YtbpedjkebemhnaaGreatDoor
open Go.RowKit

theorem kind_range {k : Int} {nm : Bt} {a b : Nat} (h : kindT k nm a b = true) : 0 ≤ k ∧ k ≤ 8 := by
  unfold kindT at h
  split at h
  · omega
  split at h
  · cases h
  · rename_i h1 h2
    constructor <;> (apply Classical.byContradiction; intro h3; exact h2 (by omega))
theorem kind_five {nm : Bt} {a b : Nat} (h : kindT 5 nm a b = true) : a = b := by
  unfold kindT at h
  split at h
  · omega
  split at h
  · cases h
  · simpa using h
theorem kind_six {nm : Bt} {a b : Nat} (h : kindT 6 nm a b = true) : b = 2 := by
  unfold kindT at h
  split at h
  · omega
  split at h
  · cases h
  · simp at h; exact h.2
theorem field_get (ns : List Bt) (ks : List TyD) (i : Nat) (hi : i < (List.zipWith fieldS ns (showTs ks)).length) (h1 : i < ns.length) (h2 : i < ks.length) : (List.zipWith fieldS ns (showTs ks))[i] = fieldS ns[i] (showT ks[i]) := by
  rw [List.getElem_zipWith]
  simp [showTs_map]
theorem len_two {α : Type} {l : List α} (h : l.length = 2) : ∃ a b, l = [a, b] := by
  match l, h with
  | [a, b], _ => exact ⟨a, b, rfl⟩
theorem written_open {m : Nat} {k : Int} {nm : Bt} {ns : List Bt} {ks : List TyD} (h : writtenB m (.mk k nm ns ks) = true) : ∃ q, m = q + 1 ∧ (∀ n ∈ ns, n.length ≤ 32) ∧ (∀ x ∈ ks, writtenB q x = true) ∧ kindT k nm ns.length ks.length = true := by
  cases m with
  | zero => cases h
  | succ q =>
    have h : (ns.all nameL && ks.all (writtenB q) && kindT k nm ns.length ks.length) = true := h
    rw [Bool.and_eq_true, Bool.and_eq_true] at h
    exact ⟨q, rfl, fun n hn => nameL_len (List.all_eq_true.1 h.1.1 n hn), fun x hx => List.all_eq_true.1 h.1.2 x hx, h.2⟩
/-- What show does at a type of some parts. -/
def ShowK (k : Int) (nm : Bt) (ns : List Bt) (ks : List TyD) : Prop := ∀ (w : World) (z : List Value) (m : Nat), TyR w w.heap.size z (.mk k nm ns ks) → writtenB m (.mk k nm ns ks) = true → cntT (.mk k nm ns ks) ≤ 100000 →
  Calls Tryz.prog 37 #[.agg z.toArray] w fun e w' => e = .returned (sv (showT (.mk k nm ns ks))) ∧ Below w.heap.size w w'
theorem show_k0 (nm : Bt) (ns : List Bt) (ks : List TyD) : ShowK 0 nm ns ks := by
  intro w z m hr hw hc
  obtain ⟨A1, c1, A2, c2, xk, rfl, s1, s2, r2⟩ := hr.parts
  have HT : Hid (showT (.mk 0 nm ns ks) = [97, 110, 121]) := hid (by rw [showT]; rfl)
  have HB : Hid (Below w.heap.size w (w.alloc (.cells #[.int .i64 0, sv nm, .slice A1 ns.length c1, .slice A2 ks.length c2] 32))) := hid ((Below.refl _ _).alloc (Nat.le_refl _) _)
  rw [HT.out]
  clear hr hw hc s1 s2 r2
  go_enter Tryz.func37, Tryz.ntmps37
  go_wp2_with fail
  go_ret
  exact ⟨rfl, HB.out⟩
theorem show_k1 (nm : Bt) (ns : List Bt) (ks : List TyD) : ShowK 1 nm ns ks := by
  intro w z m hr hw hc
  obtain ⟨A1, c1, A2, c2, xk, rfl, s1, s2, r2⟩ := hr.parts
  have HT : Hid (showT (.mk 1 nm ns ks) = [110, 117, 108, 108]) := hid (by rw [showT]; rfl)
  have HB : Hid (Below w.heap.size w (w.alloc (.cells #[.int .i64 1, sv nm, .slice A1 ns.length c1, .slice A2 ks.length c2] 32))) := hid ((Below.refl _ _).alloc (Nat.le_refl _) _)
  rw [HT.out]
  clear hr hw hc s1 s2 r2
  go_enter Tryz.func37, Tryz.ntmps37
  go_wp2_with fail
  go_ret
  exact ⟨rfl, HB.out⟩
theorem show_k2 (nm : Bt) (ns : List Bt) (ks : List TyD) : ShowK 2 nm ns ks := by
  intro w z m hr hw hc
  obtain ⟨A1, c1, A2, c2, xk, rfl, s1, s2, r2⟩ := hr.parts
  have HT : Hid (showT (.mk 2 nm ns ks) = [98, 111, 111, 108]) := hid (by rw [showT]; rfl)
  have HB : Hid (Below w.heap.size w (w.alloc (.cells #[.int .i64 2, sv nm, .slice A1 ns.length c1, .slice A2 ks.length c2] 32))) := hid ((Below.refl _ _).alloc (Nat.le_refl _) _)
  rw [HT.out]
  clear hr hw hc s1 s2 r2
  go_enter Tryz.func37, Tryz.ntmps37
  go_wp2_with fail
  go_ret
  exact ⟨rfl, HB.out⟩
theorem show_k3 (nm : Bt) (ns : List Bt) (ks : List TyD) : ShowK 3 nm ns ks := by
  intro w z m hr hw hc
  obtain ⟨A1, c1, A2, c2, xk, rfl, s1, s2, r2⟩ := hr.parts
  have HT : Hid (showT (.mk 3 nm ns ks) = [105, 110, 116]) := hid (by rw [showT]; rfl)
  have HB : Hid (Below w.heap.size w (w.alloc (.cells #[.int .i64 3, sv nm, .slice A1 ns.length c1, .slice A2 ks.length c2] 32))) := hid ((Below.refl _ _).alloc (Nat.le_refl _) _)
  rw [HT.out]
  clear hr hw hc s1 s2 r2
  go_enter Tryz.func37, Tryz.ntmps37
  go_wp2_with fail
  go_ret
  exact ⟨rfl, HB.out⟩
theorem show_k4 (nm : Bt) (ns : List Bt) (ks : List TyD) : ShowK 4 nm ns ks := by
  intro w z m hr hw hc
  obtain ⟨A1, c1, A2, c2, xk, rfl, s1, s2, r2⟩ := hr.parts
  have HT : Hid (showT (.mk 4 nm ns ks) = [115, 116, 114]) := hid (by rw [showT]; rfl)
  have HB : Hid (Below w.heap.size w (w.alloc (.cells #[.int .i64 4, sv nm, .slice A1 ns.length c1, .slice A2 ks.length c2] 32))) := hid ((Below.refl _ _).alloc (Nat.le_refl _) _)
  rw [HT.out]
  clear hr hw hc s1 s2 r2
  go_enter Tryz.func37, Tryz.ntmps37
  go_wp2_with fail
  go_ret
  exact ⟨rfl, HB.out⟩
theorem show_k8 (nm : Bt) (ns : List Bt) (ks : List TyD) : ShowK 8 nm ns ks := by
  intro w z m hr hw hc
  obtain ⟨A1, c1, A2, c2, xk, rfl, s1, s2, r2⟩ := hr.parts
  have HT : Hid (showT (.mk 8 nm ns ks) = nm) := hid (by rw [showT]; rfl)
  have HB : Hid (Below w.heap.size w (w.alloc (.cells #[.int .i64 8, sv nm, .slice A1 ns.length c1, .slice A2 ks.length c2] 32))) := hid ((Below.refl _ _).alloc (Nat.le_refl _) _)
  rw [HT.out]
  clear hr hw hc s1 s2 r2
  go_enter Tryz.func37, Tryz.ntmps37
  go_wp2_with fail
  go_ret
  exact ⟨rfl, HB.out⟩
set_option maxRecDepth 100000 in
set_option maxHeartbeats 2000000 in
theorem show_k5 (nm : Bt) (ns : List Bt) (ks : List TyD) (ih : ∀ x ∈ ks, ShowC x) : ShowK 5 nm ns ks := by
  intro w z m hr hw hc
  obtain ⟨A1, c1, A2, c2, xk, rfl, s1, s2, r2⟩ := hr.parts
  have hlen := show_len _ m hw
  obtain ⟨q, rfl, h1, h2, h3⟩ := written_open hw
  have hab := kind_five h3
  have HT0 : showT (.mk 5 nm ns ks) = [123] ++ (joinS [44, 32] (List.zipWith fieldS ns (showTs ks)) ++ [125]) := by rw [showT]; rfl
  rw [HT0] at hlen
  have HT := hid HT0
  clear HT0
  rw [HT.out]
  have hcl := cnts_len ks
  rw [cntT] at hc hlen
  have hzl : (List.zipWith fieldS ns (showTs ks)).length = ks.length := by rw [List.length_zipWith, showTs_length]; omega
  simp only [List.length_append, List.length_cons, List.length_nil] at hlen
  obtain ⟨W1, hW1⟩ : ∃ W1, W1 = w.alloc (.cells #[.int .i64 5, sv nm, .slice A1 ns.length c1, .slice A2 ks.length c2] 32) := ⟨_, rfl⟩
  have hb1 : Below w.heap.size w W1 := by rw [hW1]; exact (Below.refl _ _).alloc (Nat.le_refl _) _
  have hbx : W1.heap[w.heap.size]? = some (.cells #[.int .i64 5, sv nm, .slice A1 ns.length c1, .slice A2 ks.length c2] 32 (0, 0)) := by rw [hW1]; exact heap_alloc_new w _
  have HL := list_any 83 (fun _ _ => by kernel_rfl) #[.pointer (some ⟨w.heap.size, 0, none⟩)] (List.zipWith fieldS ns (showTs ks)) W1 (by omega) (by omega) (fun i hi w1 hb => by
    rw [hzl] at hi
    have hin : i < ns.length := by omega
    have hbw : Below w.heap.size w w1 := hb1.trans (hb.mono hb1.size)
    rw [field_get ns ks i _ hin hi]
    exact show1_any w1 w.heap.size 5 nm ns ks A1 c1 A2 c2 xk ((hb.block _ (block_lt hbx)).trans hbx) (Sl.more (Sl.below s1 hbw) hbw.size) (Sl.more (Sl.below s2 hbw) hbw.size) ((r2.keep hbw).more hbw.size) i hi hin (ih _ (List.getElem_mem hi)) q (h2 _ (List.getElem_mem hi)) (by have := cnt_mem (List.getElem_mem hi); omega) (h1 _ (List.getElem_mem hin)))
  rw [hzl] at HL
  have HL := hid HL
  have HB := hid hb1
  have HWE := hid hW1
  have hl2 := (t_sl_len s2).2
  rw [hW1] at HL
  generalize joinS [44, 32] (List.zipWith fieldS ns (showTs ks)) = s at *
  have hsz := sv_size s
  have q1 : ¬ (9223372036854775807 < 1 + s.length) := by omega
  have q2 : ¬ (9223372036854775807 < 1 + s.length + 1) := by omega
  have hmf : ∀ (fn : Fn) (first cap : Array Value) (w : World), (Instr.makeFunc fn first cap).run Tryz.prog w = .ok (.func fn first cap) w := fun _ _ _ _ => rfl
  clear hr hw hc s1 s2 r2 hlen h1 h2 h3 ih hcl hzl hW1 hb1 hbx HT hab
  go_enter Tryz.func37, Tryz.ntmps37
  go_wp2_with fail
  refine HL.out.mono ?_
  rintro e w2 ⟨rfl, hb⟩
  rw [← HWE.out] at hb
  have HB2 := hid (HB.out.trans (hb.mono HB.out.size))
  clear hb
  go_wp2_with fail
  go_ret
  refine ⟨?_, HB2.out⟩
  have e : (⟨#[123]⟩ : ByteArray) ++ ⟨s.toArray⟩ ++ ⟨#[125]⟩ = ⟨([123] ++ (s ++ [125])).toArray⟩ := by
    rw [show (⟨#[123]⟩ : ByteArray) = ⟨([123] : Bt).toArray⟩ from rfl, show (⟨#[125]⟩ : ByteArray) = ⟨([125] : Bt).toArray⟩ from rfl, str_append, str_append, List.append_assoc]
  exact congrArg (fun b => Ending.returned (Value.string b)) e
set_option maxRecDepth 100000 in
set_option maxHeartbeats 2000000 in
theorem show_k6 (nm : Bt) (ns : List Bt) (ks : List TyD) (ih : ∀ x ∈ ks, ShowC x) : ShowK 6 nm ns ks := by
  intro w z m hr hw hc
  obtain ⟨A1, c1, A2, c2, xk, rfl, s1, s2, r2⟩ := hr.parts
  have hlen := show_len _ m hw
  obtain ⟨q, rfl, h1, h2, h3⟩ := written_open hw
  obtain ⟨t0, t1, rfl⟩ := len_two (kind_six h3)
  have HT0 : showT (.mk 6 nm ns [t0, t1]) = innerS [6] t0.kind (showT t0) ++ ([32, 45, 62, 32] ++ showT t1) := by rw [showT]; rfl
  rw [HT0] at hlen
  have HT := hid HT0
  clear HT0
  rw [HT.out]
  rw [cntT, cntTs, cntTs, cntTs] at hc hlen
  simp only [List.length_append, List.length_cons, List.length_nil] at hlen
  obtain ⟨b2, o2, k0, ss0, A3, n3, c3, A4, n4, c4, rfl, hr0, d0, d1, d2, d3⟩ := elem_at s2 r2 (i := 0) (by simp) rfl
  obtain ⟨b2', o2', k1, ss1, A5, n5, c5, A6, n6, c6, hbe, hr1, e0, e1, e2, e3⟩ := elem_at s2 r2 (i := 1) (by simp) rfl
  injection hbe with hbe
  injection hbe with hbe1 hbe2 hbe3
  subst hbe1 hbe2
  simp only [List.getElem_cons_zero, List.getElem_cons_succ, Nat.zero_mul, Nat.one_mul, Nat.add_zero, Nat.add_assoc] at hr0 hr1 d0 d1 d2 d3 e0 e1 e2 e3
  obtain ⟨W, hW⟩ : ∃ W, w.alloc (.cells #[.int .i64 6, sv nm, .slice A1 ns.length c1, .slice (some ⟨b2, o2, none⟩) 2 c2] 32) = W := ⟨_, rfl⟩
  have hb1 : Below w.heap.size w W := by rw [← hW]; exact (Below.refl _ _).alloc (Nat.le_refl _) _
  have hbx : W.heap[w.heap.size]? = some (.cells #[.int .i64 6, sv nm, .slice A1 ns.length c1, .slice (some ⟨b2, o2, none⟩) 2 c2] 32 (0, 0)) := by rw [← hW]; exact heap_alloc_new w _
  obtain ⟨_, _, _, g3⟩ := t_row4 hbx
  have HI := hid (fun (w1 : World) (h : Below W.heap.size W w1) (bq : Nat) (hq : w1.cell? ⟨bq, 0, none⟩ = some (.int .i64 6)) => tinner_any t0 (ih t0 (by simp)) w1 _ q (hr0.far (Nat.le_refl _) (hb1.trans (h.mono hb1.size))) (h2 t0 (by simp)) (by omega) bq [6] (by simp) (fun j hj => by
    obtain rfl : j = 0 := by simpa using hj
    exact hq) (World.block_lt_of_cell? w1 _ hq))
  have HS := hid (fun (w1 : World) (h : Below W.heap.size W w1) => ih t1 (by simp) w1 _ q (hr1.far (Nat.le_refl _) (hb1.trans (h.mono hb1.size))) (h2 t1 (by simp)) (by omega))
  have G3 := hid g3
  have D0 := hid (kp hb1 d0)
  have D1 := hid (kp hb1 d1)
  have D2 := hid (kp hb1 d2)
  have D3 := hid (kp hb1 d3)
  have E0 := hid (kp hb1 e0)
  have E1 := hid (kp hb1 e1)
  have E2 := hid (kp hb1 e2)
  have E3 := hid (kp hb1 e3)
  have HB := hid hb1
  have HW := hid hW
  have hl2 := (t_sl_len s2).2
  generalize innerS [6] t0.kind (showT t0) = s at *
  generalize showT t1 = u at *
  have hsz := sv_size s
  have hsz1 := sv_size u
  have q1 : ¬ (9223372036854775807 < s.length + 4) := by omega
  have q2 : ¬ (9223372036854775807 < s.length + 4 + u.length) := by omega
  have HB0 : Hid (Below W.heap.size W W.drew) := hid (below_drawn W 1)
  clear hr hw hc s1 s2 r2 hlen h1 h2 h3 ih hW hb1 hbx hr0 hr1 g3 d0 d1 d2 d3 e0 e1 e2 e3 HT
  go_enter Tryz.func37, Tryz.ntmps37
  go_wp2_with fail
  have hW := HW.out
  rw [hW]
  clear hW
  refine wp_region_held_drew (S := fun w' => Below W.heap.size W w') (by kernel_rfl) HB0.out (fun _ => ?_)
  try simp only [Act.put, List.getElem_toArray, List.getElem_cons_zero, List.getElem_cons_succ, List.setIfInBounds_toArray, List.set_cons_zero, List.set_cons_succ]
  refine tk 0 (.pointer (some ⟨w.heap.size, 3, none⟩)) HB0.out ?_
  refine tkf 1 (.slice (some ⟨b2, o2, none⟩) 2 c2) (kp1 G3.out) HB0.out ?_
  refine tk 2 (.pointer (some ⟨b2, o2, none⟩)) HB0.out ?_
  refine tkf 3 (.agg #[.int .i64 k0, .string ss0, .slice A3 n3 c3, .slice A4 n4 c4]) (kp4 D0.out D1.out D2.out D3.out) HB0.out ?_
  refine tk 7 (.pointer (some ⟨w.heap.size, 3, none⟩)) HB0.out ?_
  refine tkf 8 (.slice (some ⟨b2, o2, none⟩) 2 c2) (kp1 G3.out) HB0.out ?_
  refine tk 9 (.pointer (some ⟨b2, o2 + 4, none⟩)) HB0.out ?_
  refine tkf 10 (.agg #[.int .i64 k1, .string ss1, .slice A5 n5 c5, .slice A6 n6 c6]) (kp4 E0.out E1.out E2.out E3.out) HB0.out ?_
  refine wpAnyH_ready (rs := [4]) (by kernel_rfl) (by simp) ?_
  refine AllReadyH.cons rfl (fun K hK => ?_) (AllReadyH.nil)
  go_simp
  have HB3 := hid (HB0.out.alloc HB0.out.size (.cells #[.int .i64 6] 3))
  refine hK.out _ _ HB3.out (fun _ => ?_)
  clear hK K
  try simp only [Act.put, List.getElem_toArray, List.getElem_cons_zero, List.getElem_cons_succ, List.setIfInBounds_toArray, List.set_cons_zero, List.set_cons_succ]
  refine wpAnyH_ready (rs := [5]) (by kernel_rfl) (by simp) ?_
  refine AllReadyH.cons rfl (fun K hK => ?_) (AllReadyH.nil)
  go_simp
  refine (HI.out _ HB3.out _ ((cell_of_row _ _ _ _ _ _ (heap_alloc_new W.drew _)).trans rfl)).mono ?_
  rintro e w2 ⟨rfl, hb⟩
  have HB2 := hid (HB3.out.trans (hb.mono HB3.out.size))
  clear hb
  refine hK.out _ _ HB2.out (fun _ => ?_)
  clear hK K
  try simp only [Act.put, List.getElem_toArray, List.getElem_cons_zero, List.getElem_cons_succ, List.setIfInBounds_toArray, List.set_cons_zero, List.set_cons_succ]
  refine tk 6 (.string ((⟨s.toArray⟩ : ByteArray) ++ ⟨#[32, 45, 62, 32]⟩)) HB2.out ?_
  refine wpAnyH_ready (rs := [11]) (by kernel_rfl) (by simp) ?_
  refine AllReadyH.cons rfl (fun K hK => ?_) (AllReadyH.nil)
  go_simp
  refine (HS.out _ HB2.out).mono ?_
  rintro e w4 ⟨rfl, hb⟩
  have HB4 := hid (HB2.out.trans (hb.mono HB2.out.size))
  clear hb
  refine hK.out _ _ HB4.out (fun _ => ?_)
  clear hK K
  try simp only [Act.put, List.getElem_toArray, List.getElem_cons_zero, List.getElem_cons_succ, List.setIfInBounds_toArray, List.set_cons_zero, List.set_cons_succ]
  refine tk 12 (.string ((⟨s.toArray⟩ : ByteArray) ++ ⟨#[32, 45, 62, 32]⟩ ++ ⟨u.toArray⟩)) HB4.out ?_
  refine tk 13 (.string ((⟨s.toArray⟩ : ByteArray) ++ ⟨#[32, 45, 62, 32]⟩ ++ ⟨u.toArray⟩)) HB4.out ?_
  refine wpAnyH_done (by kernel_rfl) ?_ _
  go_wp2_with fail
  go_ret
  refine ⟨?_, HB.out.trans (HB4.out.mono HB.out.size)⟩
  have e : (⟨s.toArray⟩ : ByteArray) ++ ⟨#[32, 45, 62, 32]⟩ ++ ⟨u.toArray⟩ = ⟨(s ++ ([32, 45, 62, 32] ++ u)).toArray⟩ := by
    rw [show (⟨#[32, 45, 62, 32]⟩ : ByteArray) = ⟨([32, 45, 62, 32] : Bt).toArray⟩ from rfl, str_append, str_append, List.append_assoc]
  exact congrArg (fun b => Ending.returned (Value.string b)) e
set_option maxRecDepth 100000 in
set_option maxHeartbeats 4000000 in
theorem show_k7 (nm : Bt) (ns : List Bt) (ks : List TyD) (ih : ∀ x ∈ ks, ShowC x) : ShowK 7 nm ns ks := by
  intro w z m hr hw hc
  obtain ⟨A1, c1, A2, c2, xk, rfl, s1, s2, r2⟩ := hr.parts
  have hlen := show_len _ m hw
  obtain ⟨q, rfl, h1, h2, h3⟩ := written_open hw
  obtain ⟨L, hL⟩ : ∃ L, L = List.zipWith (innerS [6, 7]) (ks.map TyD.kind) (showTs ks) := ⟨_, rfl⟩
  have HT0 : showT (.mk 7 nm ns ks) = joinS [32, 124, 32] L := by rw [hL, showT]; rfl
  rw [HT0] at hlen ⊢
  have hcl := cnts_len ks
  rw [cntT] at hc hlen
  have hll : L.length = ks.length := by rw [hL, List.length_zipWith, showTs_length, List.length_map]; omega
  have HGET : Hid (∀ (i : Nat) (h : i < ks.length) (h2 : i < L.length), L[i] = innerS [6, 7] ks[i].kind (showT ks[i])) := hid (by
    intro i h h2
    subst hL
    rw [List.getElem_zipWith]
    simp [showTs_map])
  obtain ⟨W1, hW1⟩ : ∃ W1, w.alloc (.cells #[.int .i64 7, sv nm, .slice A1 ns.length c1, .slice A2 ks.length c2] 32) = W1 := ⟨_, rfl⟩
  have hb1 : Below w.heap.size w W1 := by rw [← hW1]; exact (Below.refl _ _).alloc (Nat.le_refl _) _
  have l2 := (t_sl_len s2).2
  have HS := hid (And.intro (Sl.more (Sl.below s2 hb1) hb1.size) ((r2.keep hb1).more hb1.size))
  have HIH := hid ih
  have H2 := hid h2
  have HB1 := hid hb1
  obtain ⟨d, hd⟩ : ∃ d, ks.length = d := ⟨_, rfl⟩
  rw [hd] at hcl hll l2 HS hW1 ⊢
  have HD := hid hd
  have HCN := hid (fun (x : TyD) (hx : x ∈ ks) => cnt_mem hx)
  have HLEN := hid hlen
  have HW := hid hW1
  clear hr hw s1 s2 r2 h1 h2 h3 ih hb1 hL HT0 hd hlen hW1
  go_enter Tryz.func37, Tryz.ntmps37
  go_wp2_with fail
  have hW := HW.out
  rw [hW]
  clear hW
  go_loopw [3, 47] (fun v3 v47 wr => ∃ i : Nat, v47 = .int .i64 i ∧ i ≤ d ∧ OwnS wr W1.heap.size 9 v3 (L.take i) ∧ Below W1.heap.size W1 wr) (fun v3 v47 _ => d - (intOf v47).toNat)
  case atStart => exact ⟨0, rfl, by omega, OwnS.nil _ _ _, Below.refl _ _⟩
  case round =>
    obtain ⟨i, rfl, hi, hown, hbr⟩ := hrel
    have HOWN := hid hown
    have HB := hid hbr
    clear hown
    by_cases hlt : i < d
    · have hil : i < ks.length := by rw [HD.out]; exact hlt
      have hiL : i < L.length := by omega
      obtain ⟨b2, o2, kk, ss, A3, n3, c3, A4, n4, c4, rfl, hr1, e0, e1, e2, e3⟩ := elem_at (Sl.more (Sl.below HS.out.1 hbr) hbr.size) ((HS.out.2.keep hbr).more hbr.size) hil HD.out.symm
      obtain ⟨wB, hwB⟩ : ∃ wB, (wr.alloc (.cells #[.int .i64 kk, .string ss, .slice A3 n3 c3, .slice A4 n4 c4] 32)).alloc (.cells #[.int .i64 6, .int .i64 7] 3) = wB := ⟨_, rfl⟩
      have hbB : Below wr.heap.size wr wB := by rw [← hwB]; exact ((Below.refl _ _).alloc (Nat.le_refl _) _).alloc (by simp) _
      have hq : wB.heap[wr.heap.size + 1]? = some (.cells #[.int .i64 6, .int .i64 7] 3 (0, 0)) := by rw [← hwB]; exact (two_new wr _ _).2
      have HI := hid (tinner_any ks[i] (HIH.out _ (List.getElem_mem hil)) wB _ q (hr1.far (Nat.le_refl _) hbB) (H2.out _ (List.getElem_mem hil)) (by have := HCN.out _ (List.getElem_mem hil); omega) (wr.heap.size + 1) [6, 7] (by simp) (fun j hj => by
        have hj2 : j = 0 ∨ j = 1 := by simp at hj; omega
        rcases hj2 with rfl | rfl <;> exact (cell_of_row _ _ _ _ _ _ hq).trans rfl) (block_lt hq))
      rw [← HGET.out i hil hiL] at HI
      have HST := hid (t_take hiL)
      have HBB := hid hbB
      have HWB := hid hwB
      generalize L[i] = X at *
      generalize ks[i] = kx at *
      rw [← hwB] at HI
      clear hbr hr1 hbB hq hwB hil
      go_wp2_with fail
      refine HI.out.mono ?_
      rintro e w2 ⟨rfl, hb⟩
      rw [HWB.out] at hb
      have hbw2 := HBB.out.trans (hb.mono HBB.out.size)
      have hown2 := HOWN.out.below hbw2
      have hb2 := HB.out.trans (hbw2.mono HB.out.size)
      clear hb hbw2 e0 e1 e2 e3
      go_wp2_with (at_builtin; refine wpList_appS rfl (.tmp 51) (.tmp 55) _ rfl W1.heap.size el_str _ _ rfl rfl (hown2.alloc _) (ss_new w2 X _) (by simp; omega) (le_alloc hb2.size _) (fun v3 w3 hown3 hg3 hbk3 => ?_); have hb3 := below_appS (hb2.alloc hb2.size _) (hown2.alloc _) hg3 (Nat.le_refl _) (le_alloc hb2.size _); have HOWN3 := hid hown3; have HB3 := hid hb3; clear hown3 hb3 hown2 hb2 hg3 hbk3)
      go_roundw
      case rel => exact ⟨i + 1, rfl, by omega, by rw [HST.out]; exact HOWN3.out, HB3.out⟩
      case measure => simp [intOf]; omega
    · obtain rfl : i = d := by omega
      have hown := HOWN.out
      rw [List.take_of_length_le (by omega)] at hown
      obtain ⟨A5, n5, c5, rfl⟩ := t_sl_shape hown.ss
      have HJ := hid (join_any wr _ L [32, 124, 32] hown.ss (by omega) (by have := HLEN.out; omega))
      clear hown hbr hlt
      go_wp2_with fail
      refine HJ.out.mono ?_
      rintro e w2 ⟨rfl, hb⟩
      go_wp2_with fail
      go_ret
      exact ⟨rfl, HB1.out.trans ((HB.out.trans (hb.mono HB.out.size)).mono HB1.out.size)⟩
theorem show_all (t : TyD) : ShowC t := by
  induction h : cntT t using Nat.strongRecOn generalizing t with
  | _ n ih =>
    obtain ⟨k, nm, ns, ks⟩ := t
    have ihk : ∀ x ∈ ks, ShowC x := fun x hx => ih (cntT x) (by rw [← h, cntT]; have := cnt_mem hx; omega) x rfl
    intro w z m hr hw hc
    have hk : 0 ≤ k ∧ k ≤ 8 := by obtain ⟨q, rfl, h1, h2, h3⟩ := written_open hw; exact kind_range h3
    have hk2 : k = 0 ∨ k = 1 ∨ k = 2 ∨ k = 3 ∨ k = 4 ∨ k = 5 ∨ k = 6 ∨ k = 7 ∨ k = 8 := by omega
    rcases hk2 with rfl | rfl | rfl | rfl | rfl | rfl | rfl | rfl | rfl
    · exact show_k0 nm ns ks w z m hr hw hc
    · exact show_k1 nm ns ks w z m hr hw hc
    · exact show_k2 nm ns ks w z m hr hw hc
    · exact show_k3 nm ns ks w z m hr hw hc
    · exact show_k4 nm ns ks w z m hr hw hc
    · exact show_k5 nm ns ks ihk w z m hr hw hc
    · exact show_k6 nm ns ks ihk w z m hr hw hc
    · exact show_k7 nm ns ks ihk w z m hr hw hc
    · exact show_k8 nm ns ks w z m hr hw hc
end Go.Proofs.YtbpedjkebemhnaaGreatDoor
end
section
/- Types with commas between, a type behind a colon, a type as text. -/
set_option linter.unusedVariables false
namespace Go.Proofs.YtbpedjkebemhnaaGreatDoor
open Go.RowKit

/-- The contract of show, for good: a type of not too many. -/
theorem show_types {ts : List TyD} (h : ts.all (writtenB 16) = true) (hc : cntTs ts ≤ 100000) : (joinS [44, 32] (ts.map showT)).length ≤ 140737488355328 ∧ ts.length ≤ 1000000 ∧ (∀ x ∈ ts, writtenB 16 x = true ∧ cntT x ≤ 100000 ∧ (showT x).length ≤ 8000000) := by
  have h1 := shows_len ts 16 h
  have h2 := cnts_len ts
  have h3 := joinS_len [44, 32] (ts.map showT)
  rw [showTs_map] at h1
  rw [List.length_map] at h3
  simp only [List.length_cons, List.length_nil] at h3
  refine ⟨by omega, by omega, fun x hx => ?_⟩
  have h4 := List.all_eq_true.1 h x hx
  have h5 := cnt_mem hx
  have h6 := show_len x 16 h4
  exact ⟨h4, by omega, by omega⟩
set_option maxRecDepth 100000 in
set_option maxHeartbeats 2000000 in
theorem types1_any (w : World) (bt : Nat) (ts : List TyD) (A2 : Option Addr) (c2 : Nat) (xk : List Value) (hbt : w.cell? ⟨bt, 0, none⟩ = some (.slice A2 ts.length c2)) (s2 : Sl w w.heap.size 4 (.slice A2 ts.length c2) xk) (r2 : TysR w w.heap.size xk ts)
    (i : Nat) (hi : i < ts.length) (hw : writtenB 16 ts[i] = true) (hc : cntT ts[i] ≤ 100000) :
    Calls Tryz.prog 147 #[.int .i64 (i : Int), .pointer (some ⟨bt, 0, none⟩)] w fun e w' => e = .returned (sv (showT ts[i])) ∧ Below w.heap.size w w' := by
  obtain ⟨b2, o2, kk, ss, A3, n3, c3, A4, n4, c4, rfl, hr1, e0, e1, e2, e3⟩ := elem_at s2 r2 hi rfl
  have HS := hid (show_all ts[i] w _ 16 hr1 hw hc)
  have l2 := (t_sl_len s2).2
  generalize showT ts[i] = s at *
  clear s2 r2 hw hc hr1
  generalize ts.length = b at *
  go_enter Tryz.func147, Tryz.ntmps147
  go_wp2_with fail
  refine HS.out.mono ?_
  rintro e w2 ⟨rfl, hb⟩
  go_wp2_with fail
  go_ret
  exact ⟨rfl, hb⟩
set_option maxRecDepth 100000 in
set_option maxHeartbeats 2000000 in
theorem types_any (w : World) (ts : List TyD) (A2 : Option Addr) (c2 : Nat) (xk : List Value) (s2 : Sl w w.heap.size 4 (.slice A2 ts.length c2) xk) (r2 : TysR w w.heap.size xk ts) (hw : ts.all (writtenB 16) = true) (hc : cntTs ts ≤ 100000) :
    Calls Tryz.prog 123 #[.slice A2 ts.length c2] w fun e w' => e = .returned (sv (joinS [44, 32] (ts.map showT))) ∧ Below w.heap.size w w' := by
  obtain ⟨h1, h2, h3⟩ := show_types hw hc
  obtain ⟨W1, hW1⟩ : ∃ W1, W1 = w.alloc (.cells #[.slice A2 ts.length c2] 22) := ⟨_, rfl⟩
  have hb1 : Below w.heap.size w W1 := by rw [hW1]; exact (Below.refl _ _).alloc (Nat.le_refl _) _
  have hbx : W1.heap[w.heap.size]? = some (.cells #[.slice A2 ts.length c2] 22 (0, 0)) := by rw [hW1]; exact heap_alloc_new w _
  have hzl : (ts.map showT).length = ts.length := List.length_map ..
  have HL := list_any 147 (fun _ _ => by kernel_rfl) #[.pointer (some ⟨w.heap.size, 0, none⟩)] (ts.map showT) W1 (by omega) (by omega) (fun i hi w1 hb => by
    rw [hzl] at hi
    have hbw : Below w.heap.size w w1 := hb1.trans (hb.mono hb1.size)
    rw [List.getElem_map]
    have h5 := h3 _ (List.getElem_mem hi)
    exact types1_any w1 w.heap.size ts A2 c2 xk ((cell_of_row _ _ _ _ _ _ ((hb.block _ (block_lt hbx)).trans hbx)).trans rfl) (Sl.more (Sl.below s2 hbw) hbw.size) ((r2.keep hbw).more hbw.size) i hi h5.1 h5.2.1)
  rw [hzl] at HL
  have HL := hid HL
  have HB := hid hb1
  have HWE := hid hW1
  rw [hW1] at HL
  have hl2 := (t_sl_len s2).2
  generalize joinS [44, 32] (ts.map showT) = s at *
  have hmf : ∀ (fn : Fn) (first cap : Array Value) (w : World), (Instr.makeFunc fn first cap).run Tryz.prog w = .ok (.func fn first cap) w := fun _ _ _ _ => rfl
  clear s2 r2 hw hc h1 h2 h3 hW1 hb1 hbx hzl
  go_enter Tryz.func123, Tryz.ntmps123
  go_wp2_with fail
  refine HL.out.mono ?_
  rintro e w2 ⟨rfl, hb⟩
  rw [← HWE.out] at hb
  go_wp2_with fail
  go_ret
  exact ⟨rfl, HB.out.trans (hb.mono HB.out.size)⟩
set_option maxRecDepth 100000 in
set_option maxHeartbeats 2000000 in
theorem note_any (w : World) (ts : List TyD) (A2 : Option Addr) (c2 : Nat) (xk : List Value) (s2 : Sl w w.heap.size 4 (.slice A2 ts.length c2) xk) (r2 : TysR w w.heap.size xk ts) (hw : ts.all (writtenB 16) = true) (hc : cntTs ts ≤ 100000) (i : Nat) :
    Calls Tryz.prog 51 #[.slice A2 ts.length c2, .int .i64 (i : Int)] w fun e w' => e = .returned (sv (noteS ts i)) ∧ Below w.heap.size w w' := by
  have hl2 := (t_sl_len s2).2
  by_cases hi : i < ts.length
  · obtain ⟨h1, h2, h3⟩ := show_types hw hc
    have h5 := h3 _ (List.getElem_mem hi)
    obtain ⟨b2, o2, kk, ss, A3, n3, c3, A4, n4, c4, rfl, hr1, e0, e1, e2, e3⟩ := elem_at s2 r2 hi rfl
    have HS := hid (show_all ts[i] w _ 16 hr1 h5.1 h5.2.1)
    have HT : Hid (noteS ts i = [58, 32] ++ showT ts[i]) := hid (by unfold noteS; rw [List.getElem?_eq_getElem hi])
    have h6 := h5.2.2
    rw [HT.out]
    clear HT h5 h3 h2 h1 s2 r2 hw hc hr1
    generalize showT ts[i] = s at *
    generalize ts.length = b at *
    have hsz := sv_size s
    have q1 : ¬ (9223372036854775807 < 2 + s.length) := by omega
    have hni : ¬ (b : Int) ≤ i := by omega
    go_enter Tryz.func51, Tryz.ntmps51
    go_wp2_with fail
    refine HS.out.mono ?_
    rintro e w2 ⟨rfl, hb⟩
    go_wp2_with fail
    go_ret
    refine ⟨?_, hb⟩
    have e : (⟨#[58, 32]⟩ : ByteArray) ++ ⟨s.toArray⟩ = ⟨([58, 32] ++ s).toArray⟩ := by
      rw [show (⟨#[58, 32]⟩ : ByteArray) = ⟨([58, 32] : Bt).toArray⟩ from rfl, str_append]
    exact congrArg (fun b => Ending.returned (Value.string b)) e
  · have HT : Hid (noteS ts i = []) := hid (by unfold noteS; rw [List.getElem?_eq_none (by omega)])
    rw [HT.out]
    have hni : (ts.length : Int) ≤ i := by omega
    clear s2 r2 hw hc hi
    generalize ts.length = b at *
    go_enter Tryz.func51, Tryz.ntmps51
    go_wp2_with fail
    go_ret
    exact ⟨rfl, Below.refl _ _⟩
set_option maxRecDepth 100000 in
theorem ttype_any (w : World) (z : List Value) (t : TyD) (hr : TyR w w.heap.size z t) (hok : okT t) (hc : cntT t ≤ 100000) (hX : LaidT w) :
    Calls Tryz.prog 15 #[.agg z.toArray] w fun e w' => e = .returned (sv (typeS t)) ∧ Below w.heap.size w w' := by
  obtain ⟨k, s, A1, n1, c1, A2, n2, c2, rfl⟩ := hr.shape
  obtain ⟨W1, hW1⟩ : ∃ W1, W1 = w.alloc (.cells #[.int .i64 k, .string s, .slice A1 n1 c1, .slice A2 n2 c2] 32) := ⟨_, rfl⟩
  have hb1 : Below w.heap.size w W1 := by rw [hW1]; exact (Below.refl _ _).alloc (Nat.le_refl _) _
  have hbx : W1.heap[w.heap.size]? = some (.cells #[.int .i64 k, .string s, .slice A1 n1 c1, .slice A2 n2 c2] 32 (0, 0)) := by rw [hW1]; exact heap_alloc_new w _
  have HW := written_all 16 (by omega) W1 _ t (hr.far (Nat.le_refl _) hb1) hok (hX.below hb1)
  rw [hW1] at HW
  have HW := hid HW
  have HB := hid hb1
  have HWE := hid hW1
  have HBX := hid hbx
  have HR := hid hr
  clear hb1 hbx hr hX hW1 hok
  cases hq : writtenB 16 t with
  | false =>
    have HT : Hid (typeS t = []) := hid (by unfold typeS; rw [hq]; rfl)
    rw [hq] at HW
    rw [HT.out]
    clear hq HT
    go_enter Tryz.func15, Tryz.ntmps15
    go_wp2_with fail
    refine HW.out.mono ?_
    rintro e w2 ⟨rfl, hb⟩
    rw [← HWE.out] at hb
    go_wp2_with fail
    go_ret
    exact ⟨rfl, HB.out.trans (hb.mono HB.out.size)⟩
  | true =>
    have HT : Hid (typeS t = showT t) := hid (by unfold typeS; rw [hq]; rfl)
    rw [hq] at HW
    rw [HT.out]
    have HS : Hid (∀ w2, Below w.heap.size w w2 → Calls Tryz.prog 37 #[.agg [.int .i64 k, .string s, .slice A1 n1 c1, .slice A2 n2 c2].toArray] w2 fun e w' => e = .returned (sv (showT t)) ∧ Below w2.heap.size w2 w') := hid (fun w2 hb2 => show_all t w2 _ 16 (HR.out.far (Nat.le_refl _) hb2) hq hc)
    clear hq HT HR
    generalize showT t = u at *
    go_enter Tryz.func15, Tryz.ntmps15
    go_wp2_with fail
    refine HW.out.mono ?_
    rintro e w2 ⟨rfl, hb⟩
    rw [← HWE.out] at hb
    have HB2 := hid (HB.out.trans (hb.mono HB.out.size))
    obtain ⟨g0, g1, g2, g3⟩ := t_row4 ((hb.block _ (block_lt HBX.out)).trans HBX.out)
    clear hb
    go_wp2_with fail
    refine (HS.out _ HB2.out).mono ?_
    rintro e w3 ⟨rfl, hb3⟩
    go_wp2_with fail
    go_ret
    exact ⟨rfl, HB2.out.trans (hb3.mono HB2.out.size)⟩
end Go.Proofs.YtbpedjkebemhnaaGreatDoor
end
section
/- Variables for types as text: tree.vars. -/
set_option linter.unusedVariables false
namespace Go.Proofs.YtbpedjkebemhnaaGreatDoor
open Go.RowKit

theorem ty_kind {w : World} {B : Nat} {k : Int} {l : List Value} {t : TyD} (h : TyR w B (.int .i64 k :: l) t) : t.kind = k := by
  cases h; rfl
/-- A variable in a list: its cells. -/
theorem var_at {w : World} {B : Nat} {A : Option Addr} {n c : Nat} {xs : List Value} {l : List VaD} (hs : Sl w B 5 (.slice A n c) xs) (hr : TRow (VaR w B) 5 xs l) {i : Nat} (hi : i < l.length) (hn : n = l.length) :
    ∃ b o k s A1 n1 c1 A2 n2 c2, A = some ⟨b, o, none⟩ ∧ TyR w B [.int .i64 k, .string s, .slice A1 n1 c1, .slice A2 n2 c2] l[i].bound ∧ l[i].bound.kind = k ∧ w.cell? ⟨b, o + i * 5, none⟩ = some (sv l[i].name) ∧ w.cell? ⟨b, o + i * 5 + 1, none⟩ = some (.int .i64 k) ∧ w.cell? ⟨b, o + i * 5 + 2, none⟩ = some (.string s) ∧ w.cell? ⟨b, o + i * 5 + 3, none⟩ = some (.slice A1 n1 c1) ∧ w.cell? ⟨b, o + i * 5 + 4, none⟩ = some (.slice A2 n2 c2) := by
  obtain ⟨b, o, z, hA, hb, ⟨y, rfl, hy⟩, hc⟩ := row_at hs hr (by omega) hi hn
  obtain ⟨k, s, A1, n1, c1, A2, n2, c2, rfl⟩ := hy.shape
  exact ⟨b, o, k, s, A1, n1, c1, A2, n2, c2, hA, hy, ty_kind hy, by simpa using hc 0 _ rfl, hc 1 _ rfl, hc 2 _ rfl, hc 3 _ rfl, hc 4 _ rfl⟩
set_option maxRecDepth 100000 in
set_option maxHeartbeats 2000000 in
theorem vars1_any (w : World) (bt : Nat) (vs : List VaD) (A : Option Addr) (c : Nat) (xv : List Value) (hbt : w.cell? ⟨bt, 0, none⟩ = some (.slice A vs.length c)) (hs : Sl w w.heap.size 5 (.slice A vs.length c) xv) (hr : TRow (VaR w w.heap.size) 5 xv vs)
    (i : Nat) (hi : i < vs.length) (hw : writtenB 16 vs[i].bound = true) (hc : cntT vs[i].bound ≤ 100000) (hnm : vs[i].name.length ≤ 32) :
    Calls Tryz.prog 102 #[.int .i64 (i : Int), .pointer (some ⟨bt, 0, none⟩)] w fun e w' => e = .returned (sv (varS vs[i])) ∧ Below w.heap.size w w' := by
  obtain ⟨b1, o1, k, ss, A3, n3, c3, A4, n4, c4, rfl, hr1, hk, d0, e0, e1, e2, e3⟩ := var_at hs hr hi rfl
  have hlen := show_len vs[i].bound 16 hw
  have HS := hid (fun w1 (h : Below w.heap.size w w1) => show_all vs[i].bound w1 _ 16 (hr1.far (Nat.le_refl _) h) hw hc)
  have l1 := (t_sl_len hs).2
  have HV : Hid (varS vs[i] = if k = 0 then vs[i].name else vs[i].name ++ ([32, 60, 58, 32] ++ showT vs[i].bound)) := hid (by unfold varS; rw [hk])
  rw [HV.out]
  have hsz0 := sv_size vs[i].name
  have hsz1 := sv_size (showT vs[i].bound)
  clear HV hk hw hr1 hr hs
  generalize vs[i].name = X at *
  generalize showT vs[i].bound = s at *
  generalize cntT vs[i].bound = N at *
  generalize vs.length = a at *
  by_cases hk0 : k = 0
  · subst hk0
    have HT : Hid ((if (0 : Int) = 0 then X else X ++ ([32, 60, 58, 32] ++ s)) = X) := hid rfl
    rw [HT.out]
    clear HT hlen hc hnm
    go_enter Tryz.func102, Tryz.ntmps102
    go_wp2_with fail
    go_ret
    exact ⟨rfl, Below.refl _ _⟩
  have gk : (k == 0) = false := beq_eq_false_iff_ne.mpr hk0
  have HT : Hid ((if k = 0 then X else X ++ ([32, 60, 58, 32] ++ s)) = X ++ ([32, 60, 58, 32] : Bt) ++ s) := hid (by rw [if_neg hk0, List.append_assoc])
  rw [HT.out]
  clear hk0 HT
  have G0 := hid hbt
  have D0 := hid d0
  have E0 := hid e0
  have E1 := hid e1
  have E2 := hid e2
  have E3 := hid e3
  have HB0 : Hid (Below w.heap.size w w.drew) := hid (below_drawn w 1)
  have q0 : ¬ (9223372036854775807 < X.length + 4) := by omega
  have q1 : ¬ (9223372036854775807 < X.length + 4 + s.length) := by omega
  clear hc hlen hnm d0 e1 e2 e3
  go_enter Tryz.func102, Tryz.ntmps102
  go_wp2_with fail
  refine wp_region_held_drew (S := fun w' => Below w.heap.size w w') (by kernel_rfl) HB0.out (fun _ => ?_)
  try simp only [Act.put, List.getElem_toArray, List.getElem_cons_zero, List.getElem_cons_succ, List.setIfInBounds_toArray, List.set_cons_zero, List.set_cons_succ]
  refine tkf 0 (.slice (some ⟨b1, o1, none⟩) a c) (kp1 G0.out) HB0.out ?_
  refine tk 1 (.int .i64 (i : Int)) HB0.out ?_
  refine tk 2 (.pointer (some ⟨b1, o1 + i * 5, none⟩)) HB0.out ?_
  refine tk 3 (.pointer (some ⟨b1, o1 + i * 5, none⟩)) HB0.out ?_
  refine tkf 4 (sv X) (kp1 D0.out) HB0.out ?_
  refine tk 5 (.string ((⟨X.toArray⟩ : ByteArray) ++ ⟨#[32, 60, 58, 32]⟩)) HB0.out ?_
  refine tkf 6 (.slice (some ⟨b1, o1, none⟩) a c) (kp1 G0.out) HB0.out ?_
  refine tk 7 (.int .i64 (i : Int)) HB0.out ?_
  refine tk 8 (.pointer (some ⟨b1, o1 + i * 5, none⟩)) HB0.out ?_
  refine tk 9 (.pointer (some ⟨b1, o1 + i * 5 + 1, none⟩)) HB0.out ?_
  refine tkf 10 (.agg #[.int .i64 k, .string ss, .slice A3 n3 c3, .slice A4 n4 c4]) (kp4 E0.out E1.out E2.out E3.out) HB0.out ?_
  refine wpAnyH_ready (rs := [11]) (by kernel_rfl) (by simp) ?_
  refine AllReadyH.cons rfl (fun K hK => ?_) (AllReadyH.nil)
  go_simp
  refine (HS.out _ HB0.out).mono ?_
  rintro e w2 ⟨rfl, hb⟩
  have HB2 := hid (HB0.out.trans (hb.mono HB0.out.size))
  clear hb
  refine hK.out _ _ HB2.out (fun _ => ?_)
  clear hK K
  try simp only [Act.put, List.getElem_toArray, List.getElem_cons_zero, List.getElem_cons_succ, List.setIfInBounds_toArray, List.set_cons_zero, List.set_cons_succ]
  refine tk 12 (.string ((⟨X.toArray⟩ : ByteArray) ++ ⟨#[32, 60, 58, 32]⟩ ++ ⟨s.toArray⟩)) HB2.out ?_
  refine tk 13 (.string ((⟨X.toArray⟩ : ByteArray) ++ ⟨#[32, 60, 58, 32]⟩ ++ ⟨s.toArray⟩)) HB2.out ?_
  refine wpAnyH_done (by kernel_rfl) ?_ _
  go_wp2_with fail
  go_ret
  refine ⟨?_, HB2.out⟩
  have e : (⟨X.toArray⟩ : ByteArray) ++ ⟨([32, 60, 58, 32] : Bt).toArray⟩ ++ ⟨s.toArray⟩ = ⟨(X ++ ([32, 60, 58, 32] : Bt) ++ s).toArray⟩ := by
    rw [str_append, str_append]
  exact congrArg (fun b => Ending.returned (Value.string b)) e
set_option maxRecDepth 100000 in
set_option maxHeartbeats 2000000 in
theorem vars_any (w : World) (vs : List VaD) (A : Option Addr) (c : Nat) (xv : List Value) (hs : Sl w w.heap.size 5 (.slice A vs.length c) xv) (hr : TRow (VaR w w.heap.size) 5 xv vs)
    (hw : ∀ v ∈ vs, writtenB 16 v.bound = true ∧ cntT v.bound ≤ 100000 ∧ v.name.length ≤ 32) (hn : vs.length ≤ 1000000) (hlen : (joinS [44, 32] (vs.map varS)).length ≤ 1000000000000) :
    Calls Tryz.prog 50 #[.slice A vs.length c] w fun e w' => e = .returned (sv (varsS vs)) ∧ Below w.heap.size w w' := by
  obtain ⟨W1, hW1⟩ : ∃ W1, W1 = w.alloc (.cells #[.slice A vs.length c] 63) := ⟨_, rfl⟩
  have hb1 : Below w.heap.size w W1 := by rw [hW1]; exact (Below.refl _ _).alloc (Nat.le_refl _) _
  have hbx : W1.heap[w.heap.size]? = some (.cells #[.slice A vs.length c] 63 (0, 0)) := by rw [hW1]; exact heap_alloc_new w _
  have hl1 := (t_sl_len hs).2
  by_cases h0 : vs.length = 0
  · have HT : Hid (varsS vs = []) := hid (by rw [List.eq_nil_of_length_eq_zero h0]; rfl)
    rw [HT.out, h0]
    rw [hW1, h0] at hb1
    have HB := hid hb1
    clear hW1 hb1 hbx hs hr hw
    go_enter Tryz.func50, Tryz.ntmps50
    go_wp2_with fail
    go_ret
    exact ⟨rfl, HB.out⟩
  have HT : Hid (varsS vs = ([91] : Bt) ++ joinS [44, 32] (vs.map varS) ++ ([93] : Bt)) := hid (by
    unfold varsS
    cases vs with
    | nil => simp at h0
    | cons v vs => simp)
  rw [HT.out]
  have hzl : (vs.map varS).length = vs.length := List.length_map ..
  have HL := list_any 102 (fun _ _ => by kernel_rfl) #[.pointer (some ⟨w.heap.size, 0, none⟩)] (vs.map varS) W1 (by omega) (by omega) (fun i hi w1 hb => by
    rw [hzl] at hi
    have hbw : Below w.heap.size w w1 := hb1.trans (hb.mono hb1.size)
    rw [List.getElem_map]
    have h5 := hw _ (List.getElem_mem hi)
    exact vars1_any w1 w.heap.size vs A c xv ((cell_of_row _ _ _ _ _ _ ((hb.block _ (block_lt hbx)).trans hbx)).trans rfl) (Sl.more (Sl.below hs hbw) hbw.size) (hr.imp fun _ _ h => (h.keep hbw).more hbw.size) i hi h5.1 h5.2.1 h5.2.2)
  rw [hzl] at HL
  have HL := hid HL
  have HB := hid hb1
  have HWE := hid hW1
  rw [hW1] at HL
  have hl2 := (t_sl_len hs).2
  have gz : ((vs.length : Int) == 0) = false := beq_eq_false_iff_ne.mpr (by omega)
  generalize joinS [44, 32] (vs.map varS) = s at *
  have hsz := sv_size s
  have q0 : ¬ (9223372036854775807 < 1 + s.length) := by omega
  have q1 : ¬ (9223372036854775807 < 1 + s.length + 1) := by omega
  have hmf : ∀ (fn : Fn) (first cap : Array Value) (w : World), (Instr.makeFunc fn first cap).run Tryz.prog w = .ok (.func fn first cap) w := fun _ _ _ _ => rfl
  clear hs hr hw hW1 hb1 hbx hzl HT h0
  generalize vs.length = a at *
  go_enter Tryz.func50, Tryz.ntmps50
  go_wp2_with fail
  refine HL.out.mono ?_
  rintro e w2 ⟨rfl, hb⟩
  rw [← HWE.out] at hb
  go_wp2_with fail
  go_ret
  refine ⟨?_, HB.out.trans (hb.mono HB.out.size)⟩
  have e : (⟨([91] : Bt).toArray⟩ : ByteArray) ++ ⟨s.toArray⟩ ++ ⟨([93] : Bt).toArray⟩ = ⟨(([91] : Bt) ++ s ++ ([93] : Bt)).toArray⟩ := by rw [str_append, str_append]
  exact congrArg (fun b => Ending.returned (Value.string b)) e
end Go.Proofs.YtbpedjkebemhnaaGreatDoor
end
section
/- May a function be printed: tree.decl. -/
set_option linter.unusedVariables false
namespace Go.Proofs.YtbpedjkebemhnaaGreatDoor
open Go.RowKit

theorem t_row15 {w : World} {b : Nat} {x0 x1 x2 x3 x4 x5 x6 x7 x8 x9 x10 x11 x12 x13 x14 : Value} {T : TypeId} (h : w.heap[b]? = some (.cells #[x0, x1, x2, x3, x4, x5, x6, x7, x8, x9, x10, x11, x12, x13, x14] T (0, 0))) :
    w.cell? ⟨b, 0, none⟩ = some x0 ∧ w.cell? ⟨b, 1, none⟩ = some x1 ∧ w.cell? ⟨b, 2, none⟩ = some x2 ∧ w.cell? ⟨b, 3, none⟩ = some x3 ∧ w.cell? ⟨b, 4, none⟩ = some x4 ∧ w.cell? ⟨b, 5, none⟩ = some x5 ∧ w.cell? ⟨b, 6, none⟩ = some x6 ∧ w.cell? ⟨b, 7, none⟩ = some x7 ∧ w.cell? ⟨b, 8, none⟩ = some x8 ∧ w.cell? ⟨b, 9, none⟩ = some x9 ∧ w.cell? ⟨b, 10, none⟩ = some x10 ∧ w.cell? ⟨b, 11, none⟩ = some x11 ∧ w.cell? ⟨b, 12, none⟩ = some x12 ∧ w.cell? ⟨b, 13, none⟩ = some x13 ∧ w.cell? ⟨b, 14, none⟩ = some x14 :=
  ⟨(cell_of_row _ _ _ _ _ _ h).trans rfl, (cell_of_row _ _ _ _ _ _ h).trans rfl, (cell_of_row _ _ _ _ _ _ h).trans rfl, (cell_of_row _ _ _ _ _ _ h).trans rfl, (cell_of_row _ _ _ _ _ _ h).trans rfl, (cell_of_row _ _ _ _ _ _ h).trans rfl, (cell_of_row _ _ _ _ _ _ h).trans rfl, (cell_of_row _ _ _ _ _ _ h).trans rfl, (cell_of_row _ _ _ _ _ _ h).trans rfl, (cell_of_row _ _ _ _ _ _ h).trans rfl, (cell_of_row _ _ _ _ _ _ h).trans rfl, (cell_of_row _ _ _ _ _ _ h).trans rfl, (cell_of_row _ _ _ _ _ _ h).trans rfl, (cell_of_row _ _ _ _ _ _ h).trans rfl, (cell_of_row _ _ _ _ _ _ h).trans rfl⟩
theorem ty_one {w : World} {B : Nat} {x : List Value} {t : TyD} (h : TyR w B x t) : ∀ u ∈ x, u.oneCell' = true := by
  obtain ⟨k, s, A1, n1, c1, A2, n2, c2, rfl⟩ := h.shape
  intro u hu
  simp only [List.mem_cons, List.not_mem_nil, or_false] at hu
  rcases hu with rfl | rfl | rfl | rfl <;> rfl
theorem tys_one {w : World} {B : Nat} : ∀ {x : List Value} {l : List TyD}, TysR w B x l → ∀ u ∈ x, u.oneCell' = true
  | _, _, .nil => by simp
  | _, _, .cons h1 h2 => fun u hu => by
    rcases List.mem_append.1 hu with hu | hu
    · exact ty_one h1 u hu
    · exact tys_one h2 u hu
theorem tys_snoc {w : World} {B : Nat} {y : List Value} {t : TyD} (ht : TyR w B y t) : ∀ {x : List Value} {l : List TyD}, TysR w B x l → TysR w B (x ++ y) (l ++ [t])
  | _, _, .nil => by have := TysR.cons ht .nil; simpa using this
  | _, _, .cons h1 h2 => by rw [List.append_assoc, List.cons_append]; exact .cons h1 (tys_snoc ht h2)
set_option maxRecDepth 100000 in
theorem decl1_any (w : World) (z : List Value) (t : TyD) (hr : TyR w w.heap.size z t) (hok : okT t) (hX : LaidT w) :
    Calls Tryz.prog 96 #[.agg z.toArray] w fun e w' => e = .returned (.bool (!writtenB 16 t)) ∧ Below w.heap.size w w' := by
  have hr0 := hr
  obtain ⟨k, s, A1, n1, c1, A2, n2, c2, rfl⟩ := hr.shape
  have hb1 : Below w.heap.size w (w.alloc (.cells #[.int .i64 k, .string s, .slice A1 n1 c1, .slice A2 n2 c2] 32)) := (Below.refl _ _).alloc (Nat.le_refl _) _
  have HI := hid (written_all 16 (by omega) _ _ t (hr0.far (Nat.le_refl _) hb1) hok (hX.below hb1))
  have HB := hid hb1
  clear hr hr0 hX hb1 hok
  generalize writtenB 16 t = b at *
  go_enter Tryz.func96, Tryz.ntmps96
  go_wp2_with fail
  refine HI.out.mono ?_
  rintro e w2 ⟨rfl, hb⟩
  go_wp2_with fail
  go_ret
  exact ⟨rfl, HB.out.trans (hb.mono HB.out.size)⟩
theorem any_not {α : Type} (p : α → Bool) (l : List α) : (l.any fun x => !p x) = !l.all p := by
  induction l with
  | nil => rfl
  | cons x l ih => rw [List.any_cons, List.all_cons, ih]; cases p x <;> simp
set_option maxRecDepth 100000 in
set_option maxHeartbeats 8000000 in
theorem tdecl_any (d : DeD) (w : World) (z : List Value) (hr : DeR w w.heap.size z d) (hok : okD d) (hX : LaidT w) (hv : d.vars.length ≤ 100000) (hcn : cntN d.body ≤ 100000) :
    Calls Tryz.prog 45 #[.agg z.toArray] w fun e w' => e = .returned (.bool (declB d)) ∧ Below w.heap.size w w' := by
  obtain ⟨A1, c1, A2, c2, k, s, n, l, c, A3, n3, c3, A4, n4, c4, A5, n5, c5, xv, xt, rfl, s1, r1, s2, r2, r3⟩ := hr.parts
  obtain ⟨ok1, ok2, ok3, ok4, ok5, ok6, ok7⟩ := hok
  have hres : declB d = (nameL d.name && nameL d.param && d.types.length == 2 && nodeB 25 d.body && d.vars.all (fun v => nameL v.name) && d.types.all (writtenB 16) && d.vars.all (fun v => writtenB 16 v.bound)) := rfl
  obtain ⟨res, hre⟩ : ∃ res, declB d = res := ⟨_, rfl⟩
  rw [hre] at hres ⊢
  have HRES := hid hres
  clear hres hre hr
  have l1 := (t_sl_len s1).2
  have l2 := (t_sl_len s2).2
  obtain ⟨nm, hnm⟩ : ∃ x, d.name = x := ⟨_, rfl⟩
  obtain ⟨pm, hpm⟩ : ∃ x, d.param = x := ⟨_, rfl⟩
  obtain ⟨ex, hex⟩ : ∃ x, d.exp = x := ⟨_, rfl⟩
  obtain ⟨dl, hdl⟩ : ∃ x, d.line = x := ⟨_, rfl⟩
  obtain ⟨dc, hdc⟩ : ∃ x, d.col = x := ⟨_, rfl⟩
  obtain ⟨vs, hvs⟩ : ∃ x, d.vars = x := ⟨_, rfl⟩
  obtain ⟨ts, hts⟩ : ∃ x, d.types = x := ⟨_, rfl⟩
  obtain ⟨bd, hbd⟩ : ∃ x, d.body = x := ⟨_, rfl⟩
  rw [hnm, hpm, hts, hbd, hvs] at HRES
  rw [hnm] at ok1
  rw [hpm] at ok3
  rw [hvs] at s1 r1 l1 hv ok2
  rw [hts] at s2 r2 l2 ok4
  rw [hbd] at r3 ok5 hcn
  rw [hnm, hpm, hex, hdl, hdc, hvs, hts]
  clear hnm hpm hex hdl hdc hvs hts hbd ok6 ok7
  clear d
  obtain ⟨a, hA⟩ : ∃ a, vs.length = a := ⟨_, rfl⟩
  obtain ⟨b, hB⟩ : ∃ b, ts.length = b := ⟨_, rfl⟩
  rw [hA] at s1 l1 hv ⊢
  rw [hB] at s2 l2 HRES ⊢
  have HA := hid hA
  have HBL := hid hB
  clear hA hB
  obtain ⟨W, hW⟩ : ∃ W, w.alloc (.cells #[sv nm, .bool ex, .slice A1 a c1, sv pm, .slice A2 b c2, .int .i64 k, .string s, .int .i64 n, .int .i64 l, .int .i64 c, .slice A3 n3 c3, .slice A4 n4 c4, .slice A5 n5 c5, .int .i64 dl, .int .i64 dc] 65) = W := ⟨_, rfl⟩
  have hb1 : Below w.heap.size w W := by rw [← hW]; exact (Below.refl _ _).alloc (Nat.le_refl _) _
  have HBX : Hid (W.heap[w.heap.size]? = some (.cells #[sv nm, .bool ex, .slice A1 a c1, sv pm, .slice A2 b c2, .int .i64 k, .string s, .int .i64 n, .int .i64 l, .int .i64 c, .slice A3 n3 c3, .slice A4 n4 c4, .slice A5 n5 c5, .int .i64 dl, .int .i64 dc] 65 (0, 0))) := hid (by rw [← hW]; exact heap_alloc_new w _)
  have HX := hid (fun (w1 : World) (h : Below W.heap.size W w1) => (hX.below hb1).below h)
  have HN := hid (fun (w1 : World) (h : Below W.heap.size W w1) => name_all w1 nm (HX.out w1 h) ok1)
  have HP := hid (fun (w1 : World) (h : Below W.heap.size W w1) => name_all w1 pm (HX.out w1 h) ok3)
  have HD := hid (fun (w1 : World) (h : Below W.heap.size W w1) => node_all 25 (by omega) w1 _ bd (r3.far (Nat.le_refl _) (hb1.trans (h.mono hb1.size))) ok5 (HX.out w1 h))
  have HV := hid (And.intro (Sl.more (Sl.below s1 hb1) hb1.size) (r1.imp fun _ _ h => (h.keep hb1).more hb1.size))
  have HT := hid (And.intro (Sl.more (Sl.below s2 hb1) hb1.size) ((r2.keep hb1).more hb1.size))
  have HOV := hid ok2
  have HOT := hid ok4
  have HB1 := hid hb1
  have HWE := hid hW
  clear s1 r1 s2 r2 r3 ok1 ok2 ok3 ok4 ok5 hX hb1 hW hcn
  generalize nameL nm = b1 at *
  generalize nameL pm = b2 at *
  generalize nodeB 25 bd = b4 at *
  have hW := HWE.out
  obtain ⟨g0, g1, g2, g3, g4, g5, g6, g7, g8, g9, g10, g11, g12, g13, g14⟩ := t_row15 HBX.out
  go_enter Tryz.func45, Tryz.ntmps45
  go_wp2_with fail
  clear hW
  clear g0 g1 g2 g3 g4 g5 g6 g7 g8 g9 g10 g11 g12 g13 g14
  refine (HN.out _ (Below.refl _ _)).mono ?_
  rintro e w2 ⟨rfl, hb⟩
  have HB2 := hid hb
  clear hb
  obtain ⟨g0, g1, g2, g3, g4, g5, g6, g7, g8, g9, g10, g11, g12, g13, g14⟩ := t_row15 ((HB2.out.block _ (block_lt HBX.out)).trans HBX.out)
  cases b1 with
  | false =>
    have HF : Hid (res = false) := hid (by rw [HRES.out]; rfl)
    go_wp2_with fail
    go_ret
    exact ⟨by rw [HF.out]; rfl, HB1.out.trans (HB2.out.mono HB1.out.size)⟩
  | true =>
  go_wp2_with fail
  refine (HP.out _ HB2.out).mono ?_
  rintro e w3 ⟨rfl, hb⟩
  have HB3 := hid (HB2.out.trans (hb.mono HB2.out.size))
  clear hb g0 g1 g2 g3 g4 g5 g6 g7 g8 g9 g10 g11 g12 g13 g14
  obtain ⟨g0, g1, g2, g3, g4, g5, g6, g7, g8, g9, g10, g11, g12, g13, g14⟩ := t_row15 ((HB3.out.block _ (block_lt HBX.out)).trans HBX.out)
  cases b2 with
  | false =>
    have HF : Hid (res = false) := hid (by rw [HRES.out]; simp)
    go_wp2_with fail
    go_ret
    exact ⟨by rw [HF.out]; rfl, HB1.out.trans (HB3.out.mono HB1.out.size)⟩
  | true =>
  by_cases h2 : b = 2
  case neg =>
    have HF : Hid (res = false) := hid (by rw [HRES.out, beq_eq_false_iff_ne.mpr h2]; simp)
    have q2 : ((b : Int) != 2) = true := by rw [bne_iff_ne]; omega
    clear h2
    go_wp2_with fail
    go_ret
    exact ⟨by rw [HF.out]; rfl, HB1.out.trans (HB3.out.mono HB1.out.size)⟩
  subst h2
  go_wp2_with fail
  refine (HD.out _ HB3.out).mono ?_
  rintro e w4 ⟨rfl, hb⟩
  have HB4 := hid (HB3.out.trans (hb.mono HB3.out.size))
  clear hb g0 g1 g2 g3 g4 g5 g6 g7 g8 g9 g10 g11 g12 g13 g14
  obtain ⟨g0, g1, g2, g3, g4, g5, g6, g7, g8, g9, g10, g11, g12, g13, g14⟩ := t_row15 ((HB4.out.block _ (block_lt HBX.out)).trans HBX.out)
  cases b4 with
  | false =>
    have HF : Hid (res = false) := hid (by rw [HRES.out]; simp)
    go_wp2_with fail
    go_ret
    exact ⟨by rw [HF.out]; rfl, HB1.out.trans (HB4.out.mono HB1.out.size)⟩
  | true =>
  have HRR : Hid (res = (vs.all (fun v => nameL v.name) && (ts ++ vs.map VaD.bound).all (writtenB 16))) := hid (by rw [HRES.out, List.all_append, List.all_map]; simp [Bool.and_assoc]; rfl)
  go_wp2_with fail
  refine (clone_types w4 _ xt 2 (Sl.more (Sl.below HT.out.1 HB4.out) HB4.out.size) (by have := HT.out.2.length; rw [HBL.out] at this; exact this) (by omega) (tys_one HT.out.2)).mono ?_
  rintro e w5 ⟨v0, n0, rfl, hown, hb⟩
  have HB5 := hid (HB4.out.trans (hb.mono HB4.out.size))
  have HOWN := hid (own_base hown HB4.out.size)
  clear hb hown g0 g1 g2 g3 g4 g5 g6 g7 g8 g9 g10 g11 g12 g13 g14
  obtain ⟨g0, g1, g2, g3, g4, g5, g6, g7, g8, g9, g10, g11, g12, g13, g14⟩ := t_row15 ((HB5.out.block _ (block_lt HBX.out)).trans HBX.out)
  obtain ⟨Av, nv, cv, rfl⟩ := own_shape0 HOWN.out
  go_wp2_with fail
  clear g0 g1 g2 g3 g4 g5 g6 g7 g8 g9 g10 g11 g12 g13 g14
  go_loopw [3, 34] (fun v3 v34 wr => ∃ (i m : Nat) (xs : List Value), v34 = .int .i64 i ∧ i ≤ a ∧ wr.ownsRow W.heap.size 32 4 v3 m xs ∧ TysR wr W.heap.size xs (ts ++ (vs.take i).map VaD.bound) ∧ (vs.take i).all (fun v => nameL v.name) = true ∧ Below W.heap.size W wr) (fun v3 v34 _ => a - (intOf v34).toNat)
  case atStart => exact ⟨0, _, xt, rfl, by omega, HOWN.out, by simpa using HT.out.2.keep HB5.out, rfl, HB5.out⟩
  case round =>
    obtain ⟨i, m, xs, rfl, hi, hown, htr, hall, hbr⟩ := hrel
    have HOW := hid hown
    have HTR := hid htr
    have HAL := hid hall
    have HBR := hid hbr
    obtain ⟨Aw, nw, cw, rfl⟩ := own_shape0 hown
    clear hown htr hall
    by_cases hlt : i < a
    · have hil : i < vs.length := by rw [HA.out]; exact hlt
      obtain ⟨b2, o2, kk, ss, A6, n6, c6, A7, n7, c7, hA6, hr1, hkk, d0, e0, e1, e2, e3⟩ := var_at (Sl.more (Sl.below HV.out.1 hbr) hbr.size) (HV.out.2.imp fun _ _ h => (h.keep hbr).more hbr.size) hil HA.out.symm
      obtain ⟨wA, hwA⟩ : ∃ wA, wr.alloc (.cells #[sv vs[i].name, .int .i64 kk, .string ss, .slice A6 n6 c6, .slice A7 n7 c7] 67) = wA := ⟨_, rfl⟩
      have hbA : Below wr.heap.size wr wA := by rw [← hwA]; exact (Below.refl _ _).alloc (Nat.le_refl _) _
      have HSA : Hid (wA.heap[wr.heap.size]? = some (.cells #[sv vs[i].name, .int .i64 kk, .string ss, .slice A6 n6 c6, .slice A7 n7 c7] 67 (0, 0))) := hid (by rw [← hwA]; exact heap_alloc_new wr _)
      have HNI := hid (name_all wA vs[i].name (HX.out wA (hbr.trans (hbA.mono hbr.size))) (HOV.out _ (List.getElem_mem hil)).1)
      have HR1 : Hid (TyR W W.heap.size [.int .i64 kk, .string ss, .slice A6 n6 c6, .slice A7 n7 c7] vs[i].bound) := hid (by
        obtain ⟨b9, o9, k9, s9, A8, n8, c8, A9, n9, c9, hA9, hr9, hk9, x0, x1, x2, x3, x4⟩ := var_at HV.out.1 HV.out.2 hil HA.out.symm
        rw [hA6] at hA9
        injection hA9 with hA9
        injection hA9 with hb9 ho9
        subst hb9 ho9
        have hlb : b2 < W.heap.size := World.block_lt_of_cell? W _ x0
        have f1 := e0.symm.trans ((hbr.cell (p := ⟨b2, o2 + i * 5 + 1, none⟩) hlb).trans x1)
        have f2 := e1.symm.trans ((hbr.cell (p := ⟨b2, o2 + i * 5 + 2, none⟩) hlb).trans x2)
        have f3 := e2.symm.trans ((hbr.cell (p := ⟨b2, o2 + i * 5 + 3, none⟩) hlb).trans x3)
        have f4 := e3.symm.trans ((hbr.cell (p := ⟨b2, o2 + i * 5 + 4, none⟩) hlb).trans x4)
        injection f1 with f1
        injection f2 with f2
        injection f3 with f3
        injection f4 with f4
        rw [f1, f2, f3, f4]
        exact hr9)
      have HBA := hid hbA
      have HST := hid (t_take hil)
      have HALX : Hid (nameL vs[i].name = false → vs.all (fun v => nameL v.name) = false) := hid (fun hq => by
        cases h : vs.all (fun v => nameL v.name) with
        | false => rfl
        | true => rw [List.all_eq_true] at h; rw [h _ (List.getElem_mem hil)] at hq; cases hq)
      have HALY : Hid (nameL vs[i].name = true → (vs.take (i + 1)).all (fun v => nameL v.name) = true) := hid (fun hq => by
        rw [HST.out, List.all_append, HAL.out]
        simp [hq])
      have hq0 : ∃ q, nameL vs[i].name = q := ⟨_, rfl⟩
      obtain ⟨q, hq⟩ := hq0
      rw [hq] at HNI
      have HQ := hid hq
      have HWA := hid hwA
      generalize vs[i].name = X at *
      clear hr1 hkk hbA hbr hq
      subst hA6
      obtain ⟨f0, f1, f2, f3, f4⟩ := t_row5 HSA.out
      go_wp2_with fail
      clear hwA d0 e0 e1 e2 e3 f0 f1 f2 f3 f4
      refine HNI.out.mono ?_
      rintro e w6 ⟨rfl, hb⟩
      obtain ⟨u0, u1, u2, u3, u4⟩ := t_row5 ((hb.block _ (block_lt HSA.out)).trans HSA.out)
      have HB6 := hid (HBR.out.trans ((HBA.out.trans (hb.mono HBA.out.size)).mono HBR.out.size))
      have hbw : Below wr.heap.size wr w6 := HBA.out.trans (hb.mono HBA.out.size)
      have HO6 := hid (own_below HOW.out hbw)
      have HBW := hid (hbw.mono HBR.out.size)
      clear hb hbw
      cases q with
      | false =>
        have HF : Hid (res = false) := hid (by rw [HRR.out, HALX.out HQ.out]; rfl)
        go_wp2_with fail
        go_ret
        exact ⟨by rw [HF.out]; rfl, HB1.out.trans (HB6.out.mono HB1.out.size)⟩
      | true =>
        have hm : m * 4 ≤ 800008 := by
          have h5 := HTR.out.length
          rw [List.length_append, List.length_map, List.length_take, HBL.out] at h5
          have h6 := HOW.out.1
          omega
        have hxl : xs.length = m * 4 := HOW.out.1
        go_wp2_with (at_builtin; go_must (refine wpList_app rfl (.tmp 42) (.tmp 45) _ rfl W.heap.size el_type _ _ rfl rfl (HO6.out.alloc _) (sl_new w6 #[.int .i64 kk, .string ss, .slice A6 n6 c6, .slice A7 n7 c7] 32 4 1 rfl (by decide)) (ty_one HR1.out) (by unfold maxLen; simp; omega) (by simp; omega) (le_alloc HB6.out.size _) (fun v7 w7 n7' hown7 hg7 hbk7 => ?_)); obtain ⟨Ax, nx, cx, rfl⟩ := own_shape0 hown7; have HO7 := hid hown7; have HB7 := hid (below_app (HB6.out.alloc HB6.out.size _) (HO6.out.alloc _) hg7 (Nat.le_refl _) (le_alloc HB6.out.size _)); have HB8 := hid (below_app (HBW.out.alloc HB6.out.size _) (HO6.out.alloc _) hg7 (Nat.le_refl _) (le_alloc HB6.out.size _)); clear hown7 hg7 hbk7)
        go_roundw
        case rel =>
          refine ⟨i + 1, _, _, rfl, by omega, HO7.out, ?_, ?_, HB7.out⟩
          · rw [HST.out, List.map_append, ← List.append_assoc]
            exact tys_snoc (HR1.out.keep HB7.out) ((HTR.out.keep HB8.out))
          · exact HALY.out HQ.out
        case measure => simp [intOf]; omega
    · obtain rfl : i = a := by omega
      have hfull : vs.take i = vs := List.take_of_length_le (by rw [HA.out]; omega)
      have HC := hid (contains_types 96 (fun _ _ => by kernel_rfl) #[] (fun t => !writtenB 16 t) _ (ts ++ vs.map VaD.bound) xs wr (Sl.of_own HOW.out) (by have := HTR.out; rw [hfull] at this; exact this.more HBR.out.size) (fun y hy w1 z hb hz => by
        have hok : okT y := by
          rcases List.mem_append.1 hy with hy | hy
          · exact HOT.out y hy
          · obtain ⟨v, hv, rfl⟩ := List.mem_map.1 hy
            exact (HOV.out v hv).2
        exact decl1_any w1 z y hz hok (HX.out w1 (HBR.out.trans (hb.mono HBR.out.size)))))
      rw [any_not] at HC
      have HR9 : Hid (res = (ts ++ vs.map VaD.bound).all (writtenB 16)) := hid (by
        have h := HAL.out
        rw [hfull] at h
        rw [HRR.out, h, Bool.true_and])
      generalize (ts ++ vs.map VaD.bound).all (writtenB 16) = q at *
      clear hbr hlt hfull
      go_wp2_with fail
      refine HC.out.mono ?_
      rintro e w6 ⟨rfl, hb⟩
      go_wp2_with fail
      go_ret
      refine ⟨by rw [HR9.out]; simp, HB1.out.trans ((HBR.out.trans (hb.mono HBR.out.size)).mono HB1.out.size)⟩
theorem may1_any (d : DeD) (w : World) (z : List Value) (hr : DeR w w.heap.size z d) (hok : okD d) (hX : LaidT w) (hv : d.vars.length ≤ 100000) (hcn : cntN d.body ≤ 100000) :
    Calls Tryz.prog 44 #[.agg z.toArray] w fun e w' => e = .returned (.bool (!declB d)) ∧ Below w.heap.size w w' := by
  have hr0 := hr
  obtain ⟨A1, c1, A2, c2, k, s, n, l, c, A3, n3, c3, A4, n4, c4, A5, n5, c5, xv, xt, hz, _⟩ := hr.parts
  obtain ⟨W, hW⟩ : ∃ W, w.alloc (.cells z.toArray 65) = W := ⟨_, rfl⟩
  have hb1 : Below w.heap.size w W := by rw [← hW]; exact (Below.refl _ _).alloc (Nat.le_refl _) _
  have HI := hid (tdecl_any d W z (hr0.far (Nat.le_refl _) hb1) hok (hX.below hb1) hv hcn)
  have hbx : W.heap[w.heap.size]? = some (.cells z.toArray 65 (0, 0)) := by rw [← hW]; exact heap_alloc_new w _
  subst hz
  obtain ⟨g0, g1, g2, g3, g4, g5, g6, g7, g8, g9, g10, g11, g12, g13, g14⟩ := t_row15 hbx
  have HB := hid hb1
  clear hr hr0 hX hb1 hok hv hcn hbx
  generalize declB d = b at *
  generalize d.name = nm at *
  generalize d.exp = ex at *
  generalize d.param = pm at *
  generalize d.vars.length = a1 at *
  generalize d.types.length = a2 at *
  generalize d.line = dl at *
  generalize d.col = dc at *
  have HWE := hid hW
  go_enter Tryz.func44, Tryz.ntmps44
  go_wp2_with fail
  refine HI.out.mono ?_
  rintro e w2 ⟨rfl, hb⟩
  go_wp2_with fail
  go_ret
  exact ⟨rfl, HB.out.trans (hb.mono HB.out.size)⟩
end Go.Proofs.YtbpedjkebemhnaaGreatDoor
end
