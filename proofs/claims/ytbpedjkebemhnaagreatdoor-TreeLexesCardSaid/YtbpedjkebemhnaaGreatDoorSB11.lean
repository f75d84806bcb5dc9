/- TL, TM, UM, GM -/
import Derived.Test.YtbpedjkebemhnaaGreatDoorSB10
import Derived.Test.YtbpedjkebemhnaaGreatDoorSB09
import Derived.Test.YtbpedjkebemhnaaGreatDoorSB02
import Derived.Test.YtbpedjkebemhnaaGreatDoorSB08
import Derived.Lib.OthersKept
import Derived.Lib.TrimU
import Derived.Test.YtbpedjkebemhnaaGreatDoorSB05
import Derived.Deep.LoopGhost
import Derived.Shelf.Strings.IndexFuncSpace
import Derived.Test.YtbpedjkebemhnaaGreatDoorSB04
import Derived.Test.YtbpedjkebemhnaaGreatDoorSB07
set_option linter.unusedSimpArgs false
set_option linter.unusedVariables false
section
/- A written type as text: tree.show. -/
set_option linter.unusedVariables false
namespace Go.Proofs.YtbpedjkebemhnaaGreatDoor
open Go.RowKit

theorem kind_range {k : Int} {nm : Bt} {a b : Nat} (h : kindT k nm a b = true) : 0 ≤ k ∧ k ≤ 8 := by
  unfold kindT at h
  split at h
  · omega
  split at h
  · cases h
  · rename_i h1 h2
    constructor <;> (apply Classical.byContradiction; intro h3; exact h2 (by omega))
theorem kind_five {nm : Bt} {a b : Nat} (h : kindT 5 nm a b = true) : a = b := by
  unfold kindT at h
  split at h
  · omega
  split at h
  · cases h
  · simpa using h
theorem kind_six {nm : Bt} {a b : Nat} (h : kindT 6 nm a b = true) : b = 2 := by
  unfold kindT at h
  split at h
  · omega
  split at h
  · cases h
  · simp at h; exact h.2
theorem field_get (ns : List Bt) (ks : List TyD) (i : Nat) (hi : i < (List.zipWith fieldS ns (showTs ks)).length) (h1 : i < ns.length) (h2 : i < ks.length) : (List.zipWith fieldS ns (showTs ks))[i] = fieldS ns[i] (showT ks[i]) := by
  rw [List.getElem_zipWith]
  simp [showTs_map]
theorem len_two {α : Type} {l : List α} (h : l.length = 2) : ∃ a b, l = [a, b] := by
  match l, h with
  | [a, b], _ => exact ⟨a, b, rfl⟩
theorem written_open {m : Nat} {k : Int} {nm : Bt} {ns : List Bt} {ks : List TyD} (h : writtenB m (.mk k nm ns ks) = true) : ∃ q, m = q + 1 ∧ (∀ n ∈ ns, n.length ≤ 32) ∧ (∀ x ∈ ks, writtenB q x = true) ∧ kindT k nm ns.length ks.length = true := by
  cases m with
  | zero => cases h
  | succ q =>
    have h : (ns.all nameL && ks.all (writtenB q) && kindT k nm ns.length ks.length) = true := h
    rw [Bool.and_eq_true, Bool.and_eq_true] at h
    exact ⟨q, rfl, fun n hn => nameL_len (List.all_eq_true.1 h.1.1 n hn), fun x hx => List.all_eq_true.1 h.1.2 x hx, h.2⟩
/-- What show does at a type of some parts. -/
def ShowK (k : Int) (nm : Bt) (ns : List Bt) (ks : List TyD) : Prop := ∀ (w : World) (z : List Value) (m : Nat), TyR w w.heap.size z (.mk k nm ns ks) → writtenB m (.mk k nm ns ks) = true → cntT (.mk k nm ns ks) ≤ 100000 →
  Calls Tryz.prog 37 #[.agg z.toArray] w fun e w' => e = .returned (sv (showT (.mk k nm ns ks))) ∧ Below w.heap.size w w'
theorem show_k0 (nm : Bt) (ns : List Bt) (ks : List TyD) : ShowK 0 nm ns ks := by
  intro w z m hr hw hc
  obtain ⟨A1, c1, A2, c2, xk, rfl, s1, s2, r2⟩ := hr.parts
  have HT : Hid (showT (.mk 0 nm ns ks) = [97, 110, 121]) := hid (by rw [showT]; rfl)
  have HB : Hid (Below w.heap.size w (w.alloc (.cells #[.int .i64 0, sv nm, .slice A1 ns.length c1, .slice A2 ks.length c2] 32))) := hid ((Below.refl _ _).alloc (Nat.le_refl _) _)
  rw [HT.out]
  clear hr hw hc s1 s2 r2
  go_enter Tryz.func37, Tryz.ntmps37
  go_wp2_with fail
  go_ret
  exact ⟨rfl, HB.out⟩
theorem show_k1 (nm : Bt) (ns : List Bt) (ks : List TyD) : ShowK 1 nm ns ks := by
  intro w z m hr hw hc
  obtain ⟨A1, c1, A2, c2, xk, rfl, s1, s2, r2⟩ := hr.parts
  have HT : Hid (showT (.mk 1 nm ns ks) = [110, 117, 108, 108]) := hid (by rw [showT]; rfl)
  have HB : Hid (Below w.heap.size w (w.alloc (.cells #[.int .i64 1, sv nm, .slice A1 ns.length c1, .slice A2 ks.length c2] 32))) := hid ((Below.refl _ _).alloc (Nat.le_refl _) _)
  rw [HT.out]
  clear hr hw hc s1 s2 r2
  go_enter Tryz.func37, Tryz.ntmps37
  go_wp2_with fail
  go_ret
  exact ⟨rfl, HB.out⟩
theorem show_k2 (nm : Bt) (ns : List Bt) (ks : List TyD) : ShowK 2 nm ns ks := by
  intro w z m hr hw hc
  obtain ⟨A1, c1, A2, c2, xk, rfl, s1, s2, r2⟩ := hr.parts
  have HT : Hid (showT (.mk 2 nm ns ks) = [98, 111, 111, 108]) := hid (by rw [showT]; rfl)
  have HB : Hid (Below w.heap.size w (w.alloc (.cells #[.int .i64 2, sv nm, .slice A1 ns.length c1, .slice A2 ks.length c2] 32))) := hid ((Below.refl _ _).alloc (Nat.le_refl _) _)
  rw [HT.out]
  clear hr hw hc s1 s2 r2
  go_enter Tryz.func37, Tryz.ntmps37
  go_wp2_with fail
  go_ret
  exact ⟨rfl, HB.out⟩
theorem show_k3 (nm : Bt) (ns : List Bt) (ks : List TyD) : ShowK 3 nm ns ks := by
  intro w z m hr hw hc
  obtain ⟨A1, c1, A2, c2, xk, rfl, s1, s2, r2⟩ := hr.parts
  have HT : Hid (showT (.mk 3 nm ns ks) = [105, 110, 116]) := hid (by rw [showT]; rfl)
  have HB : Hid (Below w.heap.size w (w.alloc (.cells #[.int .i64 3, sv nm, .slice A1 ns.length c1, .slice A2 ks.length c2] 32))) := hid ((Below.refl _ _).alloc (Nat.le_refl _) _)
  rw [HT.out]
  clear hr hw hc s1 s2 r2
  go_enter Tryz.func37, Tryz.ntmps37
  go_wp2_with fail
  go_ret
  exact ⟨rfl, HB.out⟩
theorem show_k4 (nm : Bt) (ns : List Bt) (ks : List TyD) : ShowK 4 nm ns ks := by
  intro w z m hr hw hc
  obtain ⟨A1, c1, A2, c2, xk, rfl, s1, s2, r2⟩ := hr.parts
  have HT : Hid (showT (.mk 4 nm ns ks) = [115, 116, 114]) := hid (by rw [showT]; rfl)
  have HB : Hid (Below w.heap.size w (w.alloc (.cells #[.int .i64 4, sv nm, .slice A1 ns.length c1, .slice A2 ks.length c2] 32))) := hid ((Below.refl _ _).alloc (Nat.le_refl _) _)
  rw [HT.out]
  clear hr hw hc s1 s2 r2
  go_enter Tryz.func37, Tryz.ntmps37
  go_wp2_with fail
  go_ret
  exact ⟨rfl, HB.out⟩
theorem show_k8 (nm : Bt) (ns : List Bt) (ks : List TyD) : ShowK 8 nm ns ks := by
  intro w z m hr hw hc
  obtain ⟨A1, c1, A2, c2, xk, rfl, s1, s2, r2⟩ := hr.parts
  have HT : Hid (showT (.mk 8 nm ns ks) = nm) := hid (by rw [showT]; rfl)
  have HB : Hid (Below w.heap.size w (w.alloc (.cells #[.int .i64 8, sv nm, .slice A1 ns.length c1, .slice A2 ks.length c2] 32))) := hid ((Below.refl _ _).alloc (Nat.le_refl _) _)
  rw [HT.out]
  clear hr hw hc s1 s2 r2
  go_enter Tryz.func37, Tryz.ntmps37
  go_wp2_with fail
  go_ret
  exact ⟨rfl, HB.out⟩
set_option maxRecDepth 100000 in
set_option maxHeartbeats 2000000 in
theorem show_k5 (nm : Bt) (ns : List Bt) (ks : List TyD) (ih : ∀ x ∈ ks, ShowC x) : ShowK 5 nm ns ks := by
  intro w z m hr hw hc
  obtain ⟨A1, c1, A2, c2, xk, rfl, s1, s2, r2⟩ := hr.parts
  have hlen := show_len _ m hw
  obtain ⟨q, rfl, h1, h2, h3⟩ := written_open hw
  have hab := kind_five h3
  have HT0 : showT (.mk 5 nm ns ks) = [123] ++ (joinS [44, 32] (List.zipWith fieldS ns (showTs ks)) ++ [125]) := by rw [showT]; rfl
  rw [HT0] at hlen
  have HT := hid HT0
  clear HT0
  rw [HT.out]
  have hcl := cnts_len ks
  rw [cntT] at hc hlen
  have hzl : (List.zipWith fieldS ns (showTs ks)).length = ks.length := by rw [List.length_zipWith, showTs_length]; omega
  simp only [List.length_append, List.length_cons, List.length_nil] at hlen
  obtain ⟨W1, hW1⟩ : ∃ W1, W1 = w.alloc (.cells #[.int .i64 5, sv nm, .slice A1 ns.length c1, .slice A2 ks.length c2] 32) := ⟨_, rfl⟩
  have hb1 : Below w.heap.size w W1 := by rw [hW1]; exact (Below.refl _ _).alloc (Nat.le_refl _) _
  have hbx : W1.heap[w.heap.size]? = some (.cells #[.int .i64 5, sv nm, .slice A1 ns.length c1, .slice A2 ks.length c2] 32 (0, 0)) := by rw [hW1]; exact heap_alloc_new w _
  have HL := list_any 83 (fun _ _ => by kernel_rfl) #[.pointer (some ⟨w.heap.size, 0, none⟩)] (List.zipWith fieldS ns (showTs ks)) W1 (by omega) (by omega) (fun i hi w1 hb => by
    rw [hzl] at hi
    have hin : i < ns.length := by omega
    have hbw : Below w.heap.size w w1 := hb1.trans (hb.mono hb1.size)
    rw [field_get ns ks i _ hin hi]
    exact show1_any w1 w.heap.size 5 nm ns ks A1 c1 A2 c2 xk ((hb.block _ (block_lt hbx)).trans hbx) (Sl.more (Sl.below s1 hbw) hbw.size) (Sl.more (Sl.below s2 hbw) hbw.size) ((r2.keep hbw).more hbw.size) i hi hin (ih _ (List.getElem_mem hi)) q (h2 _ (List.getElem_mem hi)) (by have := cnt_mem (List.getElem_mem hi); omega) (h1 _ (List.getElem_mem hin)))
  rw [hzl] at HL
  have HL := hid HL
  have HB := hid hb1
  have HWE := hid hW1
  have hl2 := (t_sl_len s2).2
  rw [hW1] at HL
  generalize joinS [44, 32] (List.zipWith fieldS ns (showTs ks)) = s at *
  have hsz := sv_size s
  have q1 : ¬ (9223372036854775807 < 1 + s.length) := by omega
  have q2 : ¬ (9223372036854775807 < 1 + s.length + 1) := by omega
  have hmf : ∀ (fn : Fn) (first cap : Array Value) (w : World), (Instr.makeFunc fn first cap).run Tryz.prog w = .ok (.func fn first cap) w := fun _ _ _ _ => rfl
  clear hr hw hc s1 s2 r2 hlen h1 h2 h3 ih hcl hzl hW1 hb1 hbx HT hab
  go_enter Tryz.func37, Tryz.ntmps37
  go_wp2_with fail
  refine HL.out.mono ?_
  rintro e w2 ⟨rfl, hb⟩
  rw [← HWE.out] at hb
  have HB2 := hid (HB.out.trans (hb.mono HB.out.size))
  clear hb
  go_wp2_with fail
  go_ret
  refine ⟨?_, HB2.out⟩
  have e : (⟨#[123]⟩ : ByteArray) ++ ⟨s.toArray⟩ ++ ⟨#[125]⟩ = ⟨([123] ++ (s ++ [125])).toArray⟩ := by
    rw [show (⟨#[123]⟩ : ByteArray) = ⟨([123] : Bt).toArray⟩ from rfl, show (⟨#[125]⟩ : ByteArray) = ⟨([125] : Bt).toArray⟩ from rfl, str_append, str_append, List.append_assoc]
  exact congrArg (fun b => Ending.returned (Value.string b)) e
set_option maxRecDepth 100000 in
set_option maxHeartbeats 2000000 in
theorem show_k6 (nm : Bt) (ns : List Bt) (ks : List TyD) (ih : ∀ x ∈ ks, ShowC x) : ShowK 6 nm ns ks := by
  intro w z m hr hw hc
  obtain ⟨A1, c1, A2, c2, xk, rfl, s1, s2, r2⟩ := hr.parts
  have hlen := show_len _ m hw
  obtain ⟨q, rfl, h1, h2, h3⟩ := written_open hw
  obtain ⟨t0, t1, rfl⟩ := len_two (kind_six h3)
  have HT0 : showT (.mk 6 nm ns [t0, t1]) = innerS [6] t0.kind (showT t0) ++ ([32, 45, 62, 32] ++ showT t1) := by rw [showT]; rfl
  rw [HT0] at hlen
  have HT := hid HT0
  clear HT0
  rw [HT.out]
  rw [cntT, cntTs, cntTs, cntTs] at hc hlen
  simp only [List.length_append, List.length_cons, List.length_nil] at hlen
  obtain ⟨b2, o2, k0, ss0, A3, n3, c3, A4, n4, c4, rfl, hr0, d0, d1, d2, d3⟩ := elem_at s2 r2 (i := 0) (by simp) rfl
  obtain ⟨b2', o2', k1, ss1, A5, n5, c5, A6, n6, c6, hbe, hr1, e0, e1, e2, e3⟩ := elem_at s2 r2 (i := 1) (by simp) rfl
  injection hbe with hbe
  injection hbe with hbe1 hbe2 hbe3
  subst hbe1 hbe2
  simp only [List.getElem_cons_zero, List.getElem_cons_succ, Nat.zero_mul, Nat.one_mul, Nat.add_zero, Nat.add_assoc] at hr0 hr1 d0 d1 d2 d3 e0 e1 e2 e3
  obtain ⟨W, hW⟩ : ∃ W, w.alloc (.cells #[.int .i64 6, sv nm, .slice A1 ns.length c1, .slice (some ⟨b2, o2, none⟩) 2 c2] 32) = W := ⟨_, rfl⟩
  have hb1 : Below w.heap.size w W := by rw [← hW]; exact (Below.refl _ _).alloc (Nat.le_refl _) _
  have hbx : W.heap[w.heap.size]? = some (.cells #[.int .i64 6, sv nm, .slice A1 ns.length c1, .slice (some ⟨b2, o2, none⟩) 2 c2] 32 (0, 0)) := by rw [← hW]; exact heap_alloc_new w _
  obtain ⟨_, _, _, g3⟩ := t_row4 hbx
  have HI := hid (fun (w1 : World) (h : Below W.heap.size W w1) (bq : Nat) (hq : w1.cell? ⟨bq, 0, none⟩ = some (.int .i64 6)) => tinner_any t0 (ih t0 (by simp)) w1 _ q (hr0.far (Nat.le_refl _) (hb1.trans (h.mono hb1.size))) (h2 t0 (by simp)) (by omega) bq [6] (by simp) (fun j hj => by
    obtain rfl : j = 0 := by simpa using hj
    exact hq) (World.block_lt_of_cell? w1 _ hq))
  have HS := hid (fun (w1 : World) (h : Below W.heap.size W w1) => ih t1 (by simp) w1 _ q (hr1.far (Nat.le_refl _) (hb1.trans (h.mono hb1.size))) (h2 t1 (by simp)) (by omega))
  have G3 := hid g3
  have D0 := hid (kp hb1 d0)
  have D1 := hid (kp hb1 d1)
  have D2 := hid (kp hb1 d2)
  have D3 := hid (kp hb1 d3)
  have E0 := hid (kp hb1 e0)
  have E1 := hid (kp hb1 e1)
  have E2 := hid (kp hb1 e2)
  have E3 := hid (kp hb1 e3)
  have HB := hid hb1
  have HW := hid hW
  have hl2 := (t_sl_len s2).2
  generalize innerS [6] t0.kind (showT t0) = s at *
  generalize showT t1 = u at *
  have hsz := sv_size s
  have hsz1 := sv_size u
  have q1 : ¬ (9223372036854775807 < s.length + 4) := by omega
  have q2 : ¬ (9223372036854775807 < s.length + 4 + u.length) := by omega
  have HB0 : Hid (Below W.heap.size W W.drew) := hid (below_drawn W 1)
  clear hr hw hc s1 s2 r2 hlen h1 h2 h3 ih hW hb1 hbx hr0 hr1 g3 d0 d1 d2 d3 e0 e1 e2 e3 HT
  go_enter Tryz.func37, Tryz.ntmps37
  go_wp2_with fail
  have hW := HW.out
  rw [hW]
  clear hW
  refine wp_region_held_drew (S := fun w' => Below W.heap.size W w') (by kernel_rfl) HB0.out (fun _ => ?_)
  try simp only [Act.put, List.getElem_toArray, List.getElem_cons_zero, List.getElem_cons_succ, List.setIfInBounds_toArray, List.set_cons_zero, List.set_cons_succ]
  refine tk 0 (.pointer (some ⟨w.heap.size, 3, none⟩)) HB0.out ?_
  refine tkf 1 (.slice (some ⟨b2, o2, none⟩) 2 c2) (kp1 G3.out) HB0.out ?_
  refine tk 2 (.pointer (some ⟨b2, o2, none⟩)) HB0.out ?_
  refine tkf 3 (.agg #[.int .i64 k0, .string ss0, .slice A3 n3 c3, .slice A4 n4 c4]) (kp4 D0.out D1.out D2.out D3.out) HB0.out ?_
  refine tk 7 (.pointer (some ⟨w.heap.size, 3, none⟩)) HB0.out ?_
  refine tkf 8 (.slice (some ⟨b2, o2, none⟩) 2 c2) (kp1 G3.out) HB0.out ?_
  refine tk 9 (.pointer (some ⟨b2, o2 + 4, none⟩)) HB0.out ?_
  refine tkf 10 (.agg #[.int .i64 k1, .string ss1, .slice A5 n5 c5, .slice A6 n6 c6]) (kp4 E0.out E1.out E2.out E3.out) HB0.out ?_
  refine wpAnyH_ready (rs := [4]) (by kernel_rfl) (by simp) ?_
  refine AllReadyH.cons rfl (fun K hK => ?_) (AllReadyH.nil)
  go_simp
  have HB3 := hid (HB0.out.alloc HB0.out.size (.cells #[.int .i64 6] 3))
  refine hK.out _ _ HB3.out (fun _ => ?_)
  clear hK K
  try simp only [Act.put, List.getElem_toArray, List.getElem_cons_zero, List.getElem_cons_succ, List.setIfInBounds_toArray, List.set_cons_zero, List.set_cons_succ]
  refine wpAnyH_ready (rs := [5]) (by kernel_rfl) (by simp) ?_
  refine AllReadyH.cons rfl (fun K hK => ?_) (AllReadyH.nil)
  go_simp
  refine (HI.out _ HB3.out _ ((cell_of_row _ _ _ _ _ _ (heap_alloc_new W.drew _)).trans rfl)).mono ?_
  rintro e w2 ⟨rfl, hb⟩
  have HB2 := hid (HB3.out.trans (hb.mono HB3.out.size))
  clear hb
  refine hK.out _ _ HB2.out (fun _ => ?_)
  clear hK K
  try simp only [Act.put, List.getElem_toArray, List.getElem_cons_zero, List.getElem_cons_succ, List.setIfInBounds_toArray, List.set_cons_zero, List.set_cons_succ]
  refine tk 6 (.string ((⟨s.toArray⟩ : ByteArray) ++ ⟨#[32, 45, 62, 32]⟩)) HB2.out ?_
  refine wpAnyH_ready (rs := [11]) (by kernel_rfl) (by simp) ?_
  refine AllReadyH.cons rfl (fun K hK => ?_) (AllReadyH.nil)
  go_simp
  refine (HS.out _ HB2.out).mono ?_
  rintro e w4 ⟨rfl, hb⟩
  have HB4 := hid (HB2.out.trans (hb.mono HB2.out.size))
  clear hb
  refine hK.out _ _ HB4.out (fun _ => ?_)
  clear hK K
  try simp only [Act.put, List.getElem_toArray, List.getElem_cons_zero, List.getElem_cons_succ, List.setIfInBounds_toArray, List.set_cons_zero, List.set_cons_succ]
  refine tk 12 (.string ((⟨s.toArray⟩ : ByteArray) ++ ⟨#[32, 45, 62, 32]⟩ ++ ⟨u.toArray⟩)) HB4.out ?_
  refine tk 13 (.string ((⟨s.toArray⟩ : ByteArray) ++ ⟨#[32, 45, 62, 32]⟩ ++ ⟨u.toArray⟩)) HB4.out ?_
  refine wpAnyH_done (by kernel_rfl) ?_ _
  go_wp2_with fail
  go_ret
  refine ⟨?_, HB.out.trans (HB4.out.mono HB.out.size)⟩
  have e : (⟨s.toArray⟩ : ByteArray) ++ ⟨#[32, 45, 62, 32]⟩ ++ ⟨u.toArray⟩ = ⟨(s ++ ([32, 45, 62, 32] ++ u)).toArray⟩ := by
    rw [show (⟨#[32, 45, 62, 32]⟩ : ByteArray) = ⟨([32, 45, 62, 32] : Bt).toArray⟩ from rfl, str_append, str_append, List.append_assoc]
  exact congrArg (fun b => Ending.returned (Value.string b)) e
set_option maxRecDepth 100000 in
set_option maxHeartbeats 4000000 in
theorem show_k7 (nm : Bt) (ns : List Bt) (ks : List TyD) (ih : ∀ x ∈ ks, ShowC x) : ShowK 7 nm ns ks := by
  intro w z m hr hw hc
  obtain ⟨A1, c1, A2, c2, xk, rfl, s1, s2, r2⟩ := hr.parts
  have hlen := show_len _ m hw
  obtain ⟨q, rfl, h1, h2, h3⟩ := written_open hw
  obtain ⟨L, hL⟩ : ∃ L, L = List.zipWith (innerS [6, 7]) (ks.map TyD.kind) (showTs ks) := ⟨_, rfl⟩
  have HT0 : showT (.mk 7 nm ns ks) = joinS [32, 124, 32] L := by rw [hL, showT]; rfl
  rw [HT0] at hlen ⊢
  have hcl := cnts_len ks
  rw [cntT] at hc hlen
  have hll : L.length = ks.length := by rw [hL, List.length_zipWith, showTs_length, List.length_map]; omega
  have HGET : Hid (∀ (i : Nat) (h : i < ks.length) (h2 : i < L.length), L[i] = innerS [6, 7] ks[i].kind (showT ks[i])) := hid (by
    intro i h h2
    subst hL
    rw [List.getElem_zipWith]
    simp [showTs_map])
  obtain ⟨W1, hW1⟩ : ∃ W1, w.alloc (.cells #[.int .i64 7, sv nm, .slice A1 ns.length c1, .slice A2 ks.length c2] 32) = W1 := ⟨_, rfl⟩
  have hb1 : Below w.heap.size w W1 := by rw [← hW1]; exact (Below.refl _ _).alloc (Nat.le_refl _) _
  have l2 := (t_sl_len s2).2
  have HS := hid (And.intro (Sl.more (Sl.below s2 hb1) hb1.size) ((r2.keep hb1).more hb1.size))
  have HIH := hid ih
  have H2 := hid h2
  have HB1 := hid hb1
  obtain ⟨d, hd⟩ : ∃ d, ks.length = d := ⟨_, rfl⟩
  rw [hd] at hcl hll l2 HS hW1 ⊢
  have HD := hid hd
  have HCN := hid (fun (x : TyD) (hx : x ∈ ks) => cnt_mem hx)
  have HLEN := hid hlen
  have HW := hid hW1
  clear hr hw s1 s2 r2 h1 h2 h3 ih hb1 hL HT0 hd hlen hW1
  go_enter Tryz.func37, Tryz.ntmps37
  go_wp2_with fail
  have hW := HW.out
  rw [hW]
  clear hW
  go_loopw [3, 47] (fun v3 v47 wr => ∃ i : Nat, v47 = .int .i64 i ∧ i ≤ d ∧ OwnS wr W1.heap.size 9 v3 (L.take i) ∧ Below W1.heap.size W1 wr) (fun v3 v47 _ => d - (intOf v47).toNat)
  case atStart => exact ⟨0, rfl, by omega, OwnS.nil _ _ _, Below.refl _ _⟩
  case round =>
    obtain ⟨i, rfl, hi, hown, hbr⟩ := hrel
    have HOWN := hid hown
    have HB := hid hbr
    clear hown
    by_cases hlt : i < d
    · have hil : i < ks.length := by rw [HD.out]; exact hlt
      have hiL : i < L.length := by omega
      obtain ⟨b2, o2, kk, ss, A3, n3, c3, A4, n4, c4, rfl, hr1, e0, e1, e2, e3⟩ := elem_at (Sl.more (Sl.below HS.out.1 hbr) hbr.size) ((HS.out.2.keep hbr).more hbr.size) hil HD.out.symm
      obtain ⟨wB, hwB⟩ : ∃ wB, (wr.alloc (.cells #[.int .i64 kk, .string ss, .slice A3 n3 c3, .slice A4 n4 c4] 32)).alloc (.cells #[.int .i64 6, .int .i64 7] 3) = wB := ⟨_, rfl⟩
      have hbB : Below wr.heap.size wr wB := by rw [← hwB]; exact ((Below.refl _ _).alloc (Nat.le_refl _) _).alloc (by simp) _
      have hq : wB.heap[wr.heap.size + 1]? = some (.cells #[.int .i64 6, .int .i64 7] 3 (0, 0)) := by rw [← hwB]; exact (two_new wr _ _).2
      have HI := hid (tinner_any ks[i] (HIH.out _ (List.getElem_mem hil)) wB _ q (hr1.far (Nat.le_refl _) hbB) (H2.out _ (List.getElem_mem hil)) (by have := HCN.out _ (List.getElem_mem hil); omega) (wr.heap.size + 1) [6, 7] (by simp) (fun j hj => by
        have hj2 : j = 0 ∨ j = 1 := by simp at hj; omega
        rcases hj2 with rfl | rfl <;> exact (cell_of_row _ _ _ _ _ _ hq).trans rfl) (block_lt hq))
      rw [← HGET.out i hil hiL] at HI
      have HST := hid (t_take hiL)
      have HBB := hid hbB
      have HWB := hid hwB
      generalize L[i] = X at *
      generalize ks[i] = kx at *
      rw [← hwB] at HI
      clear hbr hr1 hbB hq hwB hil
      go_wp2_with fail
      refine HI.out.mono ?_
      rintro e w2 ⟨rfl, hb⟩
      rw [HWB.out] at hb
      have hbw2 := HBB.out.trans (hb.mono HBB.out.size)
      have hown2 := HOWN.out.below hbw2
      have hb2 := HB.out.trans (hbw2.mono HB.out.size)
      clear hb hbw2 e0 e1 e2 e3
      go_wp2_with (at_builtin; refine wpList_appS rfl (.tmp 51) (.tmp 55) _ rfl W1.heap.size el_str _ _ rfl rfl (hown2.alloc _) (ss_new w2 X _) (by simp; omega) (le_alloc hb2.size _) (fun v3 w3 hown3 hg3 hbk3 => ?_); have hb3 := below_appS (hb2.alloc hb2.size _) (hown2.alloc _) hg3 (Nat.le_refl _) (le_alloc hb2.size _); have HOWN3 := hid hown3; have HB3 := hid hb3; clear hown3 hb3 hown2 hb2 hg3 hbk3)
      go_roundw
      case rel => exact ⟨i + 1, rfl, by omega, by rw [HST.out]; exact HOWN3.out, HB3.out⟩
      case measure => simp [intOf]; omega
    · obtain rfl : i = d := by omega
      have hown := HOWN.out
      rw [List.take_of_length_le (by omega)] at hown
      obtain ⟨A5, n5, c5, rfl⟩ := t_sl_shape hown.ss
      have HJ := hid (join_any wr _ L [32, 124, 32] hown.ss (by omega) (by have := HLEN.out; omega))
      clear hown hbr hlt
      go_wp2_with fail
      refine HJ.out.mono ?_
      rintro e w2 ⟨rfl, hb⟩
      go_wp2_with fail
      go_ret
      exact ⟨rfl, HB1.out.trans ((HB.out.trans (hb.mono HB.out.size)).mono HB1.out.size)⟩
theorem show_all (t : TyD) : ShowC t := by
  induction h : cntT t using Nat.strongRecOn generalizing t with
  | _ n ih =>
    obtain ⟨k, nm, ns, ks⟩ := t
    have ihk : ∀ x ∈ ks, ShowC x := fun x hx => ih (cntT x) (by rw [← h, cntT]; have := cnt_mem hx; omega) x rfl
    intro w z m hr hw hc
    have hk : 0 ≤ k ∧ k ≤ 8 := by obtain ⟨q, rfl, h1, h2, h3⟩ := written_open hw; exact kind_range h3
    have hk2 : k = 0 ∨ k = 1 ∨ k = 2 ∨ k = 3 ∨ k = 4 ∨ k = 5 ∨ k = 6 ∨ k = 7 ∨ k = 8 := by omega
    rcases hk2 with rfl | rfl | rfl | rfl | rfl | rfl | rfl | rfl | rfl
    · exact show_k0 nm ns ks w z m hr hw hc
    · exact show_k1 nm ns ks w z m hr hw hc
    · exact show_k2 nm ns ks w z m hr hw hc
    · exact show_k3 nm ns ks w z m hr hw hc
    · exact show_k4 nm ns ks w z m hr hw hc
    · exact show_k5 nm ns ks ihk w z m hr hw hc
    · exact show_k6 nm ns ks ihk w z m hr hw hc
    · exact show_k7 nm ns ks ihk w z m hr hw hc
    · exact show_k8 nm ns ks w z m hr hw hc
end Go.Proofs.YtbpedjkebemhnaaGreatDoor
end
section
/- Types with commas between, a type behind a colon, a type as text. -/
set_option linter.unusedVariables false
namespace Go.Proofs.YtbpedjkebemhnaaGreatDoor
open Go.RowKit

/-- The contract of show, for good: a type of not too many. -/
theorem show_types {ts : List TyD} (h : ts.all (writtenB 16) = true) (hc : cntTs ts ≤ 100000) : (joinS [44, 32] (ts.map showT)).length ≤ 140737488355328 ∧ ts.length ≤ 1000000 ∧ (∀ x ∈ ts, writtenB 16 x = true ∧ cntT x ≤ 100000 ∧ (showT x).length ≤ 8000000) := by
  have h1 := shows_len ts 16 h
  have h2 := cnts_len ts
  have h3 := joinS_len [44, 32] (ts.map showT)
  rw [showTs_map] at h1
  rw [List.length_map] at h3
  simp only [List.length_cons, List.length_nil] at h3
  refine ⟨by omega, by omega, fun x hx => ?_⟩
  have h4 := List.all_eq_true.1 h x hx
  have h5 := cnt_mem hx
  have h6 := show_len x 16 h4
  exact ⟨h4, by omega, by omega⟩
set_option maxRecDepth 100000 in
set_option maxHeartbeats 2000000 in
theorem types1_any (w : World) (bt : Nat) (ts : List TyD) (A2 : Option Addr) (c2 : Nat) (xk : List Value) (hbt : w.cell? ⟨bt, 0, none⟩ = some (.slice A2 ts.length c2)) (s2 : Sl w w.heap.size 4 (.slice A2 ts.length c2) xk) (r2 : TysR w w.heap.size xk ts)
    (i : Nat) (hi : i < ts.length) (hw : writtenB 16 ts[i] = true) (hc : cntT ts[i] ≤ 100000) :
    Calls Tryz.prog 147 #[.int .i64 (i : Int), .pointer (some ⟨bt, 0, none⟩)] w fun e w' => e = .returned (sv (showT ts[i])) ∧ Below w.heap.size w w' := by
  obtain ⟨b2, o2, kk, ss, A3, n3, c3, A4, n4, c4, rfl, hr1, e0, e1, e2, e3⟩ := elem_at s2 r2 hi rfl
  have HS := hid (show_all ts[i] w _ 16 hr1 hw hc)
  have l2 := (t_sl_len s2).2
  generalize showT ts[i] = s at *
  clear s2 r2 hw hc hr1
  generalize ts.length = b at *
  go_enter Tryz.func147, Tryz.ntmps147
  go_wp2_with fail
  refine HS.out.mono ?_
  rintro e w2 ⟨rfl, hb⟩
  go_wp2_with fail
  go_ret
  exact ⟨rfl, hb⟩
set_option maxRecDepth 100000 in
set_option maxHeartbeats 2000000 in
theorem types_any (w : World) (ts : List TyD) (A2 : Option Addr) (c2 : Nat) (xk : List Value) (s2 : Sl w w.heap.size 4 (.slice A2 ts.length c2) xk) (r2 : TysR w w.heap.size xk ts) (hw : ts.all (writtenB 16) = true) (hc : cntTs ts ≤ 100000) :
    Calls Tryz.prog 123 #[.slice A2 ts.length c2] w fun e w' => e = .returned (sv (joinS [44, 32] (ts.map showT))) ∧ Below w.heap.size w w' := by
  obtain ⟨h1, h2, h3⟩ := show_types hw hc
  obtain ⟨W1, hW1⟩ : ∃ W1, W1 = w.alloc (.cells #[.slice A2 ts.length c2] 22) := ⟨_, rfl⟩
  have hb1 : Below w.heap.size w W1 := by rw [hW1]; exact (Below.refl _ _).alloc (Nat.le_refl _) _
  have hbx : W1.heap[w.heap.size]? = some (.cells #[.slice A2 ts.length c2] 22 (0, 0)) := by rw [hW1]; exact heap_alloc_new w _
  have hzl : (ts.map showT).length = ts.length := List.length_map ..
  have HL := list_any 147 (fun _ _ => by kernel_rfl) #[.pointer (some ⟨w.heap.size, 0, none⟩)] (ts.map showT) W1 (by omega) (by omega) (fun i hi w1 hb => by
    rw [hzl] at hi
    have hbw : Below w.heap.size w w1 := hb1.trans (hb.mono hb1.size)
    rw [List.getElem_map]
    have h5 := h3 _ (List.getElem_mem hi)
    exact types1_any w1 w.heap.size ts A2 c2 xk ((cell_of_row _ _ _ _ _ _ ((hb.block _ (block_lt hbx)).trans hbx)).trans rfl) (Sl.more (Sl.below s2 hbw) hbw.size) ((r2.keep hbw).more hbw.size) i hi h5.1 h5.2.1)
  rw [hzl] at HL
  have HL := hid HL
  have HB := hid hb1
  have HWE := hid hW1
  rw [hW1] at HL
  have hl2 := (t_sl_len s2).2
  generalize joinS [44, 32] (ts.map showT) = s at *
  have hmf : ∀ (fn : Fn) (first cap : Array Value) (w : World), (Instr.makeFunc fn first cap).run Tryz.prog w = .ok (.func fn first cap) w := fun _ _ _ _ => rfl
  clear s2 r2 hw hc h1 h2 h3 hW1 hb1 hbx hzl
  go_enter Tryz.func123, Tryz.ntmps123
  go_wp2_with fail
  refine HL.out.mono ?_
  rintro e w2 ⟨rfl, hb⟩
  rw [← HWE.out] at hb
  go_wp2_with fail
  go_ret
  exact ⟨rfl, HB.out.trans (hb.mono HB.out.size)⟩
set_option maxRecDepth 100000 in
set_option maxHeartbeats 2000000 in
theorem note_any (w : World) (ts : List TyD) (A2 : Option Addr) (c2 : Nat) (xk : List Value) (s2 : Sl w w.heap.size 4 (.slice A2 ts.length c2) xk) (r2 : TysR w w.heap.size xk ts) (hw : ts.all (writtenB 16) = true) (hc : cntTs ts ≤ 100000) (i : Nat) :
    Calls Tryz.prog 51 #[.slice A2 ts.length c2, .int .i64 (i : Int)] w fun e w' => e = .returned (sv (noteS ts i)) ∧ Below w.heap.size w w' := by
  have hl2 := (t_sl_len s2).2
  by_cases hi : i < ts.length
  · obtain ⟨h1, h2, h3⟩ := show_types hw hc
    have h5 := h3 _ (List.getElem_mem hi)
    obtain ⟨b2, o2, kk, ss, A3, n3, c3, A4, n4, c4, rfl, hr1, e0, e1, e2, e3⟩ := elem_at s2 r2 hi rfl
    have HS := hid (show_all ts[i] w _ 16 hr1 h5.1 h5.2.1)
    have HT : Hid (noteS ts i = [58, 32] ++ showT ts[i]) := hid (by unfold noteS; rw [List.getElem?_eq_getElem hi])
    have h6 := h5.2.2
    rw [HT.out]
    clear HT h5 h3 h2 h1 s2 r2 hw hc hr1
    generalize showT ts[i] = s at *
    generalize ts.length = b at *
    have hsz := sv_size s
    have q1 : ¬ (9223372036854775807 < 2 + s.length) := by omega
    have hni : ¬ (b : Int) ≤ i := by omega
    go_enter Tryz.func51, Tryz.ntmps51
    go_wp2_with fail
    refine HS.out.mono ?_
    rintro e w2 ⟨rfl, hb⟩
    go_wp2_with fail
    go_ret
    refine ⟨?_, hb⟩
    have e : (⟨#[58, 32]⟩ : ByteArray) ++ ⟨s.toArray⟩ = ⟨([58, 32] ++ s).toArray⟩ := by
      rw [show (⟨#[58, 32]⟩ : ByteArray) = ⟨([58, 32] : Bt).toArray⟩ from rfl, str_append]
    exact congrArg (fun b => Ending.returned (Value.string b)) e
  · have HT : Hid (noteS ts i = []) := hid (by unfold noteS; rw [List.getElem?_eq_none (by omega)])
    rw [HT.out]
    have hni : (ts.length : Int) ≤ i := by omega
    clear s2 r2 hw hc hi
    generalize ts.length = b at *
    go_enter Tryz.func51, Tryz.ntmps51
    go_wp2_with fail
    go_ret
    exact ⟨rfl, Below.refl _ _⟩
set_option maxRecDepth 100000 in
theorem ttype_any (w : World) (z : List Value) (t : TyD) (hr : TyR w w.heap.size z t) (hok : okT t) (hc : cntT t ≤ 100000) (hX : LaidT w) :
    Calls Tryz.prog 15 #[.agg z.toArray] w fun e w' => e = .returned (sv (typeS t)) ∧ Below w.heap.size w w' := by
  obtain ⟨k, s, A1, n1, c1, A2, n2, c2, rfl⟩ := hr.shape
  obtain ⟨W1, hW1⟩ : ∃ W1, W1 = w.alloc (.cells #[.int .i64 k, .string s, .slice A1 n1 c1, .slice A2 n2 c2] 32) := ⟨_, rfl⟩
  have hb1 : Below w.heap.size w W1 := by rw [hW1]; exact (Below.refl _ _).alloc (Nat.le_refl _) _
  have hbx : W1.heap[w.heap.size]? = some (.cells #[.int .i64 k, .string s, .slice A1 n1 c1, .slice A2 n2 c2] 32 (0, 0)) := by rw [hW1]; exact heap_alloc_new w _
  have HW := written_all 16 (by omega) W1 _ t (hr.far (Nat.le_refl _) hb1) hok (hX.below hb1)
  rw [hW1] at HW
  have HW := hid HW
  have HB := hid hb1
  have HWE := hid hW1
  have HBX := hid hbx
  have HR := hid hr
  clear hb1 hbx hr hX hW1 hok
  cases hq : writtenB 16 t with
  | false =>
    have HT : Hid (typeS t = []) := hid (by unfold typeS; rw [hq]; rfl)
    rw [hq] at HW
    rw [HT.out]
    clear hq HT
    go_enter Tryz.func15, Tryz.ntmps15
    go_wp2_with fail
    refine HW.out.mono ?_
    rintro e w2 ⟨rfl, hb⟩
    rw [← HWE.out] at hb
    go_wp2_with fail
    go_ret
    exact ⟨rfl, HB.out.trans (hb.mono HB.out.size)⟩
  | true =>
    have HT : Hid (typeS t = showT t) := hid (by unfold typeS; rw [hq]; rfl)
    rw [hq] at HW
    rw [HT.out]
    have HS : Hid (∀ w2, Below w.heap.size w w2 → Calls Tryz.prog 37 #[.agg [.int .i64 k, .string s, .slice A1 n1 c1, .slice A2 n2 c2].toArray] w2 fun e w' => e = .returned (sv (showT t)) ∧ Below w2.heap.size w2 w') := hid (fun w2 hb2 => show_all t w2 _ 16 (HR.out.far (Nat.le_refl _) hb2) hq hc)
    clear hq HT HR
    generalize showT t = u at *
    go_enter Tryz.func15, Tryz.ntmps15
    go_wp2_with fail
    refine HW.out.mono ?_
    rintro e w2 ⟨rfl, hb⟩
    rw [← HWE.out] at hb
    have HB2 := hid (HB.out.trans (hb.mono HB.out.size))
    obtain ⟨g0, g1, g2, g3⟩ := t_row4 ((hb.block _ (block_lt HBX.out)).trans HBX.out)
    clear hb
    go_wp2_with fail
    refine (HS.out _ HB2.out).mono ?_
    rintro e w3 ⟨rfl, hb3⟩
    go_wp2_with fail
    go_ret
    exact ⟨rfl, HB2.out.trans (hb3.mono HB2.out.size)⟩
end Go.Proofs.YtbpedjkebemhnaaGreatDoor
end
section
/- An expression as text: the list of what is within, simple ones. -/
set_option linter.unusedVariables false
namespace Go.Proofs.YtbpedjkebemhnaaGreatDoor
open Go.RowKit

theorem node_open {m : Nat} {k : Int} {text : Bt} {n li co : Int} {ts : List TyD} {ns : List Bt} {ks : List NoD} (h : nodeB m (.mk k text n li co ts ns ks) = true) :
    ∃ q, m = q + 1 ∧ (0 ≤ k ∧ k < 20) ∧ ownN k text n ts.length ns.length ks.length = true ∧ (∀ x ∈ ns, x.length ≤ 32) ∧ ts.all (writtenB 16) = true ∧ (∀ x ∈ ks, nodeB q x = true) := by
  cases m with
  | zero => cases h
  | succ q =>
    have h : (decide (0 ≤ k ∧ k < 20) && ownN k text n ts.length ns.length ks.length && ns.all nameL && ts.all (writtenB 16) && ks.all (nodeB q)) = true := h
    rw [Bool.and_eq_true, Bool.and_eq_true, Bool.and_eq_true, Bool.and_eq_true, decide_eq_true_eq] at h
    exact ⟨q, rfl, h.1.1.1.1, h.1.1.1.2, fun x hx => nameL_len (List.all_eq_true.1 h.1.1.2 x hx), h.1.2, fun x hx => List.all_eq_true.1 h.2 x hx⟩
/-- A row of texts, one more behind it: one step of a region. -/
theorem step_appS {P : Program} {ops : Array Oper} {o : Oper} {a : Act} {w : World} {K : Act → World → Prop} {Q : Exit → Act → World → Prop} {E : Prop} (hgd : o.guard = none) (s x : Operand) (t : TypeId)
    (ho : o.op = .call { callee := .builtin .append, args := #[s, x], argTypes := #[t, t] })
    (base : Nat) {e : TypeId} {z : Value} (hE : ElemIs P t e z 1 16) (v y : Value) (hs : a.eval s = v) (hx : a.eval x = y)
    {l : List Bt} (hown : OwnS w base e v l) {B : Nat} {m : List Bt} (hy : Ss w B y m) (hlen : l.length + m.length ≤ 8796093022208) (hbase : base ≤ w.heap.size)
    (h : ∀ v' w', OwnS w' base e v' (l ++ m) → w.grownBy w' v.ownBlock → (v'.ownBlock = v.ownBlock ∨ v'.ownBlock = some w.heap.size) → K (a.put o.dst v') w') :
    if Region.wanted o (yielded ops a.tmps) = true then Oper.wp P o a w K Q else E :=
  step_app hgd s x t ho base hE v y hs hx hown.row hy (svs_one _) (by simp only [svs_length, maxLen]; omega) (by rw [svs_length]; omega) hbase
    (fun v' w' n' h1 h2 h3 => h v' w' ⟨n', by rw [svs_append]; exact h1⟩ h2 h3)
/-- What stands in memory while the texts of what is within are put together: a list in a box, the node. -/
structure ExAt (w wr : World) (OB : Obj) (v : Value) (l : List Bt) : Prop where
  box : wr.heap[w.heap.size + 1]? = some (.cells #[v] 23 (0, 0))
  own : OwnS wr (w.heap.size + 2) 9 v l
  node : wr.heap[w.heap.size]? = some OB
  below : Below w.heap.size w wr
theorem ExAt.far {w wr w' : World} {OB : Obj} {v : Value} {l : List Bt} (h : ExAt w wr OB v l) (hb : Below wr.heap.size wr w') : ExAt w w' OB v l :=
  ⟨(hb.block _ (block_lt h.box)).trans h.box, h.own.below hb, (hb.block _ (block_lt h.node)).trans h.node, h.below.trans (hb.mono h.below.size)⟩
theorem ExAt.cell {w wr : World} {OB : Obj} {v : Value} {l : List Bt} (h : ExAt w wr OB v l) : wr.cell? ⟨w.heap.size + 1, 0, none⟩ = some v := (cell_of_row _ _ _ _ _ _ h.box).trans rfl
theorem ExAt.grown {w wr w' : World} {OB : Obj} {v v' : Value} {l l' : List Bt} (h : ExAt w wr OB v l) (ho : OwnS w' (w.heap.size + 2) 9 v' l') (hg : wr.grownBy w' v.ownBlock) :
    w'.cell? ⟨w.heap.size + 1, 0, none⟩ = some v ∧ w'.frozen? ⟨w.heap.size + 1, 0, none⟩ = false ∧ ExAt w (w'.setCell ⟨w.heap.size + 1, 0, none⟩ v') OB v' l' := by
  have hlt := h.own.lt
  have hb := (hg.block _ (block_lt h.box) (by intro e; have := (hlt _ e.symm).1; omega)).trans h.box
  have hn := (hg.block _ (block_lt h.node) (by intro e; have := (hlt _ e.symm).1; omega)).trans h.node
  have hbl : Below w.heap.size w w' := h.below.grown hg h.below.size (fun k hk => by have := (hlt k hk).1; omega)
  have t := turn_set w' (w.heap.size + 1) 0 v'
  refine ⟨(cell_of_row _ _ _ _ _ _ hb).trans rfl, block_free hb 0, heap_setCell_same _ _ _ _ _ _ hb, ho.turn t (fun g hg e => by have := (ho.lt g hg).1; omega), block_turn hn t (by omega), hbl.trans (t.below hbl.size (fun k hk e => by omega))⟩
theorem OwnS.cell {w : World} {base : Nat} {e : TypeId} {g c n : Nat} {l : List Bt} (h : OwnS w base e (.slice (some ⟨g, 0, none⟩) n c) l) (j : Nat) (hj : j < l.length) : w.cell? ⟨g, j, none⟩ = some (sv l[j]) := by
  have := h.row.cells (g := g) rfl j _ (svs_get l j hj)
  rwa [plain_add, Nat.zero_add] at this
set_option maxRecDepth 100000 in
set_option maxHeartbeats 2000000 in
theorem expr1_any (w : World) (bt bk : Nat) (k : Int) (text : Bt) (n li co : Int) (A1 : Option Addr) (n1 c1 : Nat) (A2 : Option Addr) (a c2 : Nat) (A3 : Option Addr) (n3 c3 : Nat) (g : Nat) (d c : Nat) (ns S : List Bt)
    (hbt : w.heap[bt]? = some (.cells #[.int .i64 k, sv text, .int .i64 n, .int .i64 li, .int .i64 co, .slice A1 n1 c1, .slice A2 a c2, .slice A3 n3 c3] 26 (0, 0))) (hbk : w.cell? ⟨bk, 0, none⟩ = some (.slice (some ⟨g, 0, none⟩) d c))
    (s2 : Ss w w.heap.size (.slice A2 a c2) ns) (hS : ∀ (j : Nat) (hj : j < S.length), w.cell? ⟨g, j, none⟩ = some (sv S[j])) (hd : d = S.length) (hdc : d ≤ 1000000) (ha : a = ns.length) (i : Nat) (hi : i < S.length) (hin : i < ns.length) (hl1 : ns[i].length ≤ 32) (hl2 : S[i].length ≤ 1000000000) :
    Calls Tryz.prog 73 #[.int .i64 (i : Int), .pointer (some ⟨bt, 0, none⟩), .pointer (some ⟨bk, 0, none⟩)] w fun e w' => e = .returned (sv (fieldS ns[i] S[i])) ∧ Below w.heap.size w w' := by
  obtain ⟨_, _, _, _, _, _, g6, _⟩ := t_row8 hbt
  subst ha
  obtain ⟨b1, o1, rfl, d0⟩ := text_at s2 hin
  have e0 := hS i hi
  have l1 := (t_sl_len s2).2
  have hsz0 := sv_size ns[i]
  have hsz1 := sv_size S[i]
  have hid_ : i < d := by omega
  generalize ns[i] = X at *
  generalize S[i] = s at *
  generalize ns.length = a at *
  have HF : Hid (fieldS X s = (X ++ [58, 32]) ++ s) := hid (by unfold fieldS; rw [List.append_assoc])
  have q0 : ¬ (9223372036854775807 < X.length + 2) := by omega
  have q1 : ¬ (9223372036854775807 < X.length + 2 + s.length) := by omega
  have G6 := hid g6
  have D0 := hid d0
  have E0 := hid e0
  have GK := hid hbk
  have HB0 : Hid (Below w.heap.size w w.drew) := hid (below_drawn w 1)
  clear hbt s2 hS hd g6 d0 e0 hbk hl1 hl2 hi
  go_enter Tryz.func73, Tryz.ntmps73
  go_wp2_with fail
  refine wp_region_held_drew (S := fun w' => Below w.heap.size w w') (by kernel_rfl) HB0.out (fun _ => ?_)
  try simp only [Act.put, List.getElem_toArray, List.getElem_cons_zero, List.getElem_cons_succ, List.setIfInBounds_toArray, List.set_cons_zero, List.set_cons_succ]
  refine tk 0 (.pointer (some ⟨bt, 6, none⟩)) HB0.out ?_
  refine tkf 1 (.slice (some ⟨b1, o1, none⟩) a c2) (kp1 G6.out) HB0.out ?_
  refine tk 2 (.int .i64 (i : Int)) HB0.out ?_
  refine tk 3 (.pointer (some ⟨b1, o1 + i, none⟩)) HB0.out ?_
  refine tkf 4 (sv X) (kp1 D0.out) HB0.out ?_
  refine tk 5 (.string ((⟨X.toArray⟩ : ByteArray) ++ ⟨#[58, 32]⟩)) HB0.out ?_
  refine tkf 6 (.slice (some ⟨g, 0, none⟩) d c) (kp1 GK.out) HB0.out ?_
  refine tk 7 (.int .i64 (i : Int)) HB0.out ?_
  refine tk 8 (.pointer (some ⟨g, i, none⟩)) HB0.out ?_
  refine tkf 9 (sv s) (kp1 E0.out) HB0.out ?_
  refine tk 10 (.string ((⟨X.toArray⟩ : ByteArray) ++ ⟨#[58, 32]⟩ ++ ⟨s.toArray⟩)) HB0.out ?_
  refine tk 11 (.string ((⟨X.toArray⟩ : ByteArray) ++ ⟨#[58, 32]⟩ ++ ⟨s.toArray⟩)) HB0.out ?_
  refine wpAnyH_done (by kernel_rfl) ?_ _
  go_wp2_with fail
  go_ret
  refine ⟨?_, HB0.out⟩
  rw [HF.out]
  have e : (⟨X.toArray⟩ : ByteArray) ++ ⟨([58, 32] : Bt).toArray⟩ ++ ⟨s.toArray⟩ = ⟨(X ++ ([58, 32] : Bt) ++ s).toArray⟩ := by
    rw [str_append, str_append]
  exact congrArg (fun b => Ending.returned (Value.string b)) e
set_option maxRecDepth 100000 in
set_option maxHeartbeats 4000000 in
theorem simple_any (w : World) (z : List Value) (k : Int) (text : Bt) (n li co : Int) (ts : List TyD) (ns : List Bt) (ks : List NoD) (hr : NoR w w.heap.size z (.mk k text n li co ts ns ks)) (hk : k = 0 ∨ k = 1 ∨ k = 2 ∨ k = 3 ∨ k = 4 ∨ k = 18 ∨ k = 19) (hn : In64 n) (h2 : k = 2 → n = 0 ∨ n = 1) (ht : text.length ≤ 256) (hw : ts.all (writtenB 16) = true) (hc : cntTs ts ≤ 100000) (hX : LaidT w) :
    Calls Tryz.prog 74 #[.agg z.toArray] w fun e w' => e = .returned (sv (simpleS k text n ts)) ∧ Below w.heap.size w w' := by
  obtain ⟨A1, c1, A2, c2, A3, c3, xt, xk, rfl, s1, r1, s2, s3, r3⟩ := hr.parts
  clear hr s2 s3 r3
  obtain ⟨b, hB⟩ : ∃ b, ns.length = b := ⟨_, rfl⟩
  obtain ⟨d, hD⟩ : ∃ d, ks.length = d := ⟨_, rfl⟩
  rw [hB, hD]
  clear hB hD
  obtain ⟨W, hW⟩ : ∃ W, w.alloc (.cells #[.int .i64 k, sv text, .int .i64 n, .int .i64 li, .int .i64 co, .slice A1 ts.length c1, .slice A2 b c2, .slice A3 d c3] 26) = W := ⟨_, rfl⟩
  have hb1 : Below w.heap.size w W := by rw [← hW]; exact (Below.refl _ _).alloc (Nat.le_refl _) _
  have hbx : W.heap[w.heap.size]? = some (.cells #[.int .i64 k, sv text, .int .i64 n, .int .i64 li, .int .i64 co, .slice A1 ts.length c1, .slice A2 b c2, .slice A3 d c3] 26 (0, 0)) := by rw [← hW]; exact heap_alloc_new w _
  obtain ⟨_, g1, _, _, _, g5, _, _⟩ := t_row8 hbx
  have G1 := hid g1
  have G5 := hid g5
  have HB := hid hb1
  have HWE := hid hW
  have HX := hid (hX.below hb1)
  have HS1 := hid (And.intro (Sl.more (Sl.below s1 hb1) hb1.size) ((r1.keep hb1).more hb1.size))
  have hlt := (show_types hw hc).1
  have hla := (t_sl_len s1).2
  clear hb1 hbx hX s1 r1 g1 g5
  rcases hk with rfl | rfl | rfl | rfl | rfl | rfl | rfl
  · have HT : Hid (simpleS 0 text n ts = Lib.itoa n) := hid rfl
    rw [HT.out]
    have HS := hid (show_tab n W hn HX.out.1)
    rw [← hW] at HS
    clear hW
    generalize Lib.itoa n = s at *
    go_enter Tryz.func74, Tryz.ntmps74
    go_wp2_with fail
    refine HS.out.mono ?_
    rintro e w2 ⟨rfl, hb⟩
    rw [HWE.out] at hb
    go_wp2_with fail
    go_ret
    exact ⟨rfl, HB.out.trans (hb.mono HB.out.size)⟩
  · have HT : Hid (simpleS 1 text n ts = quoteW text) := hid rfl
    rw [HT.out]
    have HS := hid (quote_any W text (by omega))
    rw [← hW] at HS
    clear hW
    generalize quoteW text = s at *
    go_enter Tryz.func74, Tryz.ntmps74
    go_wp2_with fail
    refine HS.out.mono ?_
    rintro e w2 ⟨rfl, hb⟩
    rw [HWE.out] at hb
    go_wp2_with fail
    go_ret
    exact ⟨rfl, HB.out.trans (hb.mono HB.out.size)⟩
  · clear hW
    rcases h2 rfl with rfl | rfl
    · have HT : Hid (simpleS 2 text 0 ts = [102, 97, 108, 115, 101]) := hid rfl
      rw [HT.out]
      have hix : ∀ u, (Instr.index 139 (.agg #[.string ⟨#[102, 97, 108, 115, 101]⟩, .string ⟨#[116, 114, 117, 101]⟩]) (.int .i64 0)).run Tryz.prog u = .ok (.string ⟨#[102, 97, 108, 115, 101]⟩) u := fun _ => by kernel_rfl
      rw [← HWE.out] at HB
      go_enter Tryz.func74, Tryz.ntmps74
      go_wp2_with fail
      go_ret
      exact ⟨rfl, HB.out⟩
    · have HT : Hid (simpleS 2 text 1 ts = [116, 114, 117, 101]) := hid rfl
      rw [HT.out]
      have hix : ∀ u, (Instr.index 139 (.agg #[.string ⟨#[102, 97, 108, 115, 101]⟩, .string ⟨#[116, 114, 117, 101]⟩]) (.int .i64 1)).run Tryz.prog u = .ok (.string ⟨#[116, 114, 117, 101]⟩) u := fun _ => by kernel_rfl
      rw [← HWE.out] at HB
      go_enter Tryz.func74, Tryz.ntmps74
      go_wp2_with fail
      go_ret
      exact ⟨rfl, HB.out⟩
  · have HT : Hid (simpleS 3 text n ts = [110, 117, 108, 108]) := hid rfl
    rw [HT.out]
    rw [← HWE.out] at HB
    clear hW
    go_enter Tryz.func74, Tryz.ntmps74
    go_wp2_with fail
    go_ret
    exact ⟨rfl, HB.out⟩
  · have HT : Hid (simpleS 4 text n ts = text) := hid rfl
    rw [HT.out]
    rw [← HWE.out] at HB
    clear hW
    go_enter Tryz.func74, Tryz.ntmps74
    go_wp2_with fail
    go_ret
    exact ⟨rfl, HB.out⟩
  · have HT : Hid (simpleS 18 text n ts = [114, 101, 97, 100, 40, 41]) := hid rfl
    rw [HT.out]
    rw [← HWE.out] at HB
    clear hW
    go_enter Tryz.func74, Tryz.ntmps74
    go_wp2_with fail
    go_ret
    exact ⟨rfl, HB.out⟩
  · have HT : Hid (simpleS 19 text n ts = text ++ [91] ++ joinS [44, 32] (ts.map showT) ++ [93]) := hid (by show cat [text, [91], joinS [44, 32] (ts.map showT), [93]] = _; simp [cat])
    rw [HT.out]
    have HS := hid (fun (w1 : World) (h : Below W.heap.size W w1) => types_any w1 ts A1 c1 xt (Sl.more (Sl.below HS1.out.1 h) h.size) ((HS1.out.2.keep h).more h.size) hw hc)
    obtain ⟨a, ha⟩ : ∃ a, ts.length = a := ⟨_, rfl⟩
    rw [ha] at HS HWE G5 hW hla ⊢
    clear hw hc HT ha HS1
    generalize joinS [44, 32] (ts.map showT) = s at *
    generalize text = X at *
    have hsz := sv_size s
    have hsz1 := sv_size X
    have q0 : ¬ (9223372036854775807 < X.length + 1) := by omega
    have q1 : ¬ (9223372036854775807 < X.length + 1 + s.length) := by omega
    have q2 : ¬ (9223372036854775807 < X.length + 1 + s.length + 1) := by omega
    have HB0 : Hid (Below W.heap.size W W.drew) := hid (below_drawn W 1)
    clear hW
    go_enter Tryz.func74, Tryz.ntmps74
    go_wp2_with fail
    have hW := HWE.out
    rw [hW]
    clear hW
    refine wp_region_held_drew (S := fun w' => Below W.heap.size W w') (by kernel_rfl) HB0.out (fun _ => ?_)
    try simp only [Act.put, List.getElem_toArray, List.getElem_cons_zero, List.getElem_cons_succ, List.setIfInBounds_toArray, List.set_cons_zero, List.set_cons_succ]
    refine tk 0 (.pointer (some ⟨w.heap.size, 1, none⟩)) HB0.out ?_
    refine tkf 1 (sv X) (kp1 G1.out) HB0.out ?_
    refine tk 2 (.string ((⟨X.toArray⟩ : ByteArray) ++ ⟨#[91]⟩)) HB0.out ?_
    refine tk 3 (.pointer (some ⟨w.heap.size, 5, none⟩)) HB0.out ?_
    refine tkf 4 (.slice A1 a c1) (kp1 G5.out) HB0.out ?_
    refine wpAnyH_ready (rs := [5]) (by kernel_rfl) (by simp) ?_
    refine AllReadyH.cons rfl (fun K hK => ?_) (AllReadyH.nil)
    go_simp
    refine (HS.out _ HB0.out).mono ?_
    rintro e w2 ⟨rfl, hb⟩
    have HB2 := hid (HB0.out.trans (hb.mono HB0.out.size))
    clear hb
    refine hK.out _ _ HB2.out (fun _ => ?_)
    clear hK K
    try simp only [Act.put, List.getElem_toArray, List.getElem_cons_zero, List.getElem_cons_succ, List.setIfInBounds_toArray, List.set_cons_zero, List.set_cons_succ]
    refine tk 6 (.string ((⟨X.toArray⟩ : ByteArray) ++ ⟨#[91]⟩ ++ ⟨s.toArray⟩)) HB2.out ?_
    refine tk 7 (.string ((⟨X.toArray⟩ : ByteArray) ++ ⟨#[91]⟩ ++ ⟨s.toArray⟩ ++ ⟨#[93]⟩)) HB2.out ?_
    refine tk 8 (.string ((⟨X.toArray⟩ : ByteArray) ++ ⟨#[91]⟩ ++ ⟨s.toArray⟩ ++ ⟨#[93]⟩)) HB2.out ?_
    refine wpAnyH_done (by kernel_rfl) ?_ _
    go_wp2_with fail
    go_ret
    refine ⟨?_, HB.out.trans (HB2.out.mono HB.out.size)⟩
    have e : (⟨X.toArray⟩ : ByteArray) ++ ⟨([91] : Bt).toArray⟩ ++ ⟨s.toArray⟩ ++ ⟨([93] : Bt).toArray⟩ = ⟨(X ++ ([91] : Bt) ++ s ++ ([93] : Bt)).toArray⟩ := by
      rw [str_append, str_append, str_append]
    exact congrArg (fun b => Ending.returned (Value.string b)) e
end Go.Proofs.YtbpedjkebemhnaaGreatDoor
end
section
/- Texts that belong together: UD, UE, UF, UR. -/
/- Which bytes of a text are not for a string: rune by rune and byte by byte. -/
set_option linter.unusedVariables false
namespace Go.Proofs.YtbpedjkebemhnaaGreatDoor

def okS (s : Bt) : Bool := s.all (fun c => !(decide (c < 32) && c != 9 && c != 10))
/-- May not stand in a string. -/
def badC (n : Nat) : Bool := decide (n < 32) && n != 9 && n != 10
theorem dec_low (s : ByteArray) (i : Nat) (h : (s.get! i).toNat < 128) : Utf8.decode s i = ((s.get! i).toNat, 1) := by
  unfold Utf8.decode
  simp only [Nat.add_zero]
  rw [if_pos h]
theorem cont_high (s : ByteArray) (i k : Nat) (h : (decide (i + k < s.size) && (s.get! (i + k)).toNat / 64 == 2) = true) : 128 ≤ (s.get! (i + k)).toNat := by
  rw [Bool.and_eq_true, beq_iff_eq] at h
  omega
theorem dec_high (s : ByteArray) (i : Nat) (h : 128 ≤ (s.get! i).toNat) : 128 ≤ (Utf8.decode s i).1 ∧ ∀ j, j < (Utf8.decode s i).2 → 128 ≤ (s.get! (i + j)).toNat := by
  have h0 : ∀ j, j < 1 → 128 ≤ (s.get! (i + j)).toNat := by
    intro j hj
    obtain rfl : j = 0 := by omega
    exact h
  unfold Utf8.decode
  simp only [Nat.add_zero]
  rw [if_neg (by omega)]
  split
  · rename_i h1
    rw [Bool.and_eq_true] at h1
    have a1 := cont_high s i 1 h1.2
    split
    · rename_i h2
      refine ⟨h2, fun j hj => ?_⟩
      have hj : j < 2 := hj
      obtain rfl | rfl : j = 0 ∨ j = 1 := by omega
      · exact h
      · exact a1
    · exact ⟨by decide, h0⟩
  split
  · rename_i h1
    rw [Bool.and_eq_true, Bool.and_eq_true] at h1
    have a1 := cont_high s i 1 h1.1.2
    have a2 := cont_high s i 2 h1.2
    split
    · rename_i h2
      rw [Bool.and_eq_true, decide_eq_true_eq] at h2
      refine ⟨by have := h2.1; omega, fun j hj => ?_⟩
      have hj : j < 3 := hj
      obtain rfl | rfl | rfl : j = 0 ∨ j = 1 ∨ j = 2 := by omega
      · exact h
      · exact a1
      · exact a2
    · exact ⟨by decide, h0⟩
  split
  · rename_i h1
    rw [Bool.and_eq_true, Bool.and_eq_true, Bool.and_eq_true] at h1
    have a1 := cont_high s i 1 h1.1.1.2
    have a2 := cont_high s i 2 h1.1.2
    have a3 := cont_high s i 3 h1.2
    split
    · rename_i h2
      rw [Bool.and_eq_true, decide_eq_true_eq] at h2
      refine ⟨by have := h2.1; omega, fun j hj => ?_⟩
      have hj : j < 4 := hj
      obtain rfl | rfl | rfl | rfl : j = 0 ∨ j = 1 ∨ j = 2 ∨ j = 3 := by omega
      · exact h
      · exact a1
      · exact a2
      · exact a3
    · exact ⟨by decide, h0⟩
  · exact ⟨by decide, h0⟩
theorem get_at (s : Bt) (i : Nat) (h : i < s.length) : ((⟨s.toArray⟩ : ByteArray).get! i) = s[i] := by
  show s.toArray[i]! = s[i]
  rw [getElem!_pos s.toArray i (by simpa using h)]
  simp
theorem bad_byte (c : UInt8) : badC c.toNat = (decide (c < 32) && c != 9 && c != 10) := by
  have h1 : (decide (c.toNat < 32)) = decide (c < 32) := by
    rw [decide_eq_decide, UInt8.lt_iff_toNat_lt]; rfl
  have h2 : ∀ d : UInt8, (c.toNat != d.toNat) = (c != d) := by
    intro d
    by_cases h : c = d
    · subst h; simp
    · have : c.toNat ≠ d.toNat := fun e => h (UInt8.toNat_inj.1 e)
      simp [bne, beq_eq_false_iff_ne.2 h, beq_eq_false_iff_ne.2 this]
  unfold badC
  rw [h1, show (9 : Nat) = (9 : UInt8).toNat from rfl, show (10 : Nat) = (10 : UInt8).toNat from rfl, h2, h2]
/-- The bytes up to a place are for a string. -/
def FineTo (s : Bt) (p : Nat) : Prop := ∀ j, j < p → ∀ h : j < s.length, badC s[j].toNat = false
theorem fine_step {s : Bt} {p : Nat} (h : FineTo s p) (hp : p < s.length) (hb : badC (Utf8.decode ⟨s.toArray⟩ p).1 = false) : FineTo s (p + (Utf8.decode ⟨s.toArray⟩ p).2) := by
  intro j hj hl
  rcases Nat.lt_or_ge j p with h1 | h1
  · exact h j h1 hl
  · rcases Nat.lt_or_ge ((⟨s.toArray⟩ : ByteArray).get! p).toNat 128 with h2 | h2
    · rw [dec_low _ _ h2] at hj hb
      have hj : j < p + 1 := hj
      obtain rfl : j = p := by omega
      rw [get_at s j hl] at hb
      exact hb
    · have h3 := (dec_high _ _ h2).2 (j - p) (by omega)
      rw [show p + (j - p) = j by omega, get_at s j hl] at h3
      have : decide (s[j].toNat < 32) = false := decide_eq_false (by omega)
      unfold badC
      rw [this]; rfl
theorem bad_here {s : Bt} {p : Nat} (hp : p < s.length) (hb : badC (Utf8.decode ⟨s.toArray⟩ p).1 = true) : s.all (fun c => !(decide (c < 32) && c != 9 && c != 10)) = false := by
  rcases Nat.lt_or_ge ((⟨s.toArray⟩ : ByteArray).get! p).toNat 128 with h2 | h2
  · rw [dec_low _ _ h2, get_at s p hp] at hb
    cases ha : s.all (fun c => !(decide (c < 32) && c != 9 && c != 10)) with
    | false => rfl
    | true =>
      have := List.all_eq_true.1 ha _ (List.getElem_mem hp)
      rw [← bad_byte] at this
      have hb : badC s[p].toNat = true := hb
      rw [hb] at this
      cases this
  · have h3 := (dec_high _ _ h2).1
    unfold badC at hb
    rw [decide_eq_false (by omega)] at hb
    cases hb
theorem fine_all {s : Bt} {p : Nat} (h : FineTo s p) (hp : s.length ≤ p) : s.all (fun c => !(decide (c < 32) && c != 9 && c != 10)) = true := by
  rw [List.all_eq_true]
  intro c hc
  obtain ⟨j, hj, rfl⟩ := List.getElem_of_mem hc
  rw [← bad_byte, h j (by omega) hj]
  rfl
end Go.Proofs.YtbpedjkebemhnaaGreatDoor

/- Which texts may be strings: tree.str. -/
set_option linter.unusedVariables false
namespace Go.Proofs.YtbpedjkebemhnaaGreatDoor
open Go.RowKit

theorem strf_any (R : Nat) (w : World) (h1 : R ≤ 1114111) : Calls Tryz.prog 143 #[.int .i32 (R : Int)] w fun e w' => e = .returned (.bool (badC R)) ∧ w' = w := by
  by_cases h32 : R < 32
  · have g1 : decide ((R : Int) < 32) = true := by simp; omega
    by_cases h9 : R = 9
    · subst h9
      go_enter Tryz.func143, Tryz.ntmps143
      go_wp2_with fail
      go_ret
      exact ⟨rfl, rfl⟩
    · by_cases h10 : R = 10
      · subst h10
        go_enter Tryz.func143, Tryz.ntmps143
        go_wp2_with fail
        go_ret
        exact ⟨rfl, rfl⟩
      · have g2 : ((R : Int) != 9) = true := by rw [bne_iff_ne]; omega
        have g3 : ((R : Int) != 10) = true := by rw [bne_iff_ne]; omega
        have HT : Hid (badC R = true) := hid (by unfold badC; simp [h32, h9, h10])
        rw [HT.out]
        clear h32 h9 h10 h1
        go_enter Tryz.func143, Tryz.ntmps143
        go_wp2_with fail
        go_ret
        exact ⟨rfl, rfl⟩
  · have g1 : decide ((R : Int) < 32) = false := by simp; omega
    have HT : Hid (badC R = false) := hid (by unfold badC; simp [h32])
    rw [HT.out]
    clear h32 h1
    go_enter Tryz.func143, Tryz.ntmps143
    go_wp2_with fail
    go_ret
    exact ⟨rfl, rfl⟩

/-- Where the first that no string may have stands, or -1. -/
def AtBad (s : Bt) (w : World) (e : Ending) (w' : World) : Prop := (∃ k : Int, e = .returned (.int .i64 k) ∧ (if okS s then k = -1 else 0 ≤ k)) ∧ Below w.heap.size w w'
set_option maxHeartbeats 2000000 in
set_option maxRecDepth 1000000 in
theorem indexbad_any (s : Bt) (w : World) :
    Calls Tryz.prog 174 #[sv s, .func (.func 143) #[] #[], .bool true] w (AtBad s w) := by
  have hsz := sv_size s
  obtain ⟨bs, hbs⟩ : ∃ bs : ByteArray, bs = ⟨s.toArray⟩ := ⟨_, rfl⟩
  have HBS := hid hbs
  rw [← hbs] at hsz
  show Calls Tryz.prog 174 #[.string ⟨s.toArray⟩, .func (.func 143) #[] #[], .bool true] w _
  rw [← hbs]
  clear hbs
  go_enter Tryz.func174, Tryz.ntmps174
  go_wp2_with fail
  go_loopg [] s.length (fun g wx => ∃ pos : Nat, wx.heap[w.heap.size]? = some (.stringIter bs pos) ∧ Below w.heap.size w wx ∧ FineTo s pos ∧ s.length ≤ pos + g)
  case atStart => exact ⟨0, World.iter_heap w bs 0, (Below.refl _ w).alloc (Nat.le_refl _) _, fun j hj => by omega, by omega⟩
  case round =>
    obtain ⟨pos, hit, hbw, hleft, hfu⟩ := hrel
    have hszw : w.heap.size < wr.heap.size := (Array.getElem?_eq_some_iff.1 hit).1
    by_cases hp : pos < bs.size
    · obtain ⟨g, rfl⟩ : ∃ g, gk = g + 1 := ⟨gk - 1, by omega⟩
      have hnx : ∀ ty, (Instr.next (.pointer (some ⟨w.heap.size, 0, none⟩)) true ty).run Tryz.prog wr = _ := fun ty => Lib.run_next_any_at wr w.heap.size bs pos ty hit hp
      have hwd := Lib.width_pos bs pos
      have hr1 := Lib.rune_le bs pos
      have hst : ∀ R K, Utf8.decode bs pos = (R, K) → (badC R = false → FineTo s (pos + K)) ∧ (badC R = true → okS s = false) := by
        intro R K h
        rw [HBS.out] at h
        have hps : pos < s.length := by omega
        constructor
        · intro hb
          have := fine_step hleft hps (by rw [h]; exact hb)
          rw [h] at this
          exact this
        · intro hb
          exact bad_here hps (by rw [h]; exact hb)
      obtain ⟨R, hR⟩ : ∃ R, (Utf8.decode bs pos).1 = R := ⟨_, rfl⟩
      obtain ⟨K, hK⟩ : ∃ K, (Utf8.decode bs pos).2 = K := ⟨_, rfl⟩
      have hst := hst R K (by rw [← hR, ← hK])
      rw [hR, hK] at hnx
      rw [hR] at hr1
      rw [hK] at hwd
      have hit2 := Lib.iterAt_heap wr w.heap.size bs pos (pos + K) hit
      have hbw2 := Lib.below_iterAt hbw (k := w.heap.size) (Nat.le_refl _) bs (pos + K)
      obtain ⟨W, hWd⟩ : ∃ W, wr.iterAt w.heap.size bs (pos + K) = W := ⟨_, rfl⟩
      rw [hWd] at hnx hit2 hbw2
      have HC := hid (strf_any R W hr1)
      have HB2 := hid hbw2
      have HIT := hid hit2
      cases hb : badC R with
      | true =>
        rw [hb] at HC
        have HE := hid (hst.2 hb)
        clear hst hb hR hK hleft
        go_wp2_with fail
        refine HC.out.mono ?_
        rintro e w2 ⟨rfl, rfl⟩
        go_wp2_with fail
        go_ret
        exact ⟨⟨pos, rfl, by rw [HE.out]; simp⟩, HB2.out⟩
      | false =>
        rw [hb] at HC
        have HE := hid (hst.1 hb)
        clear hst hb hR hK hleft
        go_wp2_with fail
        refine HC.out.mono ?_
        rintro e w2 ⟨rfl, rfl⟩
        go_wp2_with fail
        go_roundg g
        case measure => omega
        case rel => exact ⟨pos + K, HIT.out, HB2.out, HE.out, by omega⟩
    · have hnx : ∀ ty, (Instr.next (.pointer (some ⟨w.heap.size, 0, none⟩)) true ty).run Tryz.prog wr = _ := fun ty => Lib.run_next_end_at wr w.heap.size bs pos ty hit hp
      have HE : Hid (okS s = true) := hid (fine_all hleft (by omega))
      have HB := hid hbw
      clear hleft hbw
      go_wp2_with fail
      go_ret
      exact ⟨⟨-1, rfl, by rw [HE.out]; simp⟩, HB.out⟩
theorem containsbad_any (s : Bt) (w : World) :
    Calls Tryz.prog 142 #[sv s, .func (.func 143) #[] #[]] w fun e w' => e = .returned (.bool (!okS s)) ∧ Below w.heap.size w w' := by
  have HI : Hid (∀ w1, Calls Tryz.prog 157 #[sv s, .func (.func 143) #[] #[]] w1 (AtBad s w1)) := hid (by
    intro w1
    have HJ := hid (indexbad_any s w1)
    go_enter Tryz.func157, Tryz.ntmps157
    go_wp2_with fail
    refine HJ.out.mono ?_
    rintro e w2 ⟨⟨k, rfl, hk⟩, hbel⟩
    have HK := hid hk
    clear hk
    go_wp2_with fail
    go_ret
    exact ⟨⟨k, rfl, HK.out⟩, hbel⟩)
  cases hb : okS s
  all_goals
    go_enter Tryz.func142, Tryz.ntmps142
    go_wp2_with fail
    refine (HI.out w).mono ?_
    rintro e w2 ⟨⟨k, rfl, hk⟩, hbel⟩
    rw [hb] at hk
    simp only [Bool.false_eq_true, if_false, if_true] at hk
    have HB := hid hbel
    clear hbel hb HI
  · have hg : decide (0 ≤ k) = true := by simpa using hk
    go_wp2_with fail
    go_ret
    exact ⟨rfl, HB.out⟩
  · subst hk
    go_wp2_with fail
    go_ret
    exact ⟨rfl, HB.out⟩
theorem tstr_any (s : Bt) (w : World) (hs : s.length ≤ maxLen) :
    Calls Tryz.prog 120 #[sv s] w fun e w' => e = .returned (.bool (strB s)) ∧ Below w.heap.size w w' := by
  have hsz := sv_size s
  unfold maxLen at hs
  by_cases hl : s.length ≤ 256
  · have hg : decide ((s.length : Int) ≤ 256) = true := by simp; omega
    have HT : Hid (strB s = okS s) := hid (by unfold strB okS; rw [decide_eq_true hl]; rfl)
    rw [HT.out]
    have HC := hid (containsbad_any s w)
    clear hl
    generalize okS s = b at *
    go_enter Tryz.func120, Tryz.ntmps120
    go_wp2_with fail
    refine HC.out.mono ?_
    rintro e w2 ⟨rfl, hb⟩
    go_wp2_with fail
    go_ret
    cases b <;> exact ⟨rfl, hb⟩
  · have hg : decide ((s.length : Int) ≤ 256) = false := by simp; omega
    have HT : Hid (strB s = false) := hid (by unfold strB; rw [decide_eq_false hl]; rfl)
    rw [HT.out]
    clear hl
    go_enter Tryz.func120, Tryz.ntmps120
    go_wp2_with fail
    go_ret
    exact ⟨rfl, Below.refl _ _⟩
end Go.Proofs.YtbpedjkebemhnaaGreatDoor

/- The operations: tree.Ops, and the reference's. -/
set_option linter.unusedVariables false
namespace Go.Proofs.YtbpedjkebemhnaaGreatDoor
open Go.RowKit

def opsT : Bt := [111, 114, 32, 97, 110, 100, 32, 60, 32, 60, 61, 32, 61, 61, 32, 43, 43, 32, 43, 32, 45, 32, 94, 32, 42, 32, 47, 32, 37, 32, 38, 32, 60, 60, 32, 62, 62]
theorem ops_fields : Lib.fields opsT = opsL := by kernel_rfl
theorem ops_ascii : (opsT.all fun b => decide (b.toNat < 128)) = true := by kernel_rfl
theorem ops_list : (⟨opsT.toArray⟩ : ByteArray).data.toList = opsT := rfl
set_option maxRecDepth 100000 in
theorem ops_any (w : World) (hL : LaidT w) : Calls Tryz.prog 18 #[] w fun e w' => ∃ v, e = .returned v ∧ Ss w' w'.heap.size v opsL ∧ Below w.heap.size w w' := by
  go_enter Tryz.func18, Tryz.ntmps18
  go_wp2_with fail
  refine (Tryz.strings_Fields ⟨opsT.toArray⟩ _ ?h1 ?h2 hL.2).mono ?_
  case h1 => decide
  case h2 =>
    intro j b hb
    rw [ops_list] at hb
    exact of_decide_eq_true (List.all_eq_true.1 ops_ascii b (List.mem_of_getElem? hb))
  rintro e w1 ⟨rfl, rfl⟩
  rw [ops_list, ops_fields]
  have hss : Ss (w.alloc (.cells (opsL.map fun l => Value.string ⟨l.toArray⟩).toArray 9)) (w.alloc (.cells (opsL.map fun l => Value.string ⟨l.toArray⟩).toArray 9)).heap.size (.slice (some ⟨w.heap.size, 0, none⟩) opsL.length opsL.length) opsL := by
    have := sl_new w (opsL.map fun l => Value.string ⟨l.toArray⟩).toArray 9 1 opsL.length (by simp) (by decide)
    rw [World.size_alloc]
    simpa [Ss, svs] using this
  have hb : Below w.heap.size w (w.alloc (.cells (opsL.map fun l => Value.string ⟨l.toArray⟩).toArray 9)) := (Below.refl _ _).alloc (Nat.le_refl _) _
  generalize (w.alloc (.cells (opsL.map fun l => Value.string ⟨l.toArray⟩).toArray 9)) = w2 at *
  generalize opsL.length = n at *
  go_wp2_with fail
  go_ret
  exact ⟨_, rfl, hss, hb⟩
end Go.Proofs.YtbpedjkebemhnaaGreatDoor

/- The reference's small functions: Ops, op, names, str. -/
set_option linter.unusedVariables false
namespace Go.Proofs.YtbpedjkebemhnaaGreatDoor
open Go.RowKit

end Go.Proofs.YtbpedjkebemhnaaGreatDoor
end
