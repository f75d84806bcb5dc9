/- A replacer made, and built once. -/
import Derived.Test.YtpgngegdflbahaaGreatDoorQB
set_option linter.unusedVariables false
namespace Go.Proofs.YtpgngegdflbahaaGreatDoor
open Go.RowKit

theorem rep_cells {w : World} {b : Nat} {d st : Int} {rv ov : Value} (h : repW w b d st rv ov) :
    (w.cell? ⟨b, 0, none⟩ = some (.int .u32 d) ∧ w.cell? ⟨b, 1, none⟩ = some (.int .i32 st) ∧ w.cell? ⟨b, 3, none⟩ = some rv ∧ w.cell? ⟨b, 4, none⟩ = some ov) ∧ ∀ i, w.frozen? ⟨b, i, none⟩ = false :=
  ⟨⟨(cell_of_row _ _ _ _ _ (0, 0) h).trans rfl, (cell_of_row _ _ _ _ _ (0, 0) h).trans rfl, (cell_of_row _ _ _ _ _ (0, 0) h).trans rfl, (cell_of_row _ _ _ _ _ (0, 0) h).trans rfl⟩, fun i => block_free h i⟩
theorem rep_set {w : World} {b : Nat} {d st : Int} {rv ov : Value} (h : repW w b d st rv ov) :
    (∀ x, repW (w.setCell ⟨b, 0, none⟩ (.int .u32 x)) b x st rv ov) ∧ (∀ x, repW (w.setCell ⟨b, 1, none⟩ (.int .i32 x)) b d x rv ov) ∧ (∀ x, repW (w.setCell ⟨b, 3, none⟩ x) b d st x ov) ∧ (∀ x, repW (w.setCell ⟨b, 4, none⟩ x) b d st rv x) :=
  ⟨fun x => heap_setCell_same w b 0 _ _ _ h, fun x => heap_setCell_same w b 1 _ _ _ h, fun x => heap_setCell_same w b 3 _ _ _ h, fun x => heap_setCell_same w b 4 _ _ _ h⟩
theorem TabM.turn {w w' : World} {base bs b : Nat} {m : List Bt} {l : List (UInt8 × Bt)} (h : TabM w base bs m l) (ht : Turn (fun k => k = b) w w') (hb : b < base) : TabM w' base bs m l := by
  obtain ⟨cs, tr, h1, h2, h3, h4, h5, h6, h7⟩ := h
  refine ⟨cs, tr, (ht.block (block_lt h1) (by omega)).trans h1, h2, h3, h4.turn ht (fun g hg h => by have := (h4.lt g hg).1; omega), h5, h6, fun c => ⟨(h7 c).1, fun u hu => ?_⟩⟩
  obtain ⟨g, k, a1, a0, a2, a3, a4, a7⟩ := (h7 c).2 u hu
  refine ⟨g, k, a1, a0, Nat.lt_of_lt_of_le a2 ht.size, a3, a4, fun j hj => ?_⟩
  have : w'.cell? ⟨g, j, none⟩ = w.cell? ⟨g, j, none⟩ := by simp only [World.cell?, ht.block a2 (show ¬ g = b by omega)]
  rw [this]; exact a7 j hj

/-- Built: the table stands, the list of what is replaced is let go. -/
def Built (w' : World) (base b : Nat) (d st : Int) : Prop := ∃ bs, repW w' b d st (.iface 92 (.pointer (some ⟨bs, 0, none⟩))) (.slice none 0 0) ∧ TabM w' base bs (escP.map fun p => [p.1]) escP
set_option maxRecDepth 100000 in
set_option maxHeartbeats 1000000 in
theorem buildOnce_any (w : World) (b : Nat) (ov : Value) (hR : repW w b 0 1 .nilIface ov) (hv : Ss w w.heap.size ov oldL) :
    Calls Tryz.prog 22 #[.pointer (some ⟨b, 0, none⟩)] w fun e w' => e = .returned (.tuple #[]) ∧ Built w' w.heap.size b 0 1 ∧ Turn (fun k => k = b) w w' := by
  have hb : b < w.heap.size := block_lt hR
  have hov : ∃ A n c, ov = .slice A n c := by obtain ⟨A, c, h, _⟩ := hv.open_; exact ⟨A, _, c, h⟩
  go_enter Tryz.func22, Tryz.ntmps22
  go_wp2_with fail
  refine (build_any w b ov hR hv).mono ?_
  rintro e w1 ⟨bs, rfl, hT, hb1⟩
  have hR1 : repW w1 b 0 1 .nilIface ov := (hb1.block b hb).trans hR
  obtain ⟨⟨c0, c1, c3, c4⟩, fr⟩ := rep_cells hR1
  have hR2 := (rep_set hR1).2.2.1 (.iface 92 (.pointer (some ⟨bs, 0, none⟩)))
  have hR3 := (rep_set hR2).2.2.2 (.slice none 0 0)
  obtain ⟨⟨k0, k1, k3, k4⟩, fr2⟩ := rep_cells hR2
  have f3 := fr 3
  have f4 := fr2 4
  have t1 := turn_set w1 b 3 (.iface 92 (.pointer (some ⟨bs, 0, none⟩)))
  have t2 := turn_set (w1.setCell ⟨b, 3, none⟩ (.iface 92 (.pointer (some ⟨bs, 0, none⟩)))) b 4 (.slice none 0 0)
  have t3 := t1.trans t2 (fun _ _ h => h)
  have hT3 := hT.turn t3 hb
  obtain ⟨A, n, c, rfl⟩ := hov
  go_wp2_with fail
  go_end0
  exact ⟨rfl, ⟨bs, hR3, hT3⟩, (Turn.of_below hb1).trans t3 (fun _ _ h => h)⟩
set_option maxRecDepth 100000 in
set_option maxHeartbeats 2000000 in
theorem slow_any (w : World) (b : Nat) (ov : Value) (hR : repW w b 0 0 .nilIface ov) (hv : Ss w w.heap.size ov oldL) (hd : ∀ g, ov.ownBlock = some g → g ≠ b) :
    Calls Tryz.prog 33 #[.pointer (some ⟨b, 0, none⟩), .func (.func 22) #[.pointer (some ⟨b, 0, none⟩)] #[]] w fun e w' => e = .returned (.tuple #[]) ∧ Built w' w.heap.size b 1 0 ∧ Turn (fun k => k = b) w w' := by
  have hb : b < w.heap.size := block_lt hR
  obtain ⟨⟨c0, c1, c3, c4⟩, fr⟩ := rep_cells hR
  have f1 := fr 1
  have hR1 := (rep_set hR).2.1 1
  have t1 := turn_set w b 1 (.int .i32 1)
  have hv1 : Ss (w.setCell ⟨b, 1, none⟩ (.int .i32 1)) (w.setCell ⟨b, 1, none⟩ (.int .i32 1)).heap.size ov oldL := by
    have h : (w.setCell ⟨b, 1, none⟩ (.int .i32 1)).heap.size = w.heap.size := by simp
    rw [h]
    exact Sl.keepB hv (fun g hg hlt => t1.block hlt (hd g hg))
  obtain ⟨⟨k0, k1, k3, k4⟩, fr1⟩ := rep_cells hR1
  obtain ⟨w1, hw1⟩ : ∃ w1, w.setCell ⟨b, 1, none⟩ (.int .i32 1) = w1 := ⟨_, rfl⟩
  have hs1 : w1.heap.size = w.heap.size := by rw [← hw1]; simp
  rw [hw1] at hR1 t1 hv1 k0 k1 k3 k4 fr1
  have hl := run_call_load (P := Tryz.prog) Tryz.func40 (by kernel_rfl) (by kernel_rfl) (by kernel_rfl) .u32 (by kernel_rfl) (w := w1) (a := ⟨b, 0, none⟩) (x := 0) k0
  have hnot : ∀ (x : Bool) (w : World), (Op.unary .not (.bool x)).run Tryz.prog w = .ok (.bool (!x)) w := fun _ _ => rfl
  have HR1 := hid hR1
  have HV1 := hid hv1
  have T1 := hid t1
  clear hR1 hv1 t1 hv hR
  go_enter_defers Tryz.func33, Tryz.ntmps33
  go_wp2_with (first | (go_at_call 41; refine (lock_free ⟨b, 1, none⟩ _ c1 f1).mono ?_; rintro e w' ⟨rfl, rfl⟩; rw [hw1]) | (go_at_call 32; go_in) | (go_at_call 22; refine (buildOnce_any w1 b ov HR1.out HV1.out).mono ?_; rintro e w2 ⟨rfl, hB, ht⟩))
  obtain ⟨bs, hR2, hT2⟩ := hB
  have hR3 : repW w2.drew b 0 1 (.iface 92 (.pointer (some ⟨bs, 0, none⟩))) (.slice none 0 0) := hR2
  obtain ⟨⟨a0, a1, a3, a4⟩, fa⟩ := rep_cells hR2
  have hR4 := (rep_set hR3).1 1
  obtain ⟨⟨m0, m1, m3, m4⟩, fm⟩ := rep_cells hR4
  have hR5 := (rep_set hR4).2.1 0
  have t2 : Turn (fun k => k = b) w2 ((w2.drew.setCell ⟨b, 0, none⟩ (.int .u32 1)).setCell ⟨b, 1, none⟩ (.int .i32 0)) :=
    ((Turn.of_below (below_drawn (B := w2.heap.size) w2 1)).trans (turn_set w2.drew b 0 (.int .u32 1)) (fun _ _ h => h)).trans (turn_set _ b 1 (.int .i32 0)) (fun _ _ h => h)
  rw [hs1] at hT2
  have hT5 := hT2.turn t2 hb
  have fa0 := fa 0
  have fm1 := fm 1
  go_wp2
  refine leaves_cons (f := 43) (args := #[.pointer (some ⟨b, 0, none⟩), .bool true]) (by simp) (by simp [go_sem]) ?_
  refine (store_deferred ⟨b, 0, none⟩ (.int .u32 0) .returning w2 a0 fa0).mono ?_
  rintro e u' w'' ⟨rfl, rfl, rfl⟩
  refine leaves_cons (f := 42) (args := #[.pointer (some ⟨b, 1, none⟩)]) (by simp [settle]) (by simp [go_sem]) ?_
  refine (unlock_deferred ⟨b, 1, none⟩ _ _ m1 fm1).mono ?_
  rintro e u' w'' ⟨rfl, rfl, rfl⟩
  have hfin : Built ((w2.drew.setCell ⟨b, 0, none⟩ (.int .u32 1)).setCell ⟨b, 1, none⟩ (.int .i32 0)) w.heap.size b 1 0 := ⟨bs, hR5, hT5⟩
  have htn := (T1.out.trans ht (fun _ _ h => h)).trans t2 (fun _ _ h => h)
  simp [Leaves, settle, results, Tryz.results33]
  exact ⟨hfin, htn⟩
end Go.Proofs.YtpgngegdflbahaaGreatDoor
