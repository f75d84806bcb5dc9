/- A replacer at work: texts of one byte each, replaced by texts. -/
import Derived.Test.YtpgngegdflbahaaGreatDoorQC
import Derived.Test.YtpgngegdflbahaaGreatDoorPE
import Derived.Laws.CopyOwn
import Derived.Laws.OwnMore
set_option linter.unusedVariables false
namespace Go.Proofs.YtpgngegdflbahaaGreatDoor
open Go.RowKit

set_option maxRecDepth 100000 in
set_option maxHeartbeats 1000000 in
theorem once_any (w : World) (b : Nat) (ov : Value) (hR : repW w b 0 0 .nilIface ov) (hv : Ss w w.heap.size ov oldL) (hd : ∀ g, ov.ownBlock = some g → g ≠ b) :
    Calls Tryz.prog 21 #[.pointer (some ⟨b, 0, none⟩), .func (.func 22) #[.pointer (some ⟨b, 0, none⟩)] #[]] w fun e w' => e = .returned (.tuple #[]) ∧ Built w' w.heap.size b 1 0 ∧ Turn (fun k => k = b) w w' := by
  obtain ⟨⟨c0, c1, c3, c4⟩, fr⟩ := rep_cells hR
  have hl := run_call_load (P := Tryz.prog) Tryz.func40 (by kernel_rfl) (by kernel_rfl) (by kernel_rfl) .u32 (by kernel_rfl) c0
  have hnot : ∀ (x : Bool) (w : World), (Op.unary .not (.bool x)).run Tryz.prog w = .ok (.bool (!x)) w := fun _ _ => rfl
  have HS := hid (slow_any w b ov hR hv hd)
  clear hR hv hd c1 c3 c4 fr
  go_enter Tryz.func21, Tryz.ntmps21
  go_wp2_with (first | (go_at_call 33; refine HS.out.mono ?_; rintro e w2 ⟨rfl, hB, ht⟩) | (go_at_call 32; go_in))
  go_end0
  exact ⟨rfl, hB, ht⟩

set_option maxRecDepth 100000 in
set_option maxHeartbeats 1000000 in
theorem newrep_any (w : World) (ov : Value) (hv : Ss w w.heap.size ov oldL) :
    Calls Tryz.prog 10 #[ov] w fun e w' => ∃ b ov', e = .returned (.pointer (some ⟨b, 0, none⟩)) ∧ repW w' b 0 0 .nilIface ov' ∧ Ss w' w'.heap.size ov' oldL ∧ (∀ g, ov'.ownBlock = some g → g ≠ b) ∧ w.heap.size ≤ b ∧ Below w.heap.size w w' := by
  have hol : oldL.length = 8 := rfl
  have hv0 := hv
  obtain ⟨A, c, rfl, hn, hc, hx⟩ := hv0.open_
  rw [hol] at hn hv ⊢
  unfold maxLen at hc
  clear hx hv0
  go_enter Tryz.func10, Tryz.ntmps10
  go_wp2_with (at_builtin; refine wpList_appS rfl _ (.tmp 8) _ rfl w.heap.size el_str _ _ rfl rfl (OwnS.nil w w.heap.size 9) hv (by rw [hol]; simp) (Nat.le_refl _) (fun v1 w1 hown1 hg1 hbk1 => ?_); have hb1 := below_appS (Below.refl w.heap.size w) (OwnS.nil w w.heap.size 9) hg1 (Nat.le_refl _) (Nat.le_refl _); rw [List.nil_append] at hown1; obtain ⟨g1, c1, n1, rfl⟩ := own_shape hown1 (by rw [hol]; omega); clear hg1 hbk1)
  go_ret
  have hal : Below w1.heap.size w1 (w1.alloc (.cells #[.int .u32 0, .int .i32 0, .int .u32 0, .nilIface, .slice (some ⟨g1, 0, none⟩) n1 c1] 63)) := (Below.refl _ _).alloc (Nat.le_refl _) _
  refine ⟨w1.heap.size, .slice (some ⟨g1, 0, none⟩) n1 c1, rfl, heap_alloc_new w1 _, (hown1.below hal).ss, fun g hg => ?_, hb1.size, hb1.trans (hal.mono hb1.size)⟩
  have := (hown1.lt g hg).2
  omega
end Go.Proofs.YtpgngegdflbahaaGreatDoor
