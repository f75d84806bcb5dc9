/- The contracts of a replacer's Replace and of lex's Quote. -/
import Derived.Test.YtpgngegdflbahaaGreatDoorQE
set_option linter.unusedVariables false
namespace Go.Proofs.YtpgngegdflbahaaGreatDoor
open Go.RowKit

set_option maxRecDepth 100000 in
set_option maxHeartbeats 1000000 in
theorem replace_any (w : World) (b : Nat) (ov : Value) (s : Bt) (hR : repW w b 0 0 .nilIface ov) (hv : Ss w w.heap.size ov oldL) (hd : ∀ g, ov.ownBlock = some g → g ≠ b) (hs : s.length ≤ 1000000) :
    Calls Tryz.prog 11 #[.pointer (some ⟨b, 0, none⟩), sv s] w fun e w' => e = .returned (sv (s.flatMap escW)) ∧ Turn (fun k => k = b) w w' := by
  have hmf : ∀ (fn : Fn) (first cap : Array Value) (w : World), (Instr.makeFunc fn first cap).run Tryz.prog w = .ok (.func fn first cap) w := fun _ _ _ _ => rfl
  have HO := hid (once_any w b ov hR hv hd)
  clear hR hv hd
  go_enter Tryz.func11, Tryz.ntmps11
  go_wp2_with fail
  refine HO.out.mono ?_
  rintro e w1 ⟨rfl, ⟨bs, hR1, hT1⟩, ht1⟩
  obtain ⟨⟨c0, c1, c3, c4⟩, fr⟩ := rep_cells hR1
  clear HO
  go_wp2_with fail
  refine (bsr_any w1 _ bs s hT1 hs).mono ?_
  rintro e w2 ⟨rfl, hb2⟩
  have htn := ht1.trans (Turn.of_below (F := fun k => k = b) hb2) (fun _ _ h => h)
  go_wp2_with fail
  go_ret
  exact ⟨rfl, htn⟩
set_option maxRecDepth 100000 in
set_option maxHeartbeats 1000000 in
theorem quote_any (w : World) (s : Bt) (hs : s.length ≤ 1000000) : Calls Tryz.prog 6 #[sv s] w fun e w' => e = .returned (sv (quoteW s)) ∧ Below w.heap.size w w' := by
  have hss : Ss (w.alloc (.cells (svs oldL).toArray 9)) (w.alloc (.cells (svs oldL).toArray 9)).heap.size (.slice (some ⟨w.heap.size, 0, none⟩) 8 8) oldL := by
    have := sl_new w (svs oldL).toArray 9 1 8 (by simp [svs_length]; rfl) (by decide)
    rw [World.size_alloc]
    simpa [Ss] using this
  have hb : Below w.heap.size w (w.alloc (.cells (svs oldL).toArray 9)) := (Below.refl _ _).alloc (Nat.le_refl _) _
  have hfl : (s.flatMap escW).length ≤ 2 * s.length := by have h1 := esc_len s; have h2 := escN_le s; omega
  have hq : sv (quoteW s) = Value.string ((⟨#[34]⟩ : ByteArray) ++ ⟨(s.flatMap escW).toArray⟩ ++ ⟨#[34]⟩) := by
    rw [show (⟨#[34]⟩ : ByteArray) = ⟨([34] : Bt).toArray⟩ from rfl, str_append, str_append]
    rfl
  rw [hq]
  clear hq
  obtain ⟨x, hx⟩ : ∃ x, s.flatMap escW = x := ⟨_, rfl⟩
  have HR := hid (fun w b ov h1 h2 h3 => replace_any w b ov s h1 h2 h3 hs)
  rw [hx] at HR hfl ⊢
  clear hx
  have hxs := sv_size x
  go_enter Tryz.func6, Tryz.ntmps6
  go_wp2_with fail
  generalize hw : w.alloc (.cells #[.string ⟨#[92]⟩, .string ⟨#[92, 92]⟩, .string ⟨#[34]⟩, .string ⟨#[92, 34]⟩, .string ⟨#[10]⟩, .string ⟨#[92, 110]⟩, .string ⟨#[9]⟩, .string ⟨#[92, 116]⟩] 9) = w1 at *
  have hw' : w.alloc (.cells (svs oldL).toArray 9) = w1 := hw
  rw [hw'] at hss hb
  clear hw hw'
  refine (newrep_any w1 _ hss).mono ?_
  rintro e w2 ⟨b, ov, rfl, hR, hv, hd, hbw, hb2⟩
  go_wp2_with fail
  refine (HR.out w2 b ov hR hv hd).mono ?_
  rintro e w3 ⟨rfl, ht3⟩
  have hfin : Below w.heap.size w w3 := (bthen hb hb2).trans (ht3.below (Nat.le_trans hb.size hb2.size) (fun k hk h => by have := hb.size; omega))
  go_wp2_with fail
  go_ret
  exact ⟨rfl, hfin⟩
end Go.Proofs.YtpgngegdflbahaaGreatDoor
