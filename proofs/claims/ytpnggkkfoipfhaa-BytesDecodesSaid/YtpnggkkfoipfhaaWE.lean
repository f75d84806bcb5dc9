/- The contract of the reference's Get. -/
import Derived.Test.YtpnggkkfoipfhaaWD
set_option linter.unusedVariables false
namespace Go.Proofs.Ytpnggkkfoipfhaa
open Go.RowKit

theorem uz_even {u : Nat} (hu : u < 18446744073709551616) (h : u % 2 = 0) : wrap64 ((u : Int) / 2) = uz u := by
  unfold uz wrap64; rw [if_pos h]; omega
theorem uz_odd {u : Nat} (hu : u < 18446744073709551616) (h : ¬ u % 2 = 0) : wrap64 (-1 - wrap64 ((u : Int) / 2)) = uz u := by
  unfold uz wrap64; rw [if_neg h]; omega
/-- The factor of the group k. -/
def FacIs (k : Nat) (F : Int) : Prop := k ≤ 9 → F = ((128 ^ k : Nat) : Int)
theorem FacIs.next {k : Nat} {F : Int} (h : FacIs k F) : FacIs (k + 1) (IntKind.u64.wrap (F * 128)) := by
  intro hk
  have h1 : 128 ^ (k + 1) ≤ 128 ^ 9 := Nat.pow_le_pow_right (by decide) hk
  have e : (128 : Nat) ^ 9 = 9223372036854775808 := by decide
  have h2 := h (by omega)
  rw [h2, u64_wrap]
  have e2 : ((128 ^ k : Nat) : Int) * 128 = ((128 ^ (k + 1) : Nat) : Int) := by rw [Nat.pow_succ]; rfl
  rw [e2]
  rw [e] at h1
  clear e e2 h2
  generalize (128 : Nat) ^ (k + 1) = p at *
  omega
theorem grp_add {u x k : Nat} {F : Int} (hF : FacIs k F) (hk : k ≤ 9) (h : GrpFits u x k) : IntKind.u64.wrap ((u : Int) + IntKind.u64.wrap ((x : Int) * F)) = ((u + x * 128 ^ k : Nat) : Int) := by
  have hl := h.lt.1
  rw [hF hk]
  have e2 : (x : Int) * ((128 ^ k : Nat) : Int) = ((x * 128 ^ k : Nat) : Int) := rfl
  rw [e2, u64_wrap, u64_wrap]; omega

set_option maxRecDepth 100000 in
set_option maxHeartbeats 1000000 in
theorem refget_any (v : Value) (l : List UInt8) (w : World) (hv : Bs w w.heap.size v l) :
    Calls Try.prog 59 #[v] w fun e w' => e = .returned (.tuple #[.int .i64 (getV l).1, .int .i64 (getV l).2]) ∧ w = w' := by
  obtain ⟨A, c, rfl, _, hc, hcell⟩ := hv.open_
  unfold maxLen at hc
  clear hv
  go_enter Try.func59, Try.ntmps59
  go_wp2
  go_loop [4, 5, 6] (fun v4 v5 v6 => ∃ (k u : Nat) (F : Int), v6 = .int .i64 k ∧ v4 = .int .u64 u ∧ v5 = .int .u64 F ∧ k ≤ l.length ∧ k ≤ 10 ∧ FacIs k F ∧ u < 128 ^ k ∧ getGo 0 0 l = getGo k u (l.drop k)) (fun _ _ v6 => (10 - (intOf v6).toNat))
  case atStart => exact ⟨0, 0, 1, rfl, rfl, rfl, by omega, by omega, fun _ => rfl, by decide, rfl⟩
  case round =>
    obtain ⟨k, u, F, rfl, rfl, rfl, hk, hk10, hF, hu, hg⟩ := hrel
    have HG := hid hg
    have HU := hid hu
    have HF := hid hF
    clear hg hu hF
    by_cases hlt : k < l.length
    · by_cases hlt10 : k < 10
      · obtain ⟨b, off, rfl, hb, hcl⟩ := hcell (by omega)
        have hck := hcl k hlt
        obtain ⟨x, hx⟩ : ∃ x : Nat, l[k].toNat = x := ⟨_, rfl⟩
        rw [hx] at hck
        have hx2 : x < 256 := by rw [← hx]; exact UInt8.toNat_lt _
        have HX := hid hx
        obtain ⟨u2, hu2⟩ : ∃ u2 : Nat, u2 = u + x % 128 * 128 ^ k := ⟨_, rfl⟩
        have hfits : k ≤ 8 ∨ k = 9 ∧ x % 128 ≤ 1 → GrpFits u (x % 128) k := fun h => ⟨HU.out, Nat.mod_lt _ (by decide), h⟩
        have hor1 : k ≤ 8 ∨ k = 9 ∧ x % 128 ≤ 1 → IntKind.u64.wrap ((u : Int) + IntKind.u64.wrap ((x : Int) % 128 * F)) = (u2 : Int) := by
          intro h
          have h2 := grp_add HF.out (by omega) (hfits h)
          rw [hu2, ← h2]; rfl
        have HU2 := hid hu2
        have HFit := hid hfits
        have hge : 0 ≤ (x : Int) % 128 := by omega
        clear hx hcl hcell hu2 hfits
        by_cases h9x : k = 9 ∧ 1 < x
        · obtain ⟨h9, h1⟩ := h9x
          have h9b : ((k : Int) == 9) = true := by simp; omega
          have H9 := hid h9
          have hk9 : 9 ≤ k := by omega
          clear hor1 h9
          go_wp2_with fail
          go_ret2
          exact ⟨ret2 (by rw [get_end1 HG.out hlt HX.out H9.out h1]), rfl⟩
        · have H9X := hid h9x
          have hok : k ≤ 8 ∨ k = 9 ∧ x % 128 ≤ 1 := by omega
          have HOK := hid hok
          have hor2 := hor1 hok
          have hx9 : 9 ≤ k → x ≤ 1 := by omega
          have hu3 : u2 < 18446744073709551616 := by rw [HU2.out]; exact (HFit.out hok).lt.1
          have hq : IntKind.u64.wrap ((u2 : Int) / 2) = (u2 : Int) / 2 := by rw [u64_wrap]; omega
          have HU3 := hid hu3
          clear hor1 h9x hok hu3
          have hcase9 : ((k : Int) == 9) = false ∨ ((k : Int) == 9) = true ∧ x ≤ 1 := by
            by_cases h : k = 9
            · exact .inr ⟨by simp; omega, hx9 (by omega)⟩
            · exact .inl (by simp; omega)
          clear hx9
          rcases hcase9 with h9b | ⟨h9b, hx9⟩
          all_goals
            by_cases hx0 : x = 0
            · have hxb : ((x : Int) == 0) = true := by simp; omega
              have hx1 : x < 128 := by omega
              have HX0 := hid hx0
              clear hx0
              by_cases hk0 : 0 < k
              · go_wp2_with fail
                go_ret2
                exact ⟨ret2 (by rw [get_end2 HG.out hlt HX.out (by omega) HX0.out (by omega)]), rfl⟩
              · by_cases hp : u2 % 2 = 0
                · have hpb : ((u2 : Int) % 2 == 1) = false := by simp; omega
                  have HP := hid hp
                  clear hp
                  go_wp2_with fail
                  go_ret2
                  exact ⟨ret2 (by rw [get_end3 HG.out hlt HX.out (by omega) H9X.out (by omega) (by omega), ← HU2.out, ← uz_even HU3.out HP.out]; rfl), rfl⟩
                · have hpb : ((u2 : Int) % 2 == 1) = true := by simp; omega
                  have HP := hid hp
                  clear hp
                  go_wp2_with fail
                  go_ret2
                  exact ⟨ret2 (by rw [get_end3 HG.out hlt HX.out (by omega) H9X.out (by omega) (by omega), ← HU2.out, ← uz_odd HU3.out HP.out]; rfl), rfl⟩
            · have hxb : ((x : Int) == 0) = false := by simp; omega
              have HX0 := hid hx0
              clear hx0
              by_cases hx1 : x < 128
              · by_cases hp : u2 % 2 = 0
                · have hpb : ((u2 : Int) % 2 == 1) = false := by simp; omega
                  have HP := hid hp
                  clear hp
                  go_wp2_with fail
                  go_ret2
                  exact ⟨ret2 (by rw [get_end3 HG.out hlt HX.out (by omega) H9X.out (by omega) (by have := HX0.out; omega), ← HU2.out, ← uz_even HU3.out HP.out]; rfl), rfl⟩
                · have hpb : ((u2 : Int) % 2 == 1) = true := by simp; omega
                  have HP := hid hp
                  clear hp
                  go_wp2_with fail
                  go_ret2
                  exact ⟨ret2 (by rw [get_end3 HG.out hlt HX.out (by omega) H9X.out (by omega) (by have := HX0.out; omega), ← HU2.out, ← uz_odd HU3.out HP.out]; rfl), rfl⟩
              · first
                | (exfalso; omega)
                | go_wp2_with fail
                  go_round
                  case rel => exact ⟨k + 1, u2, _, rfl, rfl, rfl, by omega, by omega, HF.out.next, by rw [HU2.out]; exact (HFit.out HOK.out).lt.2, by rw [HU2.out]; exact get_next HG.out hlt HX.out (by have := HOK.out; have := H9X.out; omega) hx1⟩
                  case measure => simp [intOf]; omega
      · go_wp2_with fail
        go_ret2
        exact ⟨ret2 (by rw [get_out HG.out (by omega)]), rfl⟩
    · go_wp2_with fail
      go_ret2
      exact ⟨ret2 (by rw [get_out HG.out (by omega)]), rfl⟩
end Go.Proofs.Ytpnggkkfoipfhaa
