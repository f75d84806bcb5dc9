/- The contracts of both Gets. -/
import Derived.Test.YtpnggkkfoipfhaaWC
set_option linter.unusedVariables false
namespace Go.Proofs.Ytpnggkkfoipfhaa
open Go.RowKit

set_option maxRecDepth 100000 in
set_option maxHeartbeats 400000 in
theorem get_any (v : Value) (l : List UInt8) (w : World) (hv : Bs w w.heap.size v l) :
    Calls Try.prog 63 #[v] w fun e w' => e = .returned (.tuple #[.int .i64 (getV l).1, .int .i64 (getV l).2]) ∧ w = w' := by
  obtain ⟨A, c, rfl, _, hc, hcell⟩ := hv.open_
  unfold maxLen at hc
  clear hv
  obtain ⟨m, hm⟩ : ∃ m, m = min 10 l.length := ⟨_, rfl⟩
  rcases Nat.lt_or_ge l.length 10 with h10 | h10
  all_goals
    go_enter Try.func63, Try.ntmps63
    go_wp2
    go_loop [4, 10] (fun v4 v10 => ∃ k u : Nat, v10 = .int .i64 k ∧ v4 = .int .u64 u ∧ k ≤ m ∧ u < 128 ^ k ∧ getGo 0 0 l = getGo k u (l.drop k)) (fun _ v10 => (m - (intOf v10).toNat))
    case atStart => exact ⟨0, 0, rfl, rfl, by omega, by decide, rfl⟩
    case round =>
      obtain ⟨k, u, rfl, rfl, hk, hu, hg⟩ := hrel
      have HG := hid hg
      have HU := hid hu
      clear hg hu
      by_cases hlt : k < m
      · obtain ⟨b, off, rfl, hb, hcl⟩ := hcell (by omega)
        have hkl : k < l.length := by omega
        have hck := hcl k hkl
        obtain ⟨x, hx⟩ : ∃ x : Nat, l[k].toNat = x := ⟨_, rfl⟩
        rw [hx] at hck
        have hx2 : x < 256 := by rw [← hx]; exact UInt8.toNat_lt _
        have HX := hid hx
        have hor0 : bits .or .u64 (u : Int) (IntKind.u64.wrap 0) = (u : Int) := by
          have h := grp_or (u := u) (x := 0) (k := k) ⟨HU.out, by decide, by omega⟩
          simpa using h
        obtain ⟨u2, hu2⟩ : ∃ u2 : Nat, u2 = u + x % 128 * 128 ^ k := ⟨_, rfl⟩
        have hfits : k ≤ 8 ∨ k = 9 ∧ x % 128 ≤ 1 → GrpFits u (x % 128) k := fun h => ⟨HU.out, Nat.mod_lt _ (by decide), h⟩
        have hor1 : k ≤ 8 ∨ k = 9 ∧ x % 128 ≤ 1 → bits .or .u64 (u : Int) (IntKind.u64.wrap ((x : Int) % 128 * 2 ^ (7 * k))) = (u2 : Int) := by
          intro h
          have h2 := grp_or (hfits h)
          rw [hu2, ← h2]; rfl
        have hor4 : bits .or .u64 (u : Int) 0 = (u : Int) := hor0
        have HU2 := hid hu2
        clear hx hcl hcell hu2
        by_cases h9 : k = 9
        · first
          | (exfalso; omega)
          | have h9b : ((k : Int) == 9) = true := by simp; omega
            have hk9 : 9 ≤ k := by omega
            have hk8 : k ≤ 9 := by omega
            have hor2 := fun h => hor1 (.inr ⟨h9, h⟩)
            have H9 := hid h9
            clear hor1 h9
            by_cases h1 : 1 < x
            · clear hor0 hor2
              go_wp2_with fail
              go_ret2
              exact ⟨ret2 (by rw [get_end1 HG.out hkl HX.out H9.out h1]), rfl⟩
            · by_cases hx0 : x = 0
              · subst hx0
                clear hor2
                go_wp2_with fail
                go_ret2
                exact ⟨ret2 (by rw [get_end2 HG.out hkl HX.out (by omega) rfl (by omega)]), rfl⟩
              · have hx1 : 0 < x := by omega
                have hor3 := hor2 (by omega)
                clear hor2
                go_wp2_with fail
                go_ret2
                exact ⟨ret2 (by rw [get_end3 HG.out hkl HX.out (by omega) (by omega) (by omega) (by omega), ← HU2.out, ← uz_eq (HU2.out ▸ (hfits (.inr ⟨H9.out, by omega⟩)).lt.1)]; rfl), rfl⟩
        · have h9b : ((k : Int) == 9) = false := by simp; omega
          have hor2 := hor1 (.inl (by omega))
          clear hor1
          by_cases hx0 : x = 0
          · subst hx0
            clear hor2
            by_cases hk0 : 0 < k
            · go_wp2_with fail
              go_ret2
              exact ⟨ret2 (by rw [get_end2 HG.out hkl HX.out (by omega) rfl (by omega)]), rfl⟩
            · have hu0 : u < 18446744073709551616 := by have := (hfits (.inl (by omega))).lt.1; omega
              have HU0 := hid hu0
              clear hu0
              go_wp2_with fail
              go_ret2
              exact ⟨ret2 (by rw [get_end3 HG.out hkl HX.out (by omega) (by omega) (by omega) (by omega), Nat.zero_mod, Nat.zero_mul, Nat.add_zero, ← uz_eq HU0.out]; rfl), rfl⟩
          by_cases hx1 : x < 128
          · go_wp2_with fail
            go_ret2
            exact ⟨ret2 (by rw [get_end3 HG.out hkl HX.out (by omega) (by omega) (by omega) (by omega), ← HU2.out, ← uz_eq (HU2.out ▸ (hfits (.inl (by omega))).lt.1)]; rfl), rfl⟩
          · go_wp2_with fail
            go_round
            case rel => exact ⟨k + 1, u2, rfl, rfl, by omega, by rw [HU2.out]; exact (hfits (.inl (by omega))).lt.2, by rw [HU2.out]; exact get_next HG.out hkl HX.out (by omega) hx1⟩
            case measure => simp [intOf]; omega
      · go_wp2_with fail
        go_ret2
        exact ⟨ret2 (by rw [get_out HG.out (by omega)]), rfl⟩
end Go.Proofs.Ytpnggkkfoipfhaa
