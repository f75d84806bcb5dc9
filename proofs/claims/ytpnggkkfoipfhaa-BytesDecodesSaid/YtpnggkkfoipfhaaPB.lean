/- Plain laws: what is put is read, and nothing else is read as it. -/
import Derived.Test.YtpnggkkfoipfhaaPW
set_option linter.unusedVariables false
namespace Go.Proofs.Ytpnggkkfoipfhaa
open Go.RowKit

theorem getGo_grp : ∀ (f i acc u : Nat) (tail : List UInt8), i + f = 9 → u * 128 ^ i < 18446744073709551616 → u < 128 ^ (f + 1) → (0 < i → 0 < u) →
    getGo i acc (grp f u ++ tail) = some (acc + u * 128 ^ i, i + (grp f u).length)
  | 0, i, acc, u, tail, hi, h1, h2, h3 => by
    obtain rfl : i = 9 := by omega
    have e : (128 : Nat) ^ 9 = 9223372036854775808 := by decide
    have hu : u = 1 := by
      have := h3 (by decide)
      rw [e] at h1; omega
    subst hu
    have eg : grp 0 1 = [1] := rfl
    rw [eg, List.singleton_append]
    unfold getGo
    rw [if_neg (by decide), if_neg (by decide), if_pos (by decide), if_neg (by decide)]
    have e1 : (1 : UInt8).toNat % 128 = 1 := by decide
    rw [e1]; rfl
  | f + 1, i, acc, u, tail, hi, h1, h2, h3 => by
    by_cases h : u < 128
    · have e : (UInt8.ofNat u).toNat = u := by rw [UInt8.toNat_ofNat']; omega
      rw [grp_low h, List.singleton_append]
      unfold getGo
      rw [e, if_neg (by omega), if_neg (by omega), if_pos h, if_neg (by intro hh; have := h3 hh.2; omega), Nat.mod_eq_of_lt h]; rfl
    · have e : (UInt8.ofNat (u % 128 + 128)).toNat = u % 128 + 128 := by rw [UInt8.toNat_ofNat']; omega
      rw [grp_high h, List.cons_append]
      have hp : u / 128 * 128 ^ (i + 1) ≤ u * 128 ^ i := by
        rw [Nat.pow_succ, Nat.mul_comm (128 ^ i) 128, ← Nat.mul_assoc]
        exact Nat.mul_le_mul_right _ (Nat.div_mul_le_self u 128)
      have ih := getGo_grp f (i + 1) (acc + (u % 128 + 128) % 128 * 128 ^ i) (u / 128) tail (by omega) (by omega) (by rw [Nat.pow_succ] at h2; exact (Nat.div_lt_iff_lt_mul (by decide)).2 h2) (fun _ => by omega)
      conv => lhs; unfold getGo
      rw [e, if_neg (by omega), if_neg (by omega), if_neg (by omega), ih]
      have ea : acc + (u % 128 + 128) % 128 * 128 ^ i + u / 128 * 128 ^ (i + 1) = acc + u * 128 ^ i := by
        have e2 : (u % 128 + 128) % 128 = u % 128 := by omega
        rw [e2, Nat.pow_succ, Nat.mul_comm (128 ^ i) 128, ← Nat.mul_assoc, Nat.add_assoc, ← Nat.add_mul]
        congr 2; omega
      rw [ea, List.length_cons]
      congr 2; omega
theorem uz_zz {n : Int} (h : In64 n) : uz (zz n) = n := by
  unfold In64 at h
  unfold uz zz
  by_cases h0 : n < 0
  · rw [if_pos h0, if_neg (by omega)]; omega
  · rw [if_neg h0, if_pos (by omega)]; omega
theorem zz_uz (u : Nat) : zz (uz u) = u := by
  unfold uz
  by_cases h : u % 2 = 0
  · rw [if_pos h]; unfold zz; rw [if_neg (by omega)]; omega
  · rw [if_neg h]; unfold zz; rw [if_pos (by omega)]; omega
theorem in64_uz {u : Nat} (h : u < 18446744073709551616) : In64 (uz u) := by
  unfold uz In64; split <;> omega
/-- What is put is read, whatever stands behind it. -/
theorem get_put {n : Int} (h : In64 n) (tail : List UInt8) : getV (putL n ++ tail) = (n, ((putL n).length : Int)) := by
  have hz := zz_lt h
  have e : (128 : Nat) ^ 10 = 1180591620717411303424 := by decide
  have hg := getGo_grp 9 0 0 (zz n) tail (by decide) (by omega) (by omega) (fun h => absurd h (by decide))
  unfold getV putL
  rw [hg]
  dsimp only
  rw [Nat.zero_add, Nat.pow_zero, Nat.mul_one, uz_zz h, Nat.zero_add]
theorem ofNat_toNat (c : UInt8) : UInt8.ofNat c.toNat = c := by apply UInt8.toNat_inj.1; rw [UInt8.toNat_ofNat']; have := c.toNat_lt; omega
theorem getGo_back : ∀ (l : List UInt8) (i acc U k : Nat), getGo i acc l = some (U, k) → ∃ u, U = acc + u * 128 ^ i ∧ l.take (k - i) = grp (9 - i) u ∧ i < k ∧ k ≤ 10 ∧ k - i ≤ l.length ∧ (0 < i → 0 < u) ∧ u < 128 ^ (10 - i) ∧ (i ≤ 9 → u * 128 ^ i < 18446744073709551616)
  | [], i, acc, U, k, h => by cases h
  | c :: r, i, acc, U, k, h => by
    have hc := c.toNat_lt
    unfold getGo at h
    by_cases h1 : 10 ≤ i
    · rw [if_pos h1] at h; cases h
    rw [if_neg h1] at h
    by_cases h2 : i = 9 ∧ 1 < c.toNat
    · rw [if_pos h2] at h; cases h
    rw [if_neg h2] at h
    have hp : (128 : Nat) ^ i ≤ 128 ^ 8 ∨ i = 9 := by
      by_cases h9 : i = 9
      · exact .inr h9
      · exact .inl (Nat.pow_le_pow_right (by decide) (by omega))
    have e8 : (128 : Nat) ^ 8 = 72057594037927936 := by decide
    have e9 : (128 : Nat) ^ 9 = 9223372036854775808 := by decide
    have hpos : 0 < 128 ^ i := Nat.pow_pos (by decide)
    have hpow : 128 ≤ 128 ^ (10 - i) := by
      have := Nat.pow_le_pow_right (show 0 < 128 by decide) (show 1 ≤ 10 - i by omega)
      simpa using this
    by_cases h3 : c.toNat < 128
    · rw [if_pos h3] at h
      by_cases h4 : c.toNat = 0 ∧ 0 < i
      · rw [if_pos h4] at h; cases h
      rw [if_neg h4] at h
      injection h with h
      injection h with hU hk
      subst hk
      refine ⟨c.toNat, by rw [← hU, Nat.mod_eq_of_lt h3], ?_, by omega, by omega, by simp, by omega, by omega, fun _ => ?_⟩
      · rw [show i + 1 - i = 1 from by omega, grp_low h3, ofNat_toNat]; rfl
      · rcases hp with hp | rfl
        · have : c.toNat * 128 ^ i ≤ 127 * 128 ^ 8 := Nat.mul_le_mul (by omega) hp
          omega
        · rw [e9]; omega
    · rw [if_neg h3] at h
      obtain ⟨u, hU, ht, hk1, hk2, hk3, hpos2, hlt, hlt2⟩ := getGo_back r (i + 1) _ U k h
      have hi9 : i ≤ 8 := by omega
      have hu0 : 0 < u := hpos2 (by omega)
      have e1 : (u * 128 + c.toNat % 128) / 128 = u := by omega
      have e2 : (u * 128 + c.toNat % 128) % 128 = c.toNat % 128 := by omega
      have e3 : c.toNat % 128 + 128 = c.toNat := by omega
      have ev : acc + c.toNat % 128 * 128 ^ i + u * 128 ^ (i + 1) = acc + (u * 128 + c.toNat % 128) * 128 ^ i := by
        rw [Nat.pow_succ, Nat.mul_comm (128 ^ i) 128, ← Nat.mul_assoc, Nat.add_assoc, ← Nat.add_mul, Nat.add_comm (c.toNat % 128)]
      have hgr : grp (9 - i) (u * 128 + c.toNat % 128) = c :: grp (9 - (i + 1)) u := by
        rw [show 9 - i = (9 - (i + 1)) + 1 from by omega, grp_high (by omega), e1, e2, e3, ofNat_toNat]
      refine ⟨u * 128 + c.toNat % 128, by rw [hU, ev], ?_, by omega, hk2, by simp; omega, by omega, ?_, fun _ => ?_⟩
      · rw [show k - i = (k - (i + 1)) + 1 from by omega, List.take_succ_cons, ht, hgr]
      · rw [show 10 - i = (10 - (i + 1)) + 1 from by omega, Nat.pow_succ]
        omega
      · have h5 := hlt2 (by omega)
        have e6 : (u * 128 + c.toNat % 128) * 128 ^ i = u * 128 ^ (i + 1) + c.toNat % 128 * 128 ^ i := by
          rw [Nat.pow_succ, Nat.mul_comm (128 ^ i) 128, ← Nat.mul_assoc, ← Nat.add_mul]
        rw [e6]
        obtain ⟨q, hq⟩ : ∃ q, 18446744073709551616 = q * 128 ^ (i + 1) := by
          rcases Nat.lt_or_ge i 8 with h8 | h8
          · have hdv : (128 ^ (i + 1) : Nat) ∣ 128 ^ 9 := Nat.pow_dvd_pow _ (by omega)
            obtain ⟨t, ht⟩ := hdv
            refine ⟨2 * t, ?_⟩
            rw [Nat.mul_assoc, Nat.mul_comm t, ← ht, e9]
          · obtain rfl : i = 8 := by omega
            exact ⟨2, by decide⟩
        rw [hq] at h5 ⊢
        have hp1 : 0 < 128 ^ (i + 1) := Nat.pow_pos (by decide)
        have huq : u < q := Nat.lt_of_mul_lt_mul_right h5
        have h7 : (u + 1) * 128 ^ (i + 1) ≤ q * 128 ^ (i + 1) := Nat.mul_le_mul_right _ huq
        have h8 : c.toNat % 128 * 128 ^ i < 128 ^ (i + 1) := by
          rw [Nat.pow_succ, Nat.mul_comm (128 ^ i) 128]
          exact Nat.mul_lt_mul_of_pos_right (Nat.mod_lt _ (by decide)) hpos
        rw [Nat.add_mul, Nat.one_mul] at h7
        omega
/-- What is read is put as it stood. -/
theorem put_get {l : List UInt8} (h : (getV l).2 ≠ 0) : ∃ k : Nat, (getV l).2 = (k : Int) ∧ 0 < k ∧ k ≤ 10 ∧ k ≤ l.length ∧ In64 (getV l).1 ∧ putL (getV l).1 = l.take k := by
  unfold getV at h ⊢
  cases hg : getGo 0 0 l with
  | none => rw [hg] at h; exact absurd rfl h
  | some x =>
    obtain ⟨U, k⟩ := x
    obtain ⟨u, hU, ht, h1, h2, h3, _, _, h5⟩ := getGo_back l 0 0 U k hg
    rw [Nat.pow_zero, Nat.mul_one, Nat.zero_add] at hU
    have h6 := h5 (by decide)
    rw [Nat.pow_zero, Nat.mul_one] at h6
    subst hU
    refine ⟨k, rfl, h1, h2, h3, in64_uz h6, ?_⟩
    unfold putL
    dsimp only
    rw [zz_uz]
    exact ht.symm
end Go.Proofs.Ytpnggkkfoipfhaa
