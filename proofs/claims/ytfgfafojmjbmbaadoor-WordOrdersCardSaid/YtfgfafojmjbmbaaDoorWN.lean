/- More laws of layer 1 walked: rings, orders, shifts, divisions. -/
import Derived.Test.YtfgfafojmjbmbaaDoorWM
set_option linter.unusedVariables false
namespace Go.Proofs.YtfgfafojmjbmbaaDoor
open Go.RowKit

theorem bv0 (a b : Int) : (binV 0 a b).1 = wrap64 (a + b) := by unfold binV; rw [if_pos (Eq.refl _)]
theorem bv1 (a b : Int) : (binV 1 a b).1 = wrap64 (a - b) := by unfold binV; rw [if_neg (by decide), if_pos (Eq.refl _)]
theorem bv2 (a b : Int) : (binV 2 a b).1 = wrap64 (a * b) := by unfold binV; rw [if_neg (by decide), if_neg (by decide), if_pos (Eq.refl _)]
theorem bv5 (a b : Int) : (binV 5 a b).1 = wrap64 (a * 2 ^ (b % 64).toNat) := by unfold binV; simp
theorem bv6 (a b : Int) : (binV 6 a b).1 = a / 2 ^ (b % 64).toNat := by unfold binV; simp
theorem bv7 (a b : Int) : (binV 7 a b).1 = bits .and .i64 a b := by unfold binV; simp
theorem bv8 (a b : Int) : (binV 8 a b).1 = bits .xor .i64 a b := by unfold binV; simp
theorem bv9 (a b : Int) : (binV 9 a b).1 = if a < b then 1 else 0 := by unfold binV; simp
theorem bv10 (a b : Int) : (binV 10 a b).1 = if a ≤ b then 1 else 0 := by unfold binV; simp

theorem emod_add_r (a b n : Int) : (a % n + b % n) % n = (a + b) % n := by rw [Int.add_emod a b]
theorem wrap_mul (a b : Int) : wrap64 (wrap64 a * wrap64 b) = wrap64 (a * b) := by
  apply wrap64_congr
  rw [Int.mul_emod, wrap64_emod, wrap64_emod, ← Int.mul_emod]
theorem wrap_mul_l (a b : Int) : wrap64 (wrap64 a * b) = wrap64 (a * b) := by
  apply wrap64_congr
  rw [Int.mul_emod, wrap64_emod, ← Int.mul_emod]
theorem wrap_add (a b : Int) : wrap64 (wrap64 a + wrap64 b) = wrap64 (a + b) := by
  apply wrap64_congr
  rw [Int.add_emod, wrap64_emod, wrap64_emod, ← Int.add_emod]
theorem wrap_add_l (a b : Int) : wrap64 (wrap64 a + b) = wrap64 (a + b) := by
  apply wrap64_congr
  rw [Int.add_emod, wrap64_emod, ← Int.add_emod]
theorem ring1 (a b : Int) : (binV 0 b a).1 = (binV 0 a b).1 := by rw [bv0, bv0, Int.add_comm]
theorem ring2 (a b : Int) : (binV 2 b a).1 = (binV 2 a b).1 := by rw [bv2, bv2, Int.mul_comm]
theorem ring3 (a b c : Int) : (binV 0 (binV 2 a c).1 (binV 2 b c).1).1 = (binV 2 (binV 0 a b).1 c).1 := by
  rw [bv0, bv2, bv2, bv2, bv0, wrap_add, wrap_mul_l, Int.add_mul]
theorem ring4 (a b : Int) (h : In64 a) : (binV 0 (binV 1 a b).1 b).1 = a := by
  rw [bv0, bv1, wrap_add_l, Int.sub_add_cancel, wrap64_id h]
theorem ofInt_wrap (n : Int) : BitVec.ofInt 64 (wrap64 n) = BitVec.ofInt 64 n := by
  apply BitVec.eq_of_toNat_eq
  rw [BitVec.toNat_ofInt, BitVec.toNat_ofInt]
  congr 1
  exact wrap64_emod n
theorem ofInt_toNat (b : BitVec 64) : BitVec.ofInt 64 (b.toNat : Int) = b := by
  apply BitVec.eq_of_toNat_eq
  rw [BitVec.ofInt_natCast, BitVec.toNat_ofNat, Nat.mod_eq_of_lt b.isLt]
theorem ring5 (a b : Int) (h : In64 a) : (binV 8 (binV 8 a b).1 b).1 = a := by
  rw [bv8, bv8]
  show IntKind.i64.wrap ((BitVec.ofInt 64 (IntKind.i64.wrap ((BitVec.ofInt 64 a ^^^ BitVec.ofInt 64 b).toNat : Int)) ^^^ BitVec.ofInt 64 b).toNat : Int) = a
  rw [i64_wrap, i64_wrap, ofInt_wrap, ofInt_toNat, BitVec.xor_assoc, BitVec.xor_self, BitVec.xor_zero, BitVec.toNat_ofInt]
  unfold In64 at h
  unfold wrap64
  omega

set_option maxHeartbeats 1000000 in
theorem wordRings_any (a b c : Int) (w : World) (ha : In64 a) (hb : In64 b) (hc : In64 c) (hL : LaidW w) :
    Calls Tryd.prog 9 #[.int .i64 a, .int .i64 b, .int .i64 c] w fun e w' => e = .returned (.bool true) ∧ Below w.heap.size w w' := by
  have r1 := ring1 a b
  have r2 := ring2 a b
  have r3 := ring3 a b c
  have r4 := ring4 a b ha
  have r5 := ring5 a b ha
  go_enter Tryd.func9, Tryd.ntmps9
  go_wp2_with fail
  refine (awake_any _ hL).mono ?_
  rintro e w1 ⟨rfl, hb1⟩
  have HB := hid hb1
  clear hb1
  iterate 12
    go_wp2_with fail
    refine (lawbin_any _ _ _ _).mono ?_
    rintro e w2 ⟨rfl, hb2⟩
    have HB := hid (bthen HB.out hb2)
    clear hb2
  go_wp2_with fail
  go_ret
  exact ⟨rfl, HB.out⟩

set_option maxHeartbeats 1000000 in
theorem wordOrders_any (a b : Int) (w : World) (ha : In64 a) (hb : In64 b) (hL : LaidW w) :
    Calls Tryd.prog 10 #[.int .i64 a, .int .i64 b] w fun e w' => e = .returned (.bool true) ∧ Below w.heap.size w w' := by
  have hcase : (∃ x y z : Int, (binV 9 a b).1 = x ∧ (binV 9 b a).1 = y ∧ (binV 10 a b).1 = z ∧ (((a == b) = true ∧ x = 0 ∧ y = 0 ∧ z = 1) ∨ ((a == b) = false ∧ ((x = 1 ∧ y = 0 ∧ z = 1) ∨ (x = 0 ∧ y = 1 ∧ z = 0))))) := by
    refine ⟨_, _, _, rfl, rfl, rfl, ?_⟩
    rw [bv9, bv9, bv10]
    rcases Int.lt_trichotomy a b with h | rfl | h
    · exact .inr ⟨by rw [beq_eq_false_iff_ne]; omega, .inl ⟨if_pos h, if_neg (by omega), if_pos (by omega)⟩⟩
    · exact .inl ⟨by rw [beq_iff_eq], if_neg (by omega), if_neg (by omega), if_pos (by omega)⟩
    · exact .inr ⟨by rw [beq_eq_false_iff_ne]; omega, .inr ⟨if_neg (by omega), if_pos (by omega), if_neg (by omega)⟩⟩
  obtain ⟨x, y, z, h1, h2, h3, hx⟩ := hcase
  rcases hx with ⟨h4, rfl, rfl, rfl⟩ | ⟨h4, ⟨rfl, rfl, rfl⟩ | ⟨rfl, rfl, rfl⟩⟩
  all_goals
    go_enter Tryd.func10, Tryd.ntmps10
    go_wp2_with fail
    refine (awake_any _ hL).mono ?_
    rintro e w1 ⟨rfl, hb1⟩
    have HB := hid hb1
    clear hb1
    iterate 3
      go_wp2_with fail
      refine (lawbin_any _ _ _ _).mono ?_
      rintro e w2 ⟨rfl, hb2⟩
      have HB := hid (bthen HB.out hb2)
      clear hb2
    go_wp2_with fail
    go_ret
    exact ⟨rfl, HB.out⟩

theorem shift1 (n k : Int) (h0 : 0 ≤ k) (h1 : k ≤ 63) : (binV 6 (binV 5 n k).1 k).1 = fitV n (64 - k) := by
  rw [bv6, bv5]
  unfold fitV
  rw [if_neg (by omega)]
  have e : (64 - (64 - k)).toNat = (k % 64).toNat := by omega
  rw [e]
theorem shift2 (n k : Int) : (binV 5 n (k + 64)).1 = (binV 5 n k).1 := by
  rw [bv5, bv5]
  have e : (k + 64) % 64 = k % 64 := by omega
  rw [e]
theorem shift3 (n k : Int) (h0 : 0 ≤ k) (h1 : k ≤ 63) : (binV 7 (binV 5 n k).1 (2 ^ k.toNat - 1)).1 = 0 := by
  rw [bv7, bv5, and_low _ k.toNat (by omega) _ rfl]
  have e : (k % 64).toNat = k.toNat := by omega
  rw [e]
  have hd : ((2 : Int) ^ k.toNat) ∣ 18446744073709551616 := by
    refine ⟨2 ^ (64 - k.toNat), ?_⟩
    rw [← Int.pow_add, show k.toNat + (64 - k.toNat) = 64 from by omega]; rfl
  rw [← Int.emod_emod_of_dvd (wrap64 _) hd, wrap64_emod, Int.emod_emod_of_dvd _ hd]
  exact Int.emod_eq_zero_of_dvd (Int.dvd_mul_left _ _)
theorem mask_in (k : Int) (h0 : 0 ≤ k) (h1 : k ≤ 63) : wrap64 (wrap64 (2 ^ k.toNat) - 1) = 2 ^ k.toNat - 1 := by
  have hp : (1 : Int) ≤ 2 ^ k.toNat := Int.pow_pos (by decide)
  have hle : (2 : Nat) ^ k.toNat ≤ 2 ^ 63 := Nat.pow_le_pow_right (by decide) (by omega)
  have hle2 : (2 : Int) ^ k.toNat ≤ 9223372036854775808 := by
    have : ((2 ^ k.toNat : Nat) : Int) ≤ ((2 ^ 63 : Nat) : Int) := by omega
    rw [Int.natCast_pow] at this
    exact this
  generalize (2 : Int) ^ k.toNat = p at *
  unfold wrap64; omega

set_option maxHeartbeats 1000000 in
theorem wordShifts_any (n k : Int) (w : World) (hn : In64 n) (hk : In64 k) (hL : LaidW w) :
    Calls Tryd.prog 11 #[.int .i64 n, .int .i64 k] w fun e w' => e = .returned (.bool true) ∧ Below w.heap.size w w' := by
  by_cases h : k < 0 ∨ 63 < k
  · rcases h with h | h
    all_goals
      go_enter Tryd.func11, Tryd.ntmps11
      go_wp2_with fail
      refine (awake_any _ hL).mono ?_
      rintro e w1 ⟨rfl, hb1⟩
      go_wp2_with fail
      go_ret
      exact ⟨rfl, hb1⟩
  · have h0 : 0 ≤ k := by omega
    have h1 : k ≤ 63 := by omega
    have s1 := shift1 n k h0 h1
    have s2 := shift2 n k
    have s3 := shift3 n k h0 h1
    have s4 := mask_in k h0 h1
    have hku : IntKind.u64.wrap k = k := by rw [u64_wrap]; omega
    clear h
    go_enter Tryd.func11, Tryd.ntmps11
    go_wp2_with fail
    refine (awake_any _ hL).mono ?_
    rintro e w1 ⟨rfl, hb1⟩
    have HB := hid hb1
    clear hb1
    iterate 2
      go_wp2_with fail
      refine (lawbin_any _ _ _ _).mono ?_
      rintro e w2 ⟨rfl, hb2⟩
      have HB := hid (bthen HB.out hb2)
      clear hb2
    go_wp2_with fail
    refine (fit_any _ _ _ hn).mono ?_
    rintro e w3 ⟨rfl, rfl⟩
    iterate 2
      go_wp2_with fail
      refine (lawbin_any _ _ _ _).mono ?_
      rintro e w2 ⟨rfl, hb2⟩
      have HB := hid (bthen HB.out hb2)
      clear hb2
    go_wp2_with fail
    go_ret
    exact ⟨rfl, HB.out⟩
end Go.Proofs.YtfgfafojmjbmbaaDoor
