/- The laws of layer 1 walked: each returns true. -/
import Derived.Test.YtfgfafojmjbmbaaDoorWK
set_option linter.unusedVariables false
namespace Go.Proofs.YtfgfafojmjbmbaaDoor
open Go.RowKit

set_option maxHeartbeats 400000 in
theorem wordBins_any (op a b : Int) (w : World) (h1 : In64 op) (h2 : In64 a) (h3 : In64 b) (hL : LaidW w) :
    Calls Tryd.prog 3 #[.int .i64 op, .int .i64 a, .int .i64 b] w fun e w' => e = .returned (.bool true) ∧ Below w.heap.size w w' := by
  go_enter Tryd.func3, Tryd.ntmps3
  go_wp2_with fail
  refine (awake_any _ hL).mono ?_
  rintro e w1 ⟨rfl, hb1⟩
  go_wp2_with fail
  refine (bin_b _ _ _ _).mono ?_
  rintro e w2 ⟨rfl, hb2⟩
  go_wp2_with fail
  refine (refbin_b _ _ _ _).mono ?_
  rintro e w3 ⟨rfl, hb3⟩
  go_wp2_with fail
  go_ret
  exact ⟨rfl, bthen hb1 (bthen hb2 hb3)⟩

set_option maxHeartbeats 400000 in
theorem wordGets_any (v : Value) (l : List UInt8) (w : World) (hv : Bs w w.heap.size v l) (hl : l.length ≤ 140737488351232) (hL : LaidW w) :
    Calls Tryd.prog 12 #[v] w fun e w' => e = .returned (.bool true) ∧ Below w.heap.size w w' := by
  go_enter Tryd.func12, Tryd.ntmps12
  go_wp2_with fail
  refine (awake_any _ hL).mono ?_
  rintro e w1 ⟨rfl, hb1⟩
  have hv1 := (hv.below hb1).more hb1.size
  go_wp2_with fail
  refine (get_any v l _ hv1).mono ?_
  rintro e w2 ⟨rfl, rfl⟩
  go_wp2_with fail
  refine (refget_any v l _ hv1).mono ?_
  rintro e w3 ⟨rfl, rfl⟩
  go_wp2_with fail
  go_ret
  exact ⟨rfl, hb1⟩

theorem fit_again (n b : Int) : fitV (fitV n b) b = fitV n b := by
  unfold fitV
  by_cases h : b < 1 ∨ 64 < b
  · rw [if_pos h, if_pos h]
  · rw [if_neg h, if_neg h]
    congr 1
    have hp : (0 : Int) < 2 ^ (64 - b).toNat := Int.pow_pos (by decide)
    obtain ⟨q, hq⟩ : ((2 : Int) ^ (64 - b).toNat) ∣ wrap64 (n * 2 ^ (64 - b).toNat) := by
      have hd : ((2 : Int) ^ (64 - b).toNat) ∣ 18446744073709551616 := by
        refine ⟨2 ^ (64 - (64 - b).toNat), ?_⟩
        rw [← Int.pow_add]
        rw [show (64 - b).toNat + (64 - (64 - b).toNat) = 64 from by omega]; rfl
      have e : ∃ m, wrap64 (n * 2 ^ (64 - b).toNat) = n * 2 ^ (64 - b).toNat - 18446744073709551616 * m := by
        refine ⟨(n * 2 ^ (64 - b).toNat + 9223372036854775808) / 18446744073709551616, ?_⟩
        unfold wrap64
        have := Int.mul_ediv_add_emod (n * 2 ^ (64 - b).toNat + 9223372036854775808) 18446744073709551616
        omega
      obtain ⟨m, e⟩ := e
      rw [e]
      exact Int.dvd_sub (Int.dvd_mul_left _ _) (Int.dvd_trans hd (Int.dvd_mul_right _ _))
    rw [hq, Int.mul_ediv_cancel_left _ (by omega), Int.mul_comm q, ← hq]
    exact wrap64_id (in64_wrap _)
theorem fit_64 (n : Int) (h : In64 n) : fitV n 64 = n := by
  unfold fitV
  rw [if_neg (by omega)]
  have e : (64 - 64 : Int).toNat = 0 := rfl
  rw [e, Int.pow_zero, Int.mul_one, Int.ediv_one, wrap64_id h]

set_option maxHeartbeats 400000 in
theorem wordFits_any (n b : Int) (w : World) (hn : In64 n) (hb : In64 b) (hL : LaidW w) :
    Calls Tryd.prog 7 #[.int .i64 n, .int .i64 b] w fun e w' => e = .returned (.bool true) ∧ Below w.heap.size w w' := by
  have h1 := fit_again n b
  have h2 := in64_fitV n b
  have h64 : (b != 64) = true ∨ (b != 64) = false ∧ fitV n b = n := by
    by_cases h : b = 64
    · exact .inr ⟨by rw [h]; decide, by rw [h]; exact fit_64 n hn⟩
    · exact .inl (by rw [bne_iff_ne]; exact h)
  rcases h64 with h3 | ⟨h3, h4⟩
  all_goals
    go_enter Tryd.func7, Tryd.ntmps7
    go_wp2_with fail
    refine (awake_any _ hL).mono ?_
    rintro e w1 ⟨rfl, hb1⟩
    go_wp2_with fail
    refine (fit_any _ _ _ hn).mono ?_
    rintro e w2 ⟨rfl, rfl⟩
    go_wp2_with fail
    refine (reffit_any _ _ _ hn).mono ?_
    rintro e w3 ⟨rfl, rfl⟩
    go_wp2_with fail
    refine (fit_any _ _ _ (by first | exact h2 | exact hn)).mono ?_
    rintro e w3 ⟨rfl, rfl⟩
    go_wp2_with fail
    go_ret
    exact ⟨rfl, hb1⟩

set_option maxHeartbeats 400000 in
theorem wordShows_any (n : Int) (s : ByteArray) (w : World) (hn : In64 n) (hs : s.size ≤ 140737488351232) (hL : LaidW w) :
    Calls Tryd.prog 5 #[.int .i64 n, .string s] w fun e w' => e = .returned (.bool true) ∧ Below w.heap.size w w' := by
  go_enter Tryd.func5, Tryd.ntmps5
  go_wp2_with fail
  refine (awake_any _ hL).mono ?_
  rintro e w1 ⟨rfl, hb1⟩
  have hL1 := hL.below hb1
  go_wp2_with fail
  refine (parse_any s _ (by omega) hL1).mono ?_
  rintro e w2 ⟨rfl, hb2⟩
  have hL2 := hL1.below hb2
  go_wp2_with fail
  refine (refparse_any s _ (by omega)).mono ?_
  rintro e w3 ⟨rfl, rfl⟩
  go_wp2_with fail
  refine (show_any n _ hn hL2).mono ?_
  rintro e w4 ⟨rfl, hb4⟩
  go_wp2_with fail
  refine (refshow_any n _ hn).mono ?_
  rintro e w5 ⟨rfl, hb5⟩
  go_wp2_with fail
  go_ret
  exact ⟨rfl, bthen hb1 (bthen hb2 (bthen hb4 hb5))⟩

theorem itoa_le (n : Int) (h : In64 n) : (Lib.itoa n).length ≤ 30 := by
  unfold In64 at h
  rcases Int.lt_or_le n 0 with h0 | h0
  · obtain ⟨k, rfl⟩ : ∃ k : Nat, n = -(k : Int) := ⟨n.natAbs, by omega⟩
    have e := Lib.itoa_neg k (by omega)
    rw [e, List.length_cons, Lib.decDigits_length]
    have := ndig_le (n := k) (by omega)
    omega
  · obtain ⟨k, rfl⟩ := Int.eq_ofNat_of_zero_le h0
    have e : Lib.itoa (k : Int) = Lib.decDigits k := Lib.itoa_nonneg k
    rw [e, Lib.decDigits_length]
    have := ndig_le (n := k) (by omega)
    omega
theorem parse_show {n : Int} (h : In64 n) (h0 : 0 ≤ n) : parseV (Lib.itoa n) = (n, true) := by
  obtain ⟨k, rfl⟩ := Int.eq_ofNat_of_zero_le h0
  unfold In64 at h
  have e : Lib.itoa (k : Int) = Lib.decDigits k := Lib.itoa_nonneg k
  rw [e]
  unfold parseV
  rw [parseN_iff.2 ⟨by omega, rfl⟩]
theorem parse_show_neg {n : Int} (h0 : n < 0) : parseV (Lib.itoa n) = (0, false) := by
  obtain ⟨k, rfl⟩ : ∃ k : Nat, n = -(k : Int) := ⟨n.natAbs, by omega⟩
  have e := Lib.itoa_neg k (by omega)
  rw [e]
  refine parse_none fun hc => ?_
  have := hc.2.1 45 (List.mem_cons_self ..)
  exact absurd this (by decide)

set_option maxHeartbeats 400000 in
theorem wordReads_any (n : Int) (w : World) (hn : In64 n) (hL : LaidW w) :
    Calls Tryd.prog 6 #[.int .i64 n] w fun e w' => e = .returned (.bool true) ∧ Below w.heap.size w w' := by
  have hlen := itoa_le n hn
  have hcase : (0 ≤ n ∧ parseV (Lib.itoa n) = (n, true)) ∨ (n < 0 ∧ parseV (Lib.itoa n) = (0, false)) := by
    rcases Int.lt_or_le n 0 with h0 | h0
    · exact .inr ⟨h0, parse_show_neg h0⟩
    · exact .inl ⟨h0, parse_show hn h0⟩
  rcases hcase with ⟨h0, hp⟩ | ⟨h0, hp⟩
  all_goals
    go_enter Tryd.func6, Tryd.ntmps6
    go_wp2_with fail
    refine (awake_any _ hL).mono ?_
    rintro e w1 ⟨rfl, hb1⟩
    have hL1 := hL.below hb1
    go_wp2_with fail
    refine (show_any n _ hn hL1).mono ?_
    rintro e w2 ⟨rfl, hb2⟩
    have hL2 := hL1.below hb2
    go_wp2_with fail
    refine (parse_any _ _ (by simp [ByteArray.size]; omega) hL2).mono ?_
    rintro e w3 ⟨rfl, hb3⟩
    go_wp2_with fail
    go_ret
    exact ⟨rfl, bthen hb1 (bthen hb2 hb3)⟩

set_option maxHeartbeats 400000 in
theorem lawbin_any (op a b : Int) (w : World) :
    Calls Tryd.prog 25 #[.int .i64 op, .int .i64 a, .int .i64 b] w fun e w' => e = .returned (.int .i64 (binV op a b).1) ∧ Below w.heap.size w w' := by
  go_enter Tryd.func25, Tryd.ntmps25
  go_wp2_with fail
  refine (bin_b _ _ _ _).mono ?_
  rintro e w2 ⟨rfl, hb2⟩
  go_wp2_with fail
  go_ret
  exact ⟨rfl, hb2⟩
end Go.Proofs.YtfgfafojmjbmbaaDoor
