/- The contract of the reference's Show. -/
import Derived.Test.YtbpedjkebemhnaaGreatDoorWG
set_option linter.unusedVariables false
namespace Go.Proofs.YtbpedjkebemhnaaGreatDoor
open Go.RowKit

theorem ndig_le {n : Nat} (h : n < 10000000000000000000) : Lib.nDigits n ≤ 20 := by
  have h1 := dec_is n
  have hl := Lib.decDigits_length n
  by_cases h2 : 2 ≤ (Lib.decDigits n).length
  · have h3 := canon_pos h1.1 h2
    rw [h1.2.1, hl] at h3
    rcases Nat.lt_or_ge 20 (Lib.nDigits n) with h4 | h4
    · have h5 : 10 ^ 20 ≤ 10 ^ (Lib.nDigits n - 1) := Nat.pow_le_pow_right (by decide) (by omega)
      have e : (10 : Nat) ^ 20 = 100000000000000000000 := by decide
      omega
    · exact h4
  · omega
def decRest (m : Nat) : List UInt8 := if m = 0 then [] else Lib.decDigits m
theorem decRest_zero : decRest 0 = [] := if_pos (Eq.refl 0)
theorem decRest_pos {m : Nat} (h : 0 < m) : decRest m = Lib.decDigits m := if_neg (by omega)
theorem dec_step (m : Nat) (h : 0 < m) : Lib.decDigits m = decRest (m / 10) ++ [UInt8.ofNat (48 + m % 10)] := by
  by_cases h10 : m < 10
  · rw [show m / 10 = 0 from by omega, decRest_zero, Lib.decDigits_one h10, Nat.mod_eq_of_lt h10]; rfl
  · rw [decRest_pos (by omega)]
    conv => lhs; rw [Lib.decDigits, dif_neg h10]
def ShowRel (n : Nat) (sg : Int) (w : World) (v0 v4 : Value) (wr : World) : Prop :=
  ∃ (m : Nat) (acc : List UInt8), v0 = .int .i64 (sg * m) ∧ m ≤ 9223372036854775808 ∧ v4 = sv acc ∧ Lib.decDigits n = decRest m ++ acc ∧ Below w.heap.size w wr

set_option maxRecDepth 100000 in
set_option maxHeartbeats 1000000 in
theorem refshow_pos (n : Nat) (w : World) (hn : In64 n) (h0 : 0 < n) :
    Calls Tryz.prog 77 #[.int .i64 n] w fun e w' => e = .returned (sv (Lib.decDigits n)) ∧ Below w.heap.size w w' := by
  have hb0 : ((n : Int) == 0) = false := by rw [beq_eq_false_iff_ne]; omega
  have hbn : ((n : Int) != 0) = true := by rw [bne_iff_ne]; omega
  have hn1 : (n : Int) ≤ 9223372036854775807 := hn.2
  clear hn
  go_enter Tryz.func77, Tryz.ntmps77
  go_wp2_with fail
  go_loopw [0, 4] (fun v0 v4 wr => ShowRel n 1 w v0 v4 wr) (fun v0 _ _ => (intOf v0).toNat)
  case atStart => exact ⟨n, [], by rw [Int.one_mul], by omega, rfl, by rw [decRest_pos h0, List.append_nil], Below.refl _ _⟩
  case round =>
    obtain ⟨m, acc, rfl, hm, rfl, hd, hb⟩ := hrel
    rw [Int.one_mul]
    have HD := hid hd
    clear hd
    by_cases hm0 : m = 0
    · have hbm : ((m : Int) != 0) = false := by rw [bne_eq_false_iff_eq]; omega
      have HM := hid hm0
      clear hm0
      go_wp2_with fail
      go_ret
      exact ⟨by have := HD.out; rw [HM.out, decRest_zero, List.nil_append] at this; rw [this]; rfl, hb⟩
    · have hbm : ((m : Int) != 0) = true := by rw [bne_iff_ne]; omega
      have hconv := run_string_of (P := Tryz.prog) (bs_new wr (48 + (m : Int) % 10) 5 (by omega)) 74 5 9 Tryz.underlying74 Tryz.underlying5 Tryz.underlying9
      have hdd : ∃ c : UInt8, c = UInt8.ofNat (48 + m % 10) := ⟨_, rfl⟩
      obtain ⟨c, hc⟩ := hdd
      have e48 : UInt8.ofNat (48 + (m : Int) % 10).toNat = c := by rw [hc]; congr 1
      rw [e48] at hconv
      have HC := hid hc
      have hal : acc.length ≤ 30 := by
        have h1 := congrArg List.length HD.out
        rw [List.length_append, Lib.decDigits_length] at h1
        have h2 : Lib.nDigits n ≤ 20 := ndig_le (by omega)
        omega
      clear hc e48
      go_wp2_with fail
      go_roundw
      case rel =>
        have hd := HD.out
        refine ⟨m / 10, c :: acc, by rw [Int.one_mul]; rfl, by omega, ?_, ?_, ?_⟩
        · exact sv_append [c] acc
        · rw [hd, decRest_pos (by omega), dec_step m (by omega), List.append_assoc, ← HC.out, List.singleton_append]
        · exact hb.alloc hb.size _
      case measure => simp [intOf]; omega

set_option maxRecDepth 100000 in
set_option maxHeartbeats 1000000 in
theorem refshow_neg (n : Nat) (w : World) (hn : In64 (-(n : Int))) (h0 : 0 < n) :
    Calls Tryz.prog 77 #[.int .i64 (-(n : Int))] w fun e w' => e = .returned (sv (45 :: Lib.decDigits n)) ∧ Below w.heap.size w w' := by
  obtain ⟨q, hq⟩ : ∃ q : Int, q = -(n : Int) := ⟨_, rfl⟩
  rw [← hq] at hn ⊢
  have hb0 : (q == 0) = false := by rw [beq_eq_false_iff_ne]; omega
  have hq0 : q < 0 := by omega
  have hn1 : n ≤ 9223372036854775808 := by have := hn.1; omega
  have HQ := hid hq
  clear hn hq
  go_enter Tryz.func77, Tryz.ntmps77
  go_wp2_with fail
  go_loopw [0, 4, 5] (fun v0 v4 _ wr => ShowRel n (-1) w v0 v4 wr) (fun v0 _ _ _ => (-intOf v0).toNat)
  case atStart => exact ⟨n, [], by rw [HQ.out]; congr 1; omega, by omega, rfl, by rw [decRest_pos h0, List.append_nil], Below.refl _ _⟩
  case round =>
    obtain ⟨m, acc, hv, hm, rfl, hd, hb⟩ := hrel
    obtain ⟨q2, hq2⟩ : ∃ q2 : Int, q2 = -1 * (m : Int) := ⟨_, rfl⟩
    rw [← hq2] at hv
    subst hv
    have HD := hid hd
    have hal : acc.length ≤ 30 := by
      have h1 := congrArg List.length HD.out
      rw [List.length_append, Lib.decDigits_length] at h1
      have h2 : Lib.nDigits n ≤ 20 := ndig_le (by omega)
      omega
    clear hd
    by_cases hm0 : m = 0
    · have hbm : (q2 != 0) = false := by rw [bne_eq_false_iff_eq]; omega
      have HM := hid hm0
      have HQ2 := hid hq2
      clear hm0 hq2
      go_wp2_with fail
      go_ret
      exact ⟨by have := HD.out; rw [HM.out, decRest_zero, List.nil_append] at this; rw [this]; exact congrArg Ending.returned (sv_append [45] acc), hb⟩
    · have hbm : (q2 != 0) = true := by rw [bne_iff_ne]; omega
      obtain ⟨d, hd⟩ : ∃ d : Nat, d = m % 10 := ⟨_, rfl⟩
      obtain ⟨q3, hq3⟩ : ∃ q3 : Int, q3 = -1 * ((m / 10 : Nat) : Int) := ⟨_, rfl⟩
      have ht : q2.tmod 10 = -(d : Int) := by
        rw [hq2, Int.neg_mul, Int.one_mul, Int.neg_tmod, hd]; rfl
      have ht2 : wrap64 (q2.tdiv 10) = q3 := by
        have e : q2.tdiv 10 = -((m / 10 : Nat) : Int) := by rw [hq2, Int.neg_mul, Int.one_mul, Int.neg_tdiv]; rfl
        rw [e, hq3]; unfold wrap64; omega
      have hconv := run_string_of (P := Tryz.prog) (bs_new wr (48 + (d : Int)) 5 (by omega)) 74 5 9 Tryz.underlying74 Tryz.underlying5 Tryz.underlying9
      obtain ⟨c, hc⟩ : ∃ c : UInt8, c = UInt8.ofNat (48 + m % 10) := ⟨_, rfl⟩
      have e48 : UInt8.ofNat (48 + (d : Int)).toNat = c := by rw [hc]; congr 1; omega
      rw [e48] at hconv
      have HC := hid hc
      have hd9 : d ≤ 9 := by omega
      have HDD := hid hd
      have HQ2 := hid hq2
      have HQ3 := hid hq3
      clear hc e48 hd hq2 hq3
      by_cases hd0 : 0 < d
      · go_wp2_with fail
        go_roundw
        case rel =>
          rw [ht2]
          refine ⟨m / 10, c :: acc, by rw [HQ3.out], by omega, sv_append [c] acc, ?_, hb.alloc hb.size _⟩
          rw [HD.out, decRest_pos (by omega), dec_step m (by omega), List.append_assoc, ← HC.out, List.singleton_append]
        case measure =>
          rw [ht2]
          have h1 := HQ2.out
          have h2 := HQ3.out
          simp only [intOf]; omega
      · have hconv2 := run_string_of (P := Tryz.prog) (bs_new wr (48 + -(d : Int)) 5 (by omega)) 74 5 9 Tryz.underlying74 Tryz.underlying5 Tryz.underlying9
        have e49 : UInt8.ofNat (48 + -(d : Int)).toNat = c := by rw [HC.out]; congr 1; have := HDD.out; omega
        rw [e49] at hconv2
        clear e49 hconv
        go_wp2_with fail
        go_roundw
        case rel =>
          rw [ht2]
          refine ⟨m / 10, c :: acc, by rw [HQ3.out], by omega, sv_append [c] acc, ?_, hb.alloc hb.size _⟩
          rw [HD.out, decRest_pos (by omega), dec_step m (by omega), List.append_assoc, ← HC.out, List.singleton_append]
        case measure =>
          rw [ht2]
          have h1 := HQ2.out
          have h2 := HQ3.out
          simp only [intOf]; omega

theorem refshow_any (n : Int) (w : World) (hn : In64 n) :
    Calls Tryz.prog 77 #[.int .i64 n] w fun e w' => e = .returned (sv (Lib.itoa n)) ∧ Below w.heap.size w w' := by
  rcases Int.lt_trichotomy n 0 with h | rfl | h
  · obtain ⟨k, rfl⟩ := Int.eq_ofNat_of_zero_le (show 0 ≤ -n by omega) |> fun ⟨k, hk⟩ => (⟨k, by omega⟩ : ∃ k : Nat, n = -(k : Int))
    have e : Lib.itoa (-(k : Int)) = 45 :: Lib.decDigits k := Lib.itoa_neg k (by omega)
    rw [e]
    exact refshow_neg k w hn (by omega)
  · have e : Lib.itoa 0 = [48] := by
      have h1 := Lib.itoa_nonneg 0
      rw [Lib.decDigits_one (by decide)] at h1
      exact h1
    rw [e]
    go_enter Tryz.func77, Tryz.ntmps77
    go_wp2_with fail
    go_ret
    exact ⟨rfl, Below.refl _ _⟩
  · obtain ⟨k, rfl⟩ := Int.eq_ofNat_of_zero_le (show 0 ≤ n by omega)
    have e : Lib.itoa (k : Int) = Lib.decDigits k := Lib.itoa_nonneg k
    rw [e]
    exact refshow_pos k w hn (by omega)
end Go.Proofs.YtbpedjkebemhnaaGreatDoor
