/- The contract of the reference's Parse. -/
import Derived.Test.YtpgngegdflbahaaDoorWG
set_option linter.unusedVariables false
namespace Go.Proofs.YtpgngegdflbahaaDoor
open Go.RowKit

theorem slen (s : ByteArray) : s.data.toList.length = s.size := Array.length_toList
theorem shead (s : ByteArray) (h : 0 < s.size) : s.data.toList.head? = some s[0] := by
  rw [List.head?_eq_getElem?, List.getElem?_eq_getElem (by rw [slen]; exact h)]; rfl
theorem sget (s : ByteArray) (k : Nat) (h : k < s.size) : s.data.toList[k]'(by rw [slen]; exact h) = s[k] := rfl
theorem isz (s : ByteArray) (h : s.size = 0) : s = ByteArray.empty := ByteArray.size_eq_zero_iff.1 h
theorem byte_eq {c : UInt8} {n : Nat} (hn : n < 256) : c = UInt8.ofNat n ↔ c.toNat = n := by
  constructor
  · intro h; rw [h, UInt8.toNat_ofNat']; omega
  · intro h; apply UInt8.toNat_inj.1; rw [UInt8.toNat_ofNat']; omega

set_option maxRecDepth 100000 in
set_option maxHeartbeats 1000000 in
theorem refparse_any (s : ByteArray) (w : World) (hs : s.size ≤ 281474976710656) :
    Calls Tryd.prog 37 #[.string s] w fun e w' => e = .returned (.tuple #[.int .i64 (parseV s.data.toList).1, .bool (parseV s.data.toList).2]) ∧ w = w' := by
  by_cases h0 : s.size = 0
  · obtain rfl := isz s h0
    have HP := hid parse_nil
    go_enter Tryd.func37, Tryd.ntmps37
    go_wp2_with fail
    go_ret2
    exact ⟨ret_ib (by rw [show ByteArray.empty.data.toList = ([] : List UInt8) from by decide, HP.out]), rfl⟩
  have hb : ((s.size : Int) == 0) = false := by rw [beq_eq_false_iff_ne]; omega
  have he : ¬ s = ByteArray.empty := by intro e; exact h0 (by rw [e]; rfl)
  have h3 : 0 < s.size := by omega
  by_cases h1 : 19 < s.size
  · have HP := hid (parse_long (l := s.data.toList) (by rw [slen]; exact h1))
    go_enter Tryd.func37, Tryd.ntmps37
    go_wp2_with fail
    go_ret2
    exact ⟨ret_ib (by rw [HP.out]), rfl⟩
  by_cases h2 : s.data.toList.head? = some 48 ∧ 1 < s.size
  · have HP := hid (parse_zero (l := s.data.toList) (by rw [slen]; exact h2))
    obtain ⟨h2, h4⟩ := h2
    rw [shead s h3] at h2
    have hz : (((s[0]'h3).toNat : Int) == 48) = true := by
      rw [beq_iff_eq]
      injection h2 with h2
      rw [h2]; rfl
    clear h2
    go_enter Tryd.func37, Tryd.ntmps37
    go_wp2_with fail
    go_ret2
    exact ⟨ret_ib (by rw [HP.out]), rfl⟩
  have h4 : s.size ≤ 19 := by omega
  have H2 := hid h2
  have hcase : (((s[0]'h3).toNat : Int) == 48) = false ∨ (((s[0]'h3).toNat : Int) == 48) = true ∧ s.size ≤ 1 := by
    by_cases hz : (s[0]'h3).toNat = 48
    · refine .inr ⟨by rw [beq_iff_eq, hz]; rfl, ?_⟩
      have e : s.data.toList.head? = some 48 := by rw [shead s h3, (byte_eq (by decide)).2 hz]; rfl
      rcases Nat.lt_or_ge 1 s.size with h | h
      · exact absurd ⟨e, h⟩ h2
      · exact h
    · exact .inl (by rw [beq_eq_false_iff_ne]; omega)
  clear h0 h1 h2
  rcases hcase with hz | ⟨hz, h5⟩
  all_goals
    go_enter Tryd.func37, Tryd.ntmps37
    go_wp2_with fail
    go_loop [4, 5] (fun v4 v5 => ∃ k n : Nat, v5 = .int .i64 k ∧ v4 = .int .u64 n ∧ k ≤ s.size ∧ n = valFrom 0 (s.data.toList.take k) ∧ (∀ c ∈ s.data.toList.take k, isDig c = true)) (fun _ v5 => (s.size - (intOf v5).toNat))
    case atStart => exact ⟨0, 0, rfl, rfl, by omega, (valFrom_nil 0).symm, by simp⟩
    case round =>
      obtain ⟨k, n, rfl, rfl, hk, hn, hd⟩ := hrel
      have HN := hid hn
      have HD := hid hd
      clear hn hd
      by_cases hlt : k < s.size
      · go_wp2_with fail
        all_goals first
        | (have hnd : ¬ isDig (s[k]'hlt) = true := by rw [isDig_iff]; omega
           go_ret2
           exact ⟨ret_ib (by rw [parse_nodig (l := s.data.toList) (k := k) (by rw [slen]; exact hlt) hnd]), rfl⟩)
        | (have hyd : 48 ≤ (s[k]'hlt).toNat ∧ (s[k]'hlt).toNat ≤ 57 := by omega
           go_round
           case rel =>
             have hstep : s.data.toList.take (k + 1) = s.data.toList.take k ++ [s[k]'hlt] := by
               rw [List.take_succ_eq_append_getElem (by rw [slen]; exact hlt)]; rfl
             have hv := valFrom_lt _ 0 HD.out
             have hn := HN.out
             have hl : (s.data.toList.take k).length ≤ 18 := by rw [List.length_take]; omega
             have hp : 10 ^ (s.data.toList.take k).length ≤ 10 ^ 18 := Nat.pow_le_pow_right (by decide) hl
             refine ⟨k + 1, 10 * n + ((s[k]'hlt).toNat - 48), rfl, ?_, by omega, ?_, ?_⟩
             · have e : IntKind.u64.wrap (IntKind.u64.wrap (10 * (n : Int)) + (((s[k]'hlt).toNat : Int) - 48)) = ((10 * n + ((s[k]'hlt).toNat - 48) : Nat) : Int) := by
                 rw [u64_wrap, u64_wrap]; omega
               rw [e]
             · rw [hstep, valFrom_snoc, ← hn]
             · intro c hc
               rw [hstep] at hc
               rcases List.mem_append.1 hc with hc | hc
               · exact HD.out c hc
               · obtain rfl : c = s[k]'hlt := by simpa using hc
                 exact isDig_iff.2 hyd
           case measure => simp [intOf]; omega)
      · have hk2 : k = s.size := by omega
        have ht : s.data.toList.take k = s.data.toList := List.take_of_length_le (by rw [slen]; omega)
        have hpe := parse_end (l := s.data.toList) (by rw [slen]; exact h3) (by rw [slen]; exact H2.out) (by have := HD.out; rw [ht] at this; exact this)
        have hn := HN.out
        rw [ht] at hn
        rw [← hn] at hpe
        have HPE := hid hpe
        clear hpe hn ht hk2
        by_cases hbig : n < 9223372036854775808
        · go_wp2_with fail
          go_ret2
          exact ⟨ret_ib (by rw [HPE.out, if_pos hbig]), rfl⟩
        · go_wp2_with fail
          go_ret2
          exact ⟨ret_ib (by rw [HPE.out, if_neg hbig]), rfl⟩

end Go.Proofs.YtpgngegdflbahaaDoor
