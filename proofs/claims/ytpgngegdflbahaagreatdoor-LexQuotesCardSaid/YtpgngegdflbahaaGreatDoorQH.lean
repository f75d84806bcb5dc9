/- LexQuotes walked. -/
import Derived.Test.YtpgngegdflbahaaGreatDoorQG
set_option linter.unusedVariables false
namespace Go.Proofs.YtpgngegdflbahaaGreatDoor
open Go.RowKit

theorem quote_law2 (s : Bt) (hs : s.length ≤ 5000) (hc : ∀ c ∈ s, 32 ≤ c.toNat ∨ c.toNat = 9 ∨ c.toNat = 10) :
    (256 < s.length ∧ lexL (quoteW s) = ([], (1, 1, 2))) ∨ (¬ 256 < s.length ∧ ∃ e, lexL (quoteW s) = ([⟨4, s, 1, 1⟩, e], (0, 0, 0))) := by
  obtain ⟨h1, h2⟩ := quote_law s hs hc
  by_cases h : 256 < s.length
  · exact .inl ⟨h, h1 h⟩
  · exact .inr ⟨h, h2 (by omega)⟩

set_option maxRecDepth 100000 in
set_option maxHeartbeats 2000000 in
theorem lexQuotes_any (nm : ByteArray) (w : World) (hn : nm.size ≤ 140737488351232) (hX : LaidX w) :
    Calls Tryz.prog 3 #[.string nm] w fun e w' => e = .returned (.bool true) ∧ Below w.heap.size w w' := by
  obtain ⟨s, hs0, hsl⟩ : ∃ s : Bt, Value.string nm = sv s ∧ s.length ≤ 281474976710656 := ⟨nm.data.toList, by show Value.string nm = Value.string ⟨nm.data.toList.toArray⟩; simp, by
    have e : nm.data.toList.length = nm.size := Array.length_toList
    omega⟩
  rw [hs0]
  clear hs0 hn
  have hsz := sv_size s
  go_enter Tryz.func3, Tryz.ntmps3
  go_wp2_with fail
  refine (awake_any _ hX).mono ?_
  rintro e w1 ⟨rfl, hb1⟩
  by_cases h5 : (5000 : Int) < s.length
  · go_wp2_with fail
    go_ret
    exact ⟨rfl, hb1⟩
  go_wp2_with fail
  refine (quote_any _ s (by omega)).mono ?_
  rintro e w2 ⟨rfl, hb2⟩
  have hB2 := bthen hb1 hb2
  have HRQ := hid (rquote_any w2 s (by omega))
  have HL := hid (fun h => quote_law2 s (by omega) h)
  have hqs := sv_size (quoteW s)
  generalize quoteW s = q at *
  have hqq : (q != q) = false := by simp
  go_wp2_with fail
  refine HRQ.out.mono ?_
  rintro e w3 ⟨rfl, rfl⟩
  clear HRQ hb1 hb2
  go_wp2_with fail
  go_loop [5] (fun v5 => ∃ i : Nat, v5 = .int .i64 i ∧ i ≤ s.length ∧ ∀ c ∈ s.take i, 32 ≤ c.toNat ∨ c.toNat = 9 ∨ c.toNat = 10) (fun v5 => s.length - (intOf v5).toNat)
  case atStart => exact ⟨0, rfl, by omega, by simp⟩
  case round =>
    obtain ⟨i, rfl, hi, hall⟩ := hrel
    by_cases hlt : i < s.length
    · have hix := sv_index s i hlt
      have hnext : (32 ≤ (s[i]).toNat ∨ (s[i]).toNat = 9 ∨ (s[i]).toNat = 10) → ∀ c ∈ s.take (i + 1), 32 ≤ c.toNat ∨ c.toNat = 9 ∨ c.toNat = 10 := by
        intro h c hc
        rw [List.take_succ_eq_append_getElem hlt, List.mem_append] at hc
        rcases hc with hc | hc
        · exact hall c hc
        · simp at hc; subst hc; exact h
      have HNX := hid hnext
      clear hall hnext HL
      generalize hX2 : s[i] = X at *
      clear hX2
      by_cases h32 : X.toNat < 32
      · have d0 : decide ((X.toNat : Int) < 32) = true := by rw [decide_eq_true_eq]; omega
        by_cases h9 : X.toNat = 9
        · have HN := hid (HNX.out (.inr (.inl h9)))
          clear HNX
          have d1 : ((X.toNat : Int) != 9) = false := by rw [bne_eq_false_iff_eq]; omega
          clear h9
          go_wp2_with fail
          go_round
          case rel => exact ⟨i + 1, rfl, by omega, HN.out⟩
          case measure => simp [intOf]; omega
        · have d1 : ((X.toNat : Int) != 9) = true := by rw [bne_iff_ne]; omega
          by_cases h10 : X.toNat = 10
          · have HN := hid (HNX.out (.inr (.inr h10)))
            clear HNX
            have d2 : ((X.toNat : Int) != 10) = false := by rw [bne_eq_false_iff_eq]; omega
            clear h10
            go_wp2_with fail
            go_round
            case rel => exact ⟨i + 1, rfl, by omega, HN.out⟩
            case measure => simp [intOf]; omega
          · have d2 : ((X.toNat : Int) != 10) = true := by rw [bne_iff_ne]; omega
            go_wp2_with fail
            go_ret
            exact ⟨rfl, hB2⟩
      · have d0 : decide ((X.toNat : Int) < 32) = false := by rw [decide_eq_false_iff_not]; omega
        have HN := hid (HNX.out (.inl (by omega)))
        clear HNX
        go_wp2_with fail
        go_round
        case rel => exact ⟨i + 1, rfl, by omega, HN.out⟩
        case measure => simp [intOf]; omega
    · obtain rfl : i = s.length := by omega
      rw [List.take_length] at hall
      have hlaw := HL.out hall
      clear hall HL
      go_wp2_with fail
      refine (lex_any _ q (hX.below hB2)).mono ?_
      rintro e w4 ⟨v, n, rfl, hrow, hb4⟩
      have hB4 := bthen hB2 hb4
      rcases hlaw with ⟨h256, hl⟩ | ⟨h256, e, hl⟩
      · rw [hl] at hrow ⊢
        simp only at hrow
        have hn0 : n = 0 := by have := hrow.1; simp [tokCells] at this; omega
        subst hn0
        obtain ⟨A, c, rfl, _⟩ := own_slice hrow
        unfold diagV
        simp only []
        have hBB := hB4.alloc hB4.size (.cells #[.int .i64 0, .int .i64 ((1 : Nat) : Int), .int .i64 ((1 : Nat) : Int), .int .i64 2] 27)
        clear hrow hl
        go_wp2_with fail
        go_ret
        exact ⟨by first | rfl | simp, hBB⟩
      · rw [hl] at hrow ⊢
        simp only at hrow
        have hn0 : n = 2 := by have := hrow.1; simp [tokCells, tokV] at this; omega
        subst hn0
        obtain ⟨g, c, rfl, _, hgl, _, hcm⟩ := own_form hrow (by omega)
        unfold maxLen at hcm
        have hrow2 := hrow.alloc (.cells #[.int .i64 0, .int .i64 ((0 : Nat) : Int), .int .i64 ((0 : Nat) : Int), .int .i64 0] 27)
        have hBB := hB4.alloc hB4.size (.cells #[.int .i64 0, .int .i64 ((0 : Nat) : Int), .int .i64 ((0 : Nat) : Int), .int .i64 0] 27)
        obtain ⟨a0, a1, _, _⟩ := tok_cells hrow (i := 0) (by simp)
        simp only [List.getElem_cons_zero, Nat.zero_mul, Nat.zero_add] at a0 a1
        unfold diagV
        simp only []
        have hss : (s == s) = true := by simp
        clear hrow hrow2 hl
        go_wp2_with fail
        go_ret
        exact ⟨by first | rfl | simp, hBB⟩
end Go.Proofs.YtpgngegdflbahaaGreatDoor
