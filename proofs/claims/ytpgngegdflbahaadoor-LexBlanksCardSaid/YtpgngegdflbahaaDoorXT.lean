/- The contracts of the reference's blank, sign and quoted. -/
import Derived.Test.YtpgngegdflbahaaDoorXR
import Derived.Test.YtpgngegdflbahaaDoorXF
import Derived.Test.YtpgngegdflbahaaDoorPT
import Derived.Test.YtpgngegdflbahaaDoorPQ
set_option linter.unusedVariables false
namespace Go.Proofs.YtpgngegdflbahaaDoor
open Go.RowKit

set_option maxRecDepth 100000 in
set_option maxHeartbeats 1000000 in
theorem rblank_any (w : World) (s : Bt) (hs : s.length ≤ 281474976710656) : Calls Tryd.prog 20 #[sv s] w fun e w' => e = .returned (.int .i64 (skipL s : Nat)) ∧ w' = w := by
  have hsz := sv_size s
  obtain ⟨ans, hans⟩ : ∃ a, a = skipL s := ⟨_, rfl⟩
  rw [← hans]
  have h0 : ans = 0 + skipG false (s.drop 0) := by rw [List.drop_zero, hans]; unfold skipL; omega
  have H0 := hid h0
  clear hans h0
  go_enter Tryd.func20, Tryd.ntmps20
  go_wp2_with fail
  go_loop [3] (fun v3 => ∃ i : Nat, v3 = .int .i64 i ∧ i ≤ s.length ∧ ans = i + skipG false (s.drop i)) (fun v3 => s.length - (intOf v3).toNat)
  case atStart => exact ⟨0, rfl, by omega, H0.out⟩
  case round =>
    obtain ⟨i, rfl, hi, hsk⟩ := hrel
    by_cases hlt : i < s.length
    · obtain ⟨e1, e2, e3, e4, e5⟩ := skip_step hlt
      have hix := sv_index s i hlt
      generalize hc : s[i] = c at *
      have HC := hid hc
      clear hc
      by_cases h35 : c.toNat = 35
      · have HSK := hid (hsk.trans (congrArg (i + ·) (e2 h35)))
        clear hsk e1 e2 e3 e4 e5
        go_wp2_with fail
        go_loop [3] (fun v3 => ∃ k : Nat, v3 = .int .i64 k ∧ i ≤ k ∧ k ≤ s.length ∧ ans = k + skipG true (s.drop k)) (fun v3 => s.length - (intOf v3).toNat)
        case atStart => exact ⟨i, rfl, by omega, by omega, HSK.out⟩
        case round =>
          obtain ⟨k, rfl, hik, hk, hsk1⟩ := hrel
          by_cases hlt1 : k < s.length
          · obtain ⟨f1, f2, f3, f4, f5⟩ := skip_step hlt1
            have hix1 := sv_index s k hlt1
            have hki : s[k].toNat = 10 → i < k := by
              intro h
              rcases Nat.lt_or_ge i k with h1 | h1
              · exact h1
              · obtain rfl : i = k := by omega
                rw [HC.out] at h; omega
            generalize s[k] = d at *
            by_cases h10 : d.toNat = 10
            · have HN := hid (hsk1.trans (congrArg (k + ·) (f3 h10)))
              have hki := hki h10
              clear hsk1 f1 f2 f3 f4 f5 hix HC
              go_wp2_with fail
              go_round
              case rel => exact ⟨k, rfl, by omega, HN.out⟩
              case measure => simp [intOf]; omega
            · have HN := hid (show ans = (k + 1) + skipG true (s.drop (k + 1)) by rw [hsk1, f4 h10]; omega)
              clear hsk1 f1 f2 f3 f4 f5 hix hki HC
              go_wp2_with fail
              go_round
              case rel => exact ⟨k + 1, rfl, by omega, by omega, HN.out⟩
              case measure => simp [intOf]; omega
          · obtain rfl : k = s.length := by omega
            have HN := hid (show ans = s.length + skipG false (s.drop s.length) by rw [hsk1, skip_end, skip_end])
            clear hsk1
            go_wp2_with fail
            go_round
            case rel => exact ⟨s.length, rfl, by omega, HN.out⟩
            case measure => simp [intOf]; omega
      · have hb : (blankB c = true ∧ (c.toNat = 32 ∨ c.toNat = 9 ∨ c.toNat = 10 ∨ c.toNat = 13)) ∨ (blankB c = false ∧ c.toNat ≠ 32 ∧ c.toNat ≠ 9 ∧ c.toNat ≠ 10 ∧ c.toNat ≠ 13) := by
          unfold blankB
          simp only [Bool.or_eq_true, Bool.or_eq_false_iff, decide_eq_true_eq, decide_eq_false_iff_not]
          omega
        clear e2 e3 e4 HC
        rcases hb with ⟨hb, hc⟩ | ⟨hb, h1, h2, h3, h4⟩
        · have HN := hid (show ans = (i + 1) + skipG false (s.drop (i + 1)) by rw [hsk, e1 hb]; omega)
          clear hsk e1 e5 hb
          rcases hc with hc | hc | hc | hc
          · go_wp2_with fail
            go_round
            case rel => exact ⟨i + 1, rfl, by omega, HN.out⟩
            case measure => simp [intOf]; omega
          · go_wp2_with fail
            go_round
            case rel => exact ⟨i + 1, rfl, by omega, HN.out⟩
            case measure => simp [intOf]; omega
          · go_wp2_with fail
            go_round
            case rel => exact ⟨i + 1, rfl, by omega, HN.out⟩
            case measure => simp [intOf]; omega
          · go_wp2_with fail
            go_round
            case rel => exact ⟨i + 1, rfl, by omega, HN.out⟩
            case measure => simp [intOf]; omega
        · have HN := hid (show ans = i by rw [hsk, e5 hb h35]; omega)
          have b1 : ((c.toNat : Int) != 32) = true := by rw [bne_iff_ne]; omega
          have b2 : ((c.toNat : Int) != 9) = true := by rw [bne_iff_ne]; omega
          have b3 : ((c.toNat : Int) != 10) = true := by rw [bne_iff_ne]; omega
          have b4 : ((c.toNat : Int) != 13) = true := by rw [bne_iff_ne]; omega
          clear hsk e1 e5 hb
          go_wp2_with fail
          go_ret
          have hr := HN.out
          subst hr
          exact ⟨rfl, rfl⟩
    · obtain rfl : i = s.length := by omega
      have HN := hid (show ans = s.length by rw [hsk, skip_end]; omega)
      clear hsk
      go_wp2_with fail
      go_ret
      have hr := HN.out
      subst hr
      exact ⟨rfl, rfl⟩

def signL (c : UInt8) (s : Bt) : Nat := if s.take 2 ∈ pairsL then 2 else if c ∈ singlesL then 1 else 0
theorem sign_two {c : UInt8} {s : Bt} (h : s.take 2 ∈ pairsL) : signL c s = 2 := by unfold signL; rw [if_pos h]
theorem sign_one {c : UInt8} {s : Bt} (h : s.take 2 ∉ pairsL) (h1 : c ∈ singlesL) : signL c s = 1 := by unfold signL; rw [if_neg h, if_pos h1]
theorem sign_none {c : UInt8} {s : Bt} (h : s.take 2 ∉ pairsL) (h1 : c ∉ singlesL) : signL c s = 0 := by unfold signL; rw [if_neg h, if_neg h1]
set_option maxRecDepth 100000 in
set_option maxHeartbeats 1000000 in
theorem rsign_any (w : World) (c : UInt8) (r : Bt) (hs : (c :: r).length ≤ 281474976710656) : Calls Tryd.prog 39 #[sv (c :: r)] w fun e w' => e = .returned (.int .i64 (signL c (c :: r) : Nat)) ∧ Below w.heap.size w w' := by
  obtain ⟨s, hsc⟩ : ∃ s, s = c :: r := ⟨_, rfl⟩
  have hsz := sv_size s
  have hl1 : 1 ≤ s.length := by rw [hsc]; simp
  have hix0 : (ByteArray.mk s.toArray)[0]'(by omega) = c := by
    have := sv_index s 0 (by omega)
    rw [this]; simp [hsc]
  have hone : ¬ 2 ≤ s.length → s.take 2 ∉ pairsL := by
    intro h hm
    have := pairs_two _ hm
    rw [List.length_take] at this
    omega
  rw [← hsc] at hs ⊢
  clear hsc
  have hss : Ss (w.alloc (.cells (svs pairsL).toArray 9)) (w.alloc (.cells (svs pairsL).toArray 9)).heap.size (.slice (some ⟨w.heap.size, 0, none⟩) 8 8) pairsL := by
    have := sl_new w (svs pairsL).toArray 9 1 8 (by simp [svs_length]; rfl) (by decide)
    rw [World.size_alloc]
    simpa [Ss] using this
  have hb : Below w.heap.size w (w.alloc (.cells (svs pairsL).toArray 9)) := (Below.refl _ _).alloc (Nat.le_refl _) _
  have hex : 2 ≤ s.length → ByteArray.extract ⟨s.toArray⟩ 0 2 = ⟨(s.take 2).toArray⟩ := by
    intro _
    have h := extract_sv s 0 2
    rw [List.drop_zero] at h
    injection h
  have HONE := hid hone
  have HEX := hid hex
  clear hone hex
  have hlp : pairsL.length = 8 := rfl
  have hls : singlesL.length = 20 := rfl
  have HT := hid (fun h => sign_two (c := c) (s := s) h)
  have HO := hid (fun h h1 => sign_one (c := c) (s := s) h h1)
  have HN := hid (fun h h1 => sign_none (c := c) (s := s) h h1)
  generalize signL c s = ans at *
  go_enter Tryd.func39, Tryd.ntmps39
  go_wp2_with fail
  generalize hw : w.alloc (.cells #[.string ⟨#[45, 62]⟩, .string ⟨#[61, 62]⟩, .string ⟨#[60, 58]⟩, .string ⟨#[60, 60]⟩, .string ⟨#[60, 61]⟩, .string ⟨#[62, 62]⟩, .string ⟨#[61, 61]⟩, .string ⟨#[43, 43]⟩] 9) = w1 at *
  have hw' : w.alloc (.cells (svs pairsL).toArray 9) = w1 := hw
  rw [hw'] at hss hb
  clear hw hw'
  obtain ⟨A, cc, hA, hn, hcc, hx⟩ := hss.open_
  obtain ⟨b, o, hbo, hb2, hcell⟩ := hx (by rw [hlp]; omega)
  subst hbo
  simp only [Value.slice.injEq, Option.some.injEq, Addr.mk.injEq] at hA
  obtain ⟨⟨rfl, rfl, _⟩, h8a, h8b⟩ := hA
  clear hx hcc hn h8a h8b
  generalize pairsL = P at *
  go_loopw [4] (fun v4 wr => ∃ k : Nat, v4 = .int .i64 k ∧ k ≤ 8 ∧ s.take 2 ∉ P.take k ∧ Below w1.heap.size w1 wr) (fun v4 _ => 8 - (intOf v4).toNat)
  case atStart => exact ⟨0, rfl, by omega, by simp, Below.refl _ _⟩
  case round =>
    obtain ⟨k, rfl, hk, hnot, hbr⟩ := hrel
    by_cases hlt : k < 8
    · have hlt' : (k : Int) < 8 := by omega
      have d1 := (hbr.cell (p := ⟨w.heap.size, 0 + k, none⟩) hb2).trans (hcell k (by omega))
      rw [Nat.zero_add] at d1
      have hin : s.take 2 = P[k] → s.take 2 ∈ P := fun h => by rw [h]; exact List.getElem_mem _
      have hout : s.take 2 ≠ P[k] → s.take 2 ∉ P.take (k + 1) := fun h => not_take_succ (by omega) hnot h
      have HIN := hid hin
      have HOUT := hid hout
      have HNOT := hid hnot
      clear hin hout hnot hcell
      generalize hX : P[k] = X at *
      by_cases h2 : 2 ≤ s.length
      · have hex := HEX.out h2
        have hd2 : decide ((2 : Int) ≤ s.length) = true := by rw [decide_eq_true_eq]; omega
        by_cases hq : s.take 2 = X
        · have hq' : (s.take 2 == X) = true := by rw [beq_iff_eq]; exact hq
          have hres := HT.out (HIN.out hq)
          clear hq hX
          go_wp2_with fail
          go_quiet (fail)
          go_wp2_with fail
          go_ret
          exact ⟨by first | rfl | (rw [hres]; rfl), hb.trans ((hbr.trans ((below_drawn wr _).mono hbr.size)).mono hb.size)⟩
        · have hq' : (s.take 2 == X) = false := by rw [beq_eq_false_iff_ne]; exact hq
          have hr := hid (HOUT.out hq)
          clear hq hX
          go_wp2_with fail
          go_quiet (fail)
          go_wp2_with fail
          go_roundw
          case rel => exact ⟨k + 1, rfl, by omega, hr.out, hbr.trans ((below_drawn wr _).mono hbr.size)⟩
          case measure => simp [intOf]; omega
      · have hr := hid (fun h => HONE.out h2 (List.mem_of_mem_take (i := k + 1) h))
        have hd2 : decide ((2 : Int) ≤ s.length) = false := by rw [decide_eq_false_iff_not]; omega
        clear hX
        go_wp2_with fail
        go_quiet (fail)
        go_wp2_with fail
        go_roundw
        case rel => exact ⟨k + 1, rfl, by omega, hr.out, hbr.trans ((below_drawn wr _).mono hbr.size)⟩
        case measure => simp [intOf]; omega
    · have hk8 : ¬ (k : Int) < 8 := by omega
      rw [List.take_of_length_le (by omega)] at hnot
      have HNOT := hid hnot
      clear hnot HT HONE HEX hcell
      go_wp2_with fail
      rw [show Value.string ⟨#[40, 41, 123, 125, 91, 93, 44, 58, 59, 61, 43, 45, 42, 47, 37, 38, 94, 60, 124, 46]⟩ = sv singlesL from rfl]
      have hsq := sv_size singlesL
      generalize singlesL = Q at *
      go_loopw [6] (fun v6 w2 => ∃ k : Nat, v6 = .int .i64 k ∧ k ≤ 20 ∧ c ∉ Q.take k ∧ Below wr.heap.size wr w2) (fun v6 _ => 20 - (intOf v6).toNat)
      case atStart => exact ⟨0, rfl, by omega, by simp, Below.refl _ _⟩
      case round =>
        obtain ⟨k, rfl, hk2, hnot, hbr2⟩ := hrel
        by_cases hlt : k < 20
        · have hlt' : (k : Int) < 20 := by omega
          have hix := sv_index Q k (by omega)
          have hin : c = Q[k] → c ∈ Q := fun h => by rw [h]; exact List.getElem_mem _
          have hout : c ≠ Q[k] → c ∉ Q.take (k + 1) := fun h => not_take_succ (by omega) hnot h
          have HIN := hid hin
          have HOUT := hid hout
          have hnot' := hid hnot
          clear hin hout hnot
          generalize hX : Q[k] = X at *
          by_cases hq : c = X
          · have hres := HO.out HNOT.out (HIN.out hq)
            have hq' : (c.toNat : Int) = X.toNat := by rw [hq]
            clear hq hX
            go_wp2_with fail
            go_quiet (fail)
            go_wp2_with fail
            go_ret
            exact ⟨by first | rfl | (rw [hres]; rfl), hb.trans ((hbr.trans ((hbr2.trans ((below_drawn _ _).mono hbr2.size)).mono hbr.size)).mono hb.size)⟩
          · have hq' : ¬ (c.toNat : Int) = X.toNat := by intro h; exact hq (UInt8.toNat_inj.1 (by omega))
            have hr := hid (HOUT.out hq)
            clear hq hX
            go_wp2_with fail
            go_quiet (fail)
            go_wp2_with fail
            go_roundw
            case rel => exact ⟨k + 1, rfl, by omega, hr.out, hbr2.trans ((below_drawn _ _).mono hbr2.size)⟩
            case measure => simp [intOf]; omega
        · have hk8 : ¬ (k : Int) < 20 := by omega
          rw [List.take_of_length_le (by omega)] at hnot
          have hres := HN.out HNOT.out hnot
          clear hnot
          go_wp2_with fail
          go_ret
          exact ⟨by first | rfl | (rw [hres]; rfl), hb.trans ((hbr.trans (hbr2.mono hbr.size)).mono hb.size)⟩

set_option maxRecDepth 100000 in
set_option maxHeartbeats 1000000 in
theorem rquoted_any (w : World) (s : Bt) (hs : s.length ≤ 281474976710656) (h1 : 1 ≤ s.length) : Calls Tryd.prog 38 #[sv s] w fun e w' => e = .returned (quoteV (quoteL s)) ∧ w' = w := by
  have hsz := sv_size s
  generalize hans : quoteL s = ans
  go_enter Tryd.func38, Tryd.ntmps38
  go_wp2_with fail
  go_loop [4, 5, 6] (fun v4 v5 v6 => ∃ (i : Nat) (o : Bt), v5 = .int .i64 i ∧ v4 = sv o ∧ 1 ≤ i ∧ i ≤ s.length ∧ o.length ≤ i ∧ quoteG false o (i - 1) (s.drop i) = ans) (fun _ v5 _ => s.length - (intOf v5).toNat)
  case atStart => exact ⟨1, [], rfl, rfl, by omega, h1, by simp, hans⟩
  case round =>
    obtain ⟨i, o, rfl, rfl, hi1, hi, hol, hq⟩ := hrel
    have hol2 : ¬ 9223372036854775807 < o.length + 1 := by omega
    by_cases hlt : i < s.length
    · obtain ⟨e1, e2, e3, e4, _, _⟩ := quote_step hlt o (i - 1)
      have hix := sv_index s i hlt
      have hex : ByteArray.extract ⟨s.toArray⟩ i (i + 1) = ⟨[s[i]].toArray⟩ := by
        have h := extract_sv s i (i + 1)
        rw [List.take_succ_eq_append_getElem hlt, List.drop_append_of_le_length (by rw [List.length_take]; omega), List.drop_of_length_le (by rw [List.length_take]; omega), List.nil_append] at h
        injection h
      generalize hc : s[i] = c at *
      clear hc
      have E1 := hid e1
      have E2 := hid e2
      have E3 := hid e3
      have E4 := hid e4
      have HQ := hid hq
      clear e1 e2 e3 e4 hq
      by_cases h34 : c.toNat = 34
      · have hr : ans = some (o, i + 1) := by rw [← HQ.out, E1.out h34]; congr 2; omega
        subst hr
        clear E1 E2 E3 E4
        go_wp2_with fail
        go_ret2
        exact ⟨rfl, rfl⟩
      · by_cases h32 : c.toNat < 32
        · have hr : ans = none := by rw [← HQ.out, E2.out h32]
          subst hr
          clear E1 E2 E3 E4
          go_wp2_with fail
          go_ret2
          exact ⟨rfl, rfl⟩
        · by_cases h92 : c.toNat = 92
          · have hr := HQ.out
            rw [E4.out h92, show i - 1 + 1 = i from by omega] at hr
            have HR := hid hr
            clear hr E1 E2 E3 E4 HQ hex
            by_cases hlt2 : i + 1 < s.length
            · obtain ⟨_, _, _, _, e5, e6⟩ := quote_step hlt2 o i
              have hix2 := sv_index s (i + 1) hlt2
              have hex2 : ByteArray.extract ⟨s.toArray⟩ (i + 1) (i + 2) = ⟨[s[i + 1]].toArray⟩ := by
                have h := extract_sv s (i + 1) (i + 2)
                rw [List.take_succ_eq_append_getElem hlt2, List.drop_append_of_le_length (by rw [List.length_take]; omega), List.drop_of_length_le (by rw [List.length_take]; omega), List.nil_append] at h
                injection h
              generalize hd : s[i + 1] = d at *
              clear hd
              have E5 := hid e5
              have E6 := hid e6
              clear e5 e6
              have key : ∀ e, escB d = some e → ∃ (j : Nat) (o' : Bt), Value.int .i64 ((i + 2 : Nat) : Int) = .int .i64 j ∧ Value.string ((⟨o.toArray⟩ : ByteArray) ++ ⟨[e].toArray⟩) = sv o' ∧ 1 ≤ j ∧ j ≤ s.length ∧ o'.length ≤ j ∧ quoteG false o' (j - 1) (s.drop j) = ans := by
                intro e he
                refine ⟨i + 2, o ++ [e], rfl, sv_append _ _, by omega, by omega, by simp; omega, ?_⟩
                rw [← HR.out, E5.out e he]; rfl
              have KEY := hid key
              clear key E5
              rcases escB_cases d with ⟨hd, he⟩ | ⟨hd, he⟩ | ⟨hd, he⟩ | ⟨hd, he⟩ | ⟨⟨k1, k2, k3, k4⟩, he⟩
              · have hd2 : d = 92 := UInt8.toNat_inj.1 hd
                have K := hid (KEY.out _ he)
                clear KEY E6 he
                go_wp2_with fail
                go_round
                case rel => exact K.out
                case measure => simp [intOf]; omega
              · have hd2 : d = 34 := UInt8.toNat_inj.1 hd
                have K := hid (KEY.out _ he)
                clear KEY E6 he
                go_wp2_with fail
                go_round
                case rel => exact K.out
                case measure => simp [intOf]; omega
              · have K := hid (KEY.out _ he)
                clear KEY E6 he hex2
                go_wp2_with fail
                go_round
                case rel => exact K.out
                case measure => simp [intOf]; omega
              · have K := hid (KEY.out _ he)
                clear KEY E6 he hex2
                go_wp2_with fail
                go_round
                case rel => exact K.out
                case measure => simp [intOf]; omega
              · have hr : ans = none := by rw [← HR.out, E6.out he]
                subst hr
                clear KEY E6 he hex2
                go_wp2_with fail
                go_ret2
                exact ⟨rfl, rfl⟩
            · have hr : ans = none := by
                rw [← HR.out, show i + 1 = s.length from by omega, quote_end]
              subst hr
              clear HR
              go_wp2_with fail
              go_ret2
              exact ⟨rfl, rfl⟩
          · have hr := HQ.out
            rw [E3.out (by omega) h34 h92, show i - 1 + 1 = i from by omega] at hr
            have key : ∃ (j : Nat) (o' : Bt), Value.int .i64 ((i + 1 : Nat) : Int) = .int .i64 j ∧ Value.string ((⟨o.toArray⟩ : ByteArray) ++ ⟨[c].toArray⟩) = sv o' ∧ 1 ≤ j ∧ j ≤ s.length ∧ o'.length ≤ j ∧ quoteG false o' (j - 1) (s.drop j) = ans :=
              ⟨i + 1, o ++ [c], rfl, sv_append _ _, by omega, by omega, by simp; omega, by rw [show i + 1 - 1 = i from by omega]; exact hr⟩
            have KEY := hid key
            clear key hr E1 E2 E3 E4 HQ
            go_wp2_with fail
            go_round
            case rel => exact KEY.out
            case measure => simp [intOf]; omega
    · obtain rfl : i = s.length := by omega
      rw [quote_end] at hq
      subst hq
      go_wp2_with fail
      go_ret2
      exact ⟨rfl, rfl⟩
end Go.Proofs.YtpgngegdflbahaaDoor
