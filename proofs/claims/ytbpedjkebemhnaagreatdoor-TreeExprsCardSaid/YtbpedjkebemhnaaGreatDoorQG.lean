/- LexQuotes and LexAgain walked. -/
import Derived.Test.YtbpedjkebemhnaaGreatDoorGI
import Derived.Test.YtbpedjkebemhnaaGreatDoorXO
import Derived.Test.YtbpedjkebemhnaaGreatDoorGH
set_option linter.unusedVariables false
namespace Go.Proofs.YtbpedjkebemhnaaGreatDoor
open Go.RowKit

set_option maxRecDepth 100000 in
set_option maxHeartbeats 1000000 in
theorem rquote_any (w : World) (s : Bt) (hs : s.length ≤ 1000000) : Calls Tryz.prog 78 #[sv s] w fun e w' => e = .returned (sv (quoteW s)) ∧ w' = w := by
  have hsz := sv_size s
  have hq : quoteW s = (34 :: s.flatMap escW) ++ [34] := rfl
  generalize hans : quoteW s = ans at *
  have HQ := hid hq
  clear hq hans
  go_enter Tryz.func78, Tryz.ntmps78
  go_wp2_with fail
  go_loop [3, 4] (fun v3 v4 => ∃ (i : Nat) (o : Bt), v4 = .int .i64 i ∧ v3 = sv o ∧ i ≤ s.length ∧ o.length ≤ 2 * i + 1 ∧ o = 34 :: (s.take i).flatMap escW) (fun _ v4 => s.length - (intOf v4).toNat)
  case atStart => exact ⟨0, [34], rfl, rfl, by omega, by simp, rfl⟩
  case round =>
    obtain ⟨i, o, rfl, rfl, hi, hol, ho⟩ := hrel
    by_cases hlt : i < s.length
    · have hix := sv_index s i hlt
      have hft := flat_take hlt
      have hex : ByteArray.extract ⟨s.toArray⟩ i (i + 1) = ⟨[s[i]].toArray⟩ := by
        have h := extract_sv s i (i + 1)
        rw [List.take_succ_eq_append_getElem hlt, List.drop_append_of_le_length (by rw [List.length_take]; omega), List.drop_of_length_le (by rw [List.length_take]; omega), List.nil_append] at h
        injection h
      have hb1 : ¬ 9223372036854775807 < o.length + 1 := by omega
      have hb2 : ¬ 9223372036854775807 < o.length + 1 + 1 := by omega
      have hb3 : ¬ 9223372036854775807 < o.length + 2 := by omega
      have hos := sv_size o
      have key : ∀ u : Bt, escW s[i] = u → u.length ≤ 2 → ∃ (j : Nat) (o' : Bt), Value.int .i64 ((i + 1 : Nat) : Int) = .int .i64 j ∧ Value.string ((⟨o.toArray⟩ : ByteArray) ++ ⟨u.toArray⟩) = sv o' ∧ j ≤ s.length ∧ o'.length ≤ 2 * j + 1 ∧ o' = 34 :: (s.take j).flatMap escW := by
        intro u hu hul
        refine ⟨i + 1, o ++ u, rfl, sv_append _ _, by omega, by rw [List.length_append]; omega, ?_⟩
        rw [hft, hu, ho]; simp
      have KEY := hid key
      clear hft key
      generalize hX : s[i] = X at *
      clear hX
      have HO := hid ho
      clear ho
      have tw : ∀ x y : UInt8, (⟨o.toArray⟩ : ByteArray) ++ ⟨[x, y].toArray⟩ = ⟨o.toArray⟩ ++ ⟨[x].toArray⟩ ++ ⟨[y].toArray⟩ := fun x y => by rw [str_append, str_append, str_append]; simp
      have TW := hid tw
      clear tw
      by_cases h92 : X.toNat = 92
      · have K := KEY.out [92, 92] (by unfold escW; rw [if_pos h92]) (by simp)
        rw [TW.out] at K
        have hx2 : X = 92 := UInt8.toNat_inj.1 h92
        have HK := hid K
        clear K KEY TW
        go_wp2_with fail
        go_round
        case rel => exact HK.out
        case measure => simp [intOf]; omega
      · by_cases h34 : X.toNat = 34
        · have K := KEY.out [92, 34] (by unfold escW; rw [if_neg h92, if_pos h34]) (by simp)
          rw [TW.out] at K
          have hx2 : X = 34 := UInt8.toNat_inj.1 h34
          have HK := hid K
          clear K KEY TW
          go_wp2_with fail
          go_round
          case rel => exact HK.out
          case measure => simp [intOf]; omega
        · by_cases h10 : X.toNat = 10
          · have K := KEY.out [92, 110] (by unfold escW; rw [if_neg h92, if_neg h34, if_pos h10]) (by simp)
            have HK := hid K
            clear K KEY TW hex
            go_wp2_with fail
            go_round
            case rel => exact HK.out
            case measure => simp [intOf]; omega
          · by_cases h9 : X.toNat = 9
            · have K := KEY.out [92, 116] (by unfold escW; rw [if_neg h92, if_neg h34, if_neg h10, if_pos h9]) (by simp)
              have HK := hid K
              clear K KEY TW hex
              go_wp2_with fail
              go_round
              case rel => exact HK.out
              case measure => simp [intOf]; omega
            · have K := KEY.out [X] (by unfold escW; rw [if_neg h92, if_neg h34, if_neg h10, if_neg h9]) (by simp)
              have HK := hid K
              clear K KEY TW
              go_wp2_with fail
              go_round
              case rel => exact HK.out
              case measure => simp [intOf]; omega
    · obtain rfl : i = s.length := by omega
      rw [List.take_length] at ho
      have hres : Value.string ((⟨o.toArray⟩ : ByteArray) ++ ⟨[34].toArray⟩) = sv ans := by rw [sv_append, HQ.out, ho]
      have hos := sv_size o
      have hb1 : ¬ 9223372036854775807 < o.length + 1 := by omega
      have HRES := hid hres
      clear ho hres
      go_wp2_with fail
      go_ret
      exact ⟨by first | (rw [← HRES.out]; rfl) | exact congrArg Ending.returned HRES.out, rfl⟩
end Go.Proofs.YtbpedjkebemhnaaGreatDoor
