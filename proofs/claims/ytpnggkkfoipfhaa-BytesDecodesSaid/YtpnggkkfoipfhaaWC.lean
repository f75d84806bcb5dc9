/- The contracts of the reference's Put, and of both Gets. -/
import Derived.Test.YtpnggkkfoipfhaaWB
set_option linter.unusedVariables false
namespace Go.Proofs.Ytpnggkkfoipfhaa
open Go.RowKit

set_option maxRecDepth 100000 in
set_option maxHeartbeats 400000 in
theorem refput_any (v : Value) (l : List UInt8) (n : Int) (w : World) (hn : In64 n) (hv : Bs w w.heap.size v l) (hl : l.length ≤ 140737488355000) :
    Calls Try.prog 47 #[v, .int .i64 n] w fun e w' => ∃ v', e = .returned v' ∧ OwnB w' w.heap.size 5 v' (l ++ putL n) ∧ Below w.heap.size w w' := by
  have hz2 := zz_lt hn
  obtain ⟨A, c, rfl, _, hc, _⟩ := hv.open_
  have hcase : (n < 0 ∧ IntKind.u64.wrap (IntKind.u64.wrap (IntKind.u64.wrap (wrap64 (-1 - n)) * 2) + 1) = (zz n : Int)) ∨ (0 ≤ n ∧ IntKind.u64.wrap (IntKind.u64.wrap n * 2) = (zz n : Int)) := by
    rcases Int.lt_or_le n 0 with h0 | h0
    · exact .inl ⟨h0, zz_ref_neg hn h0⟩
    · exact .inr ⟨h0, zz_ref_pos hn h0⟩
  rcases hcase with ⟨h0, hz⟩ | ⟨h0, hz⟩
  all_goals
    go_enter Try.func47, Try.ntmps47
    go_wp2_with (at_builtin; go_must (refine wpList_appB rfl _ _ _ rfl w.heap.size el_byte _ _ rfl rfl (OwnB.nil _ _ _) hv (by simp; omega) (Nat.le_refl _) (fun v1 w1 hown1 hg1 hbk1 => ?_)))
    have hb1 := below_appB (Below.refl w.heap.size w) (OwnB.nil w w.heap.size 5) hg1 (Nat.le_refl _) (Nat.le_refl _)
    have HL := hid hl
    clear hz hv hg1 hbk1 hc hl
    go_loopw [5, 6] (fun v5 v6 wr => ∃ (f u : Nat) (done : List UInt8), v6 = .int .u64 u ∧ Fits f u ∧ f ≤ 9 ∧ done.length + f ≤ 9 ∧ done ++ grp f u = putL n ∧ OwnB wr w.heap.size 5 v5 (l ++ done) ∧ Below w.heap.size w wr) (fun _ v6 _ => (intOf v6).toNat)
    case atStart => exact ⟨9, zz n, [], rfl, ⟨by omega, by omega⟩, by omega, by simp, rfl, by simpa using hown1, hb1⟩
    case round =>
      obtain ⟨f, u, done, rfl, hu, hf, hdl, hrest, hown, hb⟩ := hrel
      have Hrest := hid hrest
      have HU := hid hu
      clear hrest hown1 hb1 hu hz2 hf
      by_cases hlt : u < 128
      · go_wp2_with (at_builtin; go_must (refine wpList_appB rfl _ _ _ rfl w.heap.size el_byte _ _ rfl rfl (hown.alloc _) (bs_new wr _ _ (by omega)) (by have := HL.out; simp; omega) (le_alloc hb.size _) (fun v' w' hown' hg hbk => ?_)))
        go_ret
        have hr := Hrest.out
        rw [grp_low hlt] at hr
        refine ⟨v', rfl, ?_, below_appB (hb.alloc hb.size _) (hown.alloc _) hg (Nat.le_refl _) (le_alloc hb.size _)⟩
        rw [← hr, ← List.append_assoc]
        exact hown'
      · obtain ⟨g, rfl⟩ := HU.out.pos hlt
        have hq : IntKind.u64.wrap ((u : Int) / 128) = (u : Int) / 128 := by have := HU.out.1; rw [u64_wrap]; omega
        go_wp2_with (at_builtin; go_must (refine wpList_appB rfl _ _ _ rfl w.heap.size el_byte _ _ rfl rfl (hown.alloc _) (bs_new wr _ _ (by omega)) (by have := HL.out; simp; omega) (le_alloc hb.size _) (fun v' w' hown' hg hbk => ?_)))
        go_roundw
        case rel =>
          have hr := Hrest.out
          rw [grp_high hlt] at hr
          refine ⟨g, u / 128, done ++ [UInt8.ofNat (u % 128 + 128)], rfl, HU.out.next, by omega, by simp; omega, by simpa using hr, ?_, below_appB (hb.alloc hb.size _) (hown.alloc _) hg (Nat.le_refl _) (le_alloc hb.size _)⟩
          rw [← List.append_assoc]
          exact hown'
        case measure => simp [intOf]; omega
end Go.Proofs.Ytpnggkkfoipfhaa
