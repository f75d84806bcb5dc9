/- The contracts of word's Put and Get and of the references'. -/
import Derived.Test.YtpnggkkfoipfhaaRows
import Derived.Test.YtpnggkkfoipfhaaPW
import Derived.Test.YtpnggkkfoipfhaaM
import Derived.WalkKit
import Derived.WalkSpells
import Derived.WalkLawsBesides
import Derived.RegionTactic
import Derived.Deep.QuietTactic
import Derived.BigQuiet
set_option linter.unusedVariables false
namespace Go.Proofs.Ytpnggkkfoipfhaa
open Go.RowKit
theorem ret_int1 {a c : Int} (h : a = c) : Ending.returned (.int .i64 a) = .returned (.int .i64 c) := by rw [h]
theorem ret2 {a b c d : Int} (h : (a, b) = (c, d)) : Ending.returned (.tuple #[.int .i64 a, .int .i64 b]) = .returned (.tuple #[.int .i64 c, .int .i64 d]) := by cases h; rfl

theorem el_byte : ElemIs Try.prog 31 5 (.int .u8 0) 1 1 := ⟨Try.underlying31, by kernel_rfl, rfl, by decide⟩

set_option maxHeartbeats 400000 in
theorem clone_any (v : Value) (l : List UInt8) (w : World) (hv : Bs w w.heap.size v l) (hl : l.length ≤ 140737488355328) :
    Calls Try.prog 62 #[v] w fun e w' => ∃ v', e = .returned v' ∧ OwnB w' w.heap.size 5 v' l ∧ Below w.heap.size w w' := by
  obtain ⟨A, c, rfl, hn, hc, hx⟩ := hv.open_
  have hnl : ∀ (w : World) (A : Option Addr) (n c : Nat), (binOp .eql 31 (.slice A n c) (.slice none 0 0)).run Try.prog w = .ok (.bool A.isNone) w := fun w A n c => Lib.run_eql_slice_nil w _ _ A n c 0 0 Try.underlying31
  rcases A with _ | ad
  · have h0 : l.length = 0 := by
      rcases Nat.eq_zero_or_pos l.length with h | h
      · exact h
      · obtain ⟨b, off, hA, _⟩ := hx h; cases hA
    obtain rfl : l = [] := List.eq_nil_of_length_eq_zero h0
    go_enter Try.func62, Try.ntmps62
    go_wp2_with fail
    go_ret
    exact ⟨_, rfl, OwnB.nil _ _ _, Below.refl _ _⟩
  · have hown : OwnB (w.alloc (.cells #[] 5)) w.heap.size 5 (.slice (some ⟨w.heap.size, 0, none⟩) 0 0) [] := ⟨0, World.ownsRow_made w #[] 0 (Nat.le_refl _) (by simp [maxLen]) rfl⟩
    have hsl := hv.alloc (Nat.le_refl _) (.cells #[] 5)
    have hb0 : Below w.heap.size w (w.alloc (.cells #[] 5)) := (Below.refl _ _).alloc (Nat.le_refl _) _
    go_enter Try.func62, Try.ntmps62
    go_wp2_with (at_builtin; refine wpList_appB rfl _ _ _ rfl w.heap.size el_byte _ _ rfl rfl hown hsl ?c1 ?c3 (fun v' w' hown' hg hbk => ?_))
    case c1 => simpa using hl
    case c3 => simp
    go_ret
    exact ⟨v', rfl, hown', below_appB hb0 hown hg (Nat.le_refl _) (by simp)⟩

set_option maxRecDepth 100000 in
set_option maxHeartbeats 400000 in
theorem put_any (v : Value) (l : List UInt8) (n : Int) (w : World) (hn : In64 n) (hv : Bs w w.heap.size v l) (hl : l.length ≤ 140737488355000) :
    Calls Try.prog 40 #[v, .int .i64 n] w fun e w' => ∃ v', e = .returned v' ∧ OwnB w' w.heap.size 5 v' (l ++ putL n) ∧ Below w.heap.size w w' := by
  have hz := zz_put hn
  have hz2 := zz_lt hn
  have hz3 := grp_length 9 (zz n)
  go_enter Try.func40, Try.ntmps40
  go_wp2_with (go_at_call 62; refine (clone_any v l _ hv (by omega)).mono ?_; rintro e w1 ⟨v1, rfl, hown1, hb1⟩)
  clear hz hv
  go_loopw [5, 6] (fun v5 v6 wr => ∃ (f u : Nat) (done : List UInt8), v6 = .int .u64 u ∧ Fits f u ∧ f ≤ 9 ∧ done.length + f ≤ 9 ∧ done ++ grp f u = putL n ∧ OwnB wr w.heap.size 5 v5 (l ++ done) ∧ Below w.heap.size w wr) (fun _ v6 _ => (intOf v6).toNat)
  case atStart => exact ⟨9, zz n, [], rfl, ⟨by omega, by omega⟩, by omega, by simp, rfl, by simpa using hown1, hb1⟩
  case round =>
    obtain ⟨f, u, done, rfl, hu, hf, hd, hrest, hown, hb⟩ := hrel
    have Hrest := hid hrest
    have HU := hid hu
    clear hrest hown1 hb1 hu hz2 hz3
    have HL := hid hl
    clear hl hf
    by_cases hlt : u < 128
    · go_wp2_with (at_builtin; refine wpList_appB rfl _ _ _ rfl w.heap.size el_byte _ _ rfl rfl (hown.alloc _) (bs_new wr _ _ ?c0) ?c1 ?c3 (fun v' w' hown' hg hbk => ?_))
      case c0 => omega
      case c1 => have := HL.out; simp; omega
      case c3 => exact le_alloc hb.size _
      go_ret
      have hr := Hrest.out
      rw [grp_low hlt] at hr
      refine ⟨v', rfl, ?_, below_appB (hb.alloc hb.size _) (hown.alloc _) hg (Nat.le_refl _) (le_alloc hb.size _)⟩
      rw [← hr, ← List.append_assoc]
      exact hown'
    · obtain ⟨g, rfl⟩ := HU.out.pos hlt
      have hor : bits .or .u8 ((u : Int) % 256) 128 = ((u % 128 + 128 : Nat) : Int) := by
        have h := or128 (u % 256) (Nat.mod_lt _ (by decide))
        rw [show u % 256 % 128 = u % 128 from by omega] at h
        exact h
      go_wp2_with (at_builtin; go_must (refine wpList_appB rfl _ _ _ rfl w.heap.size el_byte _ _ rfl rfl (hown.alloc _) (bs_new wr _ _ ?d0) ?d1 ?d3 (fun v' w' hown' hg hbk => ?_)))
      case d0 => omega
      case d1 => have := HL.out; simp; omega
      case d3 => exact le_alloc hb.size _
      go_roundw
      case rel =>
        have hr := Hrest.out
        rw [grp_high hlt] at hr
        refine ⟨g, u / 128, done ++ [UInt8.ofNat (u % 128 + 128)], rfl, HU.out.next, by omega, by simp; omega, by simpa using hr, ?_, below_appB (hb.alloc hb.size _) (hown.alloc _) hg (Nat.le_refl _) (le_alloc hb.size _)⟩
        rw [← List.append_assoc]
        exact hown'
      case measure => simp [intOf]; omega
end Go.Proofs.Ytpnggkkfoipfhaa
