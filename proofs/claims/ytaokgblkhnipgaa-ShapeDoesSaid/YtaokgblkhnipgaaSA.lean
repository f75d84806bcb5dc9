/- The contracts of shape's functions that read, and of the statements' own. -/
import Derived.Test.YtaokgblkhnipgaaSS
set_option linter.unusedVariables false
namespace Go.Proofs.Ytaokgblkhnipgaa
open Go.RowKit
open Go.Maps (has IsMap Keyed)

set_option maxHeartbeats 400000 in
theorem clone_s (v : Value) (l : List Nm) (w : World) (hv : Ss w w.heap.size v l) (hl : l.length ≤ 8796093022208) :
    Calls Try.prog 20 #[v] w fun e w' => ∃ v', e = .returned v' ∧ OwnS w' w.heap.size 9 v' l ∧ Below w.heap.size w w' := by
  obtain ⟨A, c, rfl, hn, hc, hx⟩ := hv.open_
  have hnl : ∀ (w : World) (A : Option Addr) (n c : Nat), (binOp .eql 22 (.slice A n c) (.slice none 0 0)).run Try.prog w = .ok (.bool A.isNone) w := fun w A n c => Lib.run_eql_slice_nil w _ _ A n c 0 0 Try.underlying22
  rcases A with _ | ad
  · have h0 : l.length = 0 := by
      rcases Nat.eq_zero_or_pos l.length with h | h
      · exact h
      · obtain ⟨b, off, hA, _⟩ := hx h; cases hA
    obtain rfl : l = [] := List.eq_nil_of_length_eq_zero h0
    go_enter Try.func20, Try.ntmps20
    go_wp2_with fail
    go_ret
    exact ⟨_, rfl, OwnS.nil _ _ _, Below.refl _ _⟩
  · have hown : OwnS (w.alloc (.cells #[] 9)) w.heap.size 9 (.slice (some ⟨w.heap.size, 0, none⟩) 0 0) [] := ⟨0, World.ownsRow_made w #[] 0 (Nat.le_refl _) (by simp [maxLen]) rfl⟩
    have hsl := hv.alloc (Nat.le_refl _) (.cells #[] 9)
    have hb0 : Below w.heap.size w (w.alloc (.cells #[] 9)) := (Below.refl _ _).alloc (Nat.le_refl _) _
    go_enter Try.func20, Try.ntmps20
    go_wp2_with (at_builtin; refine wpList_appS rfl _ _ _ rfl w.heap.size el_str _ _ rfl rfl hown hsl ?c1 ?c3 (fun v' w' hown' hg hbk => ?_))
    case c1 => simpa using hl
    case c3 => simp
    go_ret
    exact ⟨v', rfl, hown', below_appS hb0 hown hg (Nat.le_refl _) (by simp)⟩

theorem at_in (w : World) (bt g n c s : Nat) (hc : w.cell? ⟨bt, 0, none⟩ = some (.slice (some ⟨g, 0, none⟩) n c)) (hn : n ≤ maxLen) (hs : s < n) :
    Calls Try.prog 19 #[.pointer (some ⟨bt, 0, none⟩), .int .i64 (s : Nat)] w fun e w' => e = .returned (.pointer (some ⟨g, s * 2, none⟩)) ∧ w' = w := by
  unfold maxLen at hn
  go_enter Try.func19, Try.ntmps19
  go_wp2_with fail
  go_ret
  exact ⟨rfl, rfl⟩
theorem at_out (w : World) (bt n c : Nat) (A : Option Addr) (s : Int) (hc : w.cell? ⟨bt, 0, none⟩ = some (.slice A n c)) (hn : n ≤ maxLen) (hs : ¬ (0 ≤ s ∧ s < n)) :
    Calls Try.prog 19 #[.pointer (some ⟨bt, 0, none⟩), .int .i64 s] w fun e w' => e = .returned (.pointer none) ∧ w' = w := by
  unfold maxLen at hn
  by_cases h0 : s < 0
  · go_enter Try.func19, Try.ntmps19
    go_wp2_with fail
    go_ret
    exact ⟨rfl, rfl⟩
  · have h1 : ¬ (s < (n : Int)) := by omega
    go_enter Try.func19, Try.ntmps19
    go_wp2_with fail
    go_ret
    exact ⟨rfl, rfl⟩
end Go.Proofs.Ytaokgblkhnipgaa
