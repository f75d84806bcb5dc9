/- The contracts of lex's words, of the library's Index over texts, and of how a lexer passes over bytes. -/
import Derived.Test.YtpgngegdflbahaaGreatDoorXA
import Derived.Test.YtpgngegdflbahaaGreatDoorWG
set_option linter.unusedVariables false
namespace Go.Proofs.YtpgngegdflbahaaGreatDoor
open Go.RowKit

theorem el_str : ElemIs Tryz.prog 46 9 (sv []) 1 16 := ⟨Tryz.underlying46, by kernel_rfl, rfl, by decide⟩
/-- What the listed variables hold that a lexer looks at. -/
def LaidX (w : World) : Prop := LaidW w ∧ Lib.TabIs Tryz.prog w "strings.asciiSpace" .u8 Lib.asciiSpaceTab
theorem LaidX.below {w w' : World} (h : LaidX w) (hb : Below w.heap.size w w') : LaidX w' := ⟨h.1.below hb, var_below h.2 hb⟩

def wordsT : Bt := [97, 110, 100, 32, 97, 110, 121, 32, 97, 115, 32, 98, 111, 111, 108, 32, 101, 108, 115, 101, 32, 101, 120, 112, 111, 114, 116, 32, 102, 97, 108, 115, 101, 32, 102, 110, 32, 102, 117, 110, 99, 116, 105, 111, 110, 32, 105, 102, 32, 105, 109, 112, 111, 114, 116, 32, 105, 110, 32, 105, 110, 116, 32, 105, 115, 32, 108, 101, 116, 32, 110, 111, 116, 32, 110, 117, 108, 108, 32, 111, 114, 32, 112, 114, 105, 110, 116, 32, 114, 101, 97, 100, 32, 114, 101, 99, 111, 114, 100, 32, 115, 116, 114, 32, 116, 104, 101, 110, 32, 116, 114, 117, 101, 32, 119, 105, 116, 104]
set_option maxRecDepth 100000 in
theorem words_fields : Lib.fields wordsT = wordsL := by kernel_rfl
set_option maxRecDepth 100000 in
theorem words_ascii : (wordsT.all fun b => decide (b.toNat < 128)) = true := by kernel_rfl
theorem words_list : (⟨wordsT.toArray⟩ : ByteArray).data.toList = wordsT := rfl
set_option maxRecDepth 100000 in
theorem words_any (w : World) (hL : LaidX w) : Calls Tryz.prog 20 #[] w fun e w' => ∃ v, e = .returned v ∧ Ss w' w'.heap.size v wordsL ∧ Below w.heap.size w w' := by
  go_enter Tryz.func20, Tryz.ntmps20
  go_wp2_with fail
  refine (Tryz.strings_Fields ⟨wordsT.toArray⟩ _ ?h1 ?h2 hL.2).mono ?_
  case h1 => decide
  case h2 =>
    intro j b hb
    rw [words_list] at hb
    exact of_decide_eq_true (List.all_eq_true.1 words_ascii b (List.mem_of_getElem? hb))
  rintro e w1 ⟨rfl, rfl⟩
  rw [words_list, words_fields]
  have hss : Ss (w.alloc (.cells (wordsL.map fun l => Value.string ⟨l.toArray⟩).toArray 9)) (w.alloc (.cells (wordsL.map fun l => Value.string ⟨l.toArray⟩).toArray 9)).heap.size (.slice (some ⟨w.heap.size, 0, none⟩) wordsL.length wordsL.length) wordsL := by
    have := sl_new w (wordsL.map fun l => Value.string ⟨l.toArray⟩).toArray 9 1 wordsL.length (by simp) (by decide)
    rw [World.size_alloc]
    simpa [Ss, svs] using this
  have hb : Below w.heap.size w (w.alloc (.cells (wordsL.map fun l => Value.string ⟨l.toArray⟩).toArray 9)) := (Below.refl _ _).alloc (Nat.le_refl _) _
  generalize (w.alloc (.cells (wordsL.map fun l => Value.string ⟨l.toArray⟩).toArray 9)) = w2 at *
  generalize wordsL.length = n at *
  go_wp2_with fail
  go_ret
  exact ⟨_, rfl, hss, hb⟩

set_option maxHeartbeats 400000 in
theorem index_any (v : Value) (l : List Bt) (x : Bt) (w : World) (hv : Ss w w.heap.size v l) :
    Calls Tryz.prog 30 #[v, sv x] w fun e w' => (∃ k : Int, e = .returned (.int .i64 k) ∧ (0 ≤ k ↔ x ∈ l)) ∧ w' = w := by
  obtain ⟨A, c, rfl, hn, hc, hx⟩ := hv.open_
  unfold maxLen at hc
  go_enter Tryz.func30, Tryz.ntmps30
  go_wp2_with fail
  go_loop [5, 8] (fun v5 v8 => ∃ k : Nat, v8 = .int .i64 k ∧ k ≤ l.length ∧ x ∉ l.take k) (fun _ v8 => l.length - (intOf v8).toNat)
  case atStart => exact ⟨0, rfl, by omega, by simp⟩
  case round =>
    obtain ⟨k, rfl, hk, hnot⟩ := hrel
    by_cases hlt : k < l.length
    · obtain ⟨b, o, rfl, hb, hcell⟩ := hx (by omega)
      have d1 := hcell k hlt
      have e1 : x = l[k] → x ∈ l := fun h => by rw [h]; exact List.getElem_mem hlt
      have e2 : ¬ x = l[k] → x ∉ l.take (k + 1) := fun h hh => by
        rw [List.take_succ_eq_append_getElem hlt, List.mem_append] at hh
        rcases hh with hh | hh
        · exact hnot hh
        · simp at hh; exact h hh
      clear hcell hx hv hnot
      generalize l[k] = X at *
      by_cases hX : x = X
      · have e3 := e1 hX
        have hq : (x == X) = true := by rw [beq_iff_eq]; exact hX
        clear hX e1 e2
        go_wp2_with fail
        go_ret
        exact ⟨⟨k, rfl, by simp [e3]⟩, rfl⟩
      · have e3 := e2 hX
        have hq : (x == X) = false := by rw [beq_eq_false_iff_ne]; exact hX
        clear hX e1 e2
        go_wp2_with fail
        go_round
        case rel => exact ⟨k + 1, rfl, by omega, e3⟩
        case measure => simp [intOf]; omega
    · obtain rfl : k = l.length := by omega
      rw [List.take_length] at hnot
      go_wp2_with fail
      go_ret
      exact ⟨⟨-1, rfl, by simp [hnot]⟩, rfl⟩
theorem contains_any (v : Value) (l : List Bt) (x : Bt) (w : World) (hv : Ss w w.heap.size v l) :
    Calls Tryz.prog 19 #[v, sv x] w fun e w' => e = .returned (.bool (decide (x ∈ l))) ∧ w' = w := by
  go_enter Tryz.func19, Tryz.ntmps19
  go_wp2_with fail
  refine (index_any v l x _ hv).mono ?_
  rintro e w1 ⟨⟨k, rfl, hk⟩, rfl⟩
  by_cases h : x ∈ l
  · have h0 := hk.2 h
    clear hk
    go_wp2_with fail
    go_ret
    exact ⟨by simp [h], rfl⟩
  · have h0 : ¬ (0 ≤ k) := fun hh => h (hk.1 hh)
    clear hk
    go_wp2_with fail
    go_ret
    exact ⟨by first | (simp [h]; done) | (simp [h]; exact h0) | (simp [h]; omega), rfl⟩
end Go.Proofs.YtpgngegdflbahaaGreatDoor
