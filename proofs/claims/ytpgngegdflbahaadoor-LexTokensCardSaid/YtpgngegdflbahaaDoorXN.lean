/- LexTokens walked. -/
import Derived.Test.YtpgngegdflbahaaDoorXZ
import Derived.Test.YtpgngegdflbahaaDoorXP
set_option linter.unusedVariables false
namespace Go.Proofs.YtpgngegdflbahaaDoor
open Go.RowKit

set_option maxRecDepth 100000 in
set_option maxHeartbeats 2000000 in
theorem tokens_same (w : World) (va vb : Value) (l : List TokD) (ba bb : Nat) (hA : w.ownsRow ba 32 4 va l.length (tokCells l)) (hB : w.ownsRow bb 32 4 vb l.length (tokCells l)) :
    Calls Tryd.prog 11 #[va, vb] w fun e w' => e = .returned (.bool true) ∧ Below w.heap.size w w' := by
  obtain ⟨A, c, rfl, hc⟩ := own_slice hA
  obtain ⟨B, d, rfl, hd⟩ := own_slice hB
  unfold maxLen at hc hd
  have HA := hid hA
  have HB := hid hB
  clear hA hB
  go_enter Tryd.func11, Tryd.ntmps11
  go_wp2_with fail
  go_loopw [5] (fun v5 wr => ∃ k : Nat, v5 = .int .i64 k ∧ k ≤ l.length ∧ Below w.heap.size w wr) (fun v5 _ => l.length - (intOf v5).toNat)
  case atStart => exact ⟨0, rfl, by omega, Below.refl _ _⟩
  case round =>
    obtain ⟨k, rfl, hk, hb⟩ := hrel
    by_cases hlt : k < l.length
    · have hA := own_below HA.out hb
      have hB := own_below HB.out hb
      obtain ⟨g1, c1, h1, _⟩ := own_form hA (by omega)
      obtain ⟨g2, c2, h2, _⟩ := own_form hB (by omega)
      simp only [Value.slice.injEq] at h1 h2
      obtain ⟨rfl, _, rfl⟩ := h1
      obtain ⟨rfl, _, rfl⟩ := h2
      obtain ⟨a0, a1, a2, a3⟩ := tok_cells hA hlt
      obtain ⟨b0, b1, b2, b3⟩ := tok_cells hB hlt
      clear hA hB
      generalize l[k] = T at *
      obtain ⟨kd, t, ln, cl⟩ := T
      simp only at a0 a1 a2 a3 b0 b1 b2 b3
      go_wp2_with fail
      go_quiet (fail)
      go_wp2_with fail
      go_roundw
      case rel => exact ⟨k + 1, rfl, by omega, hb.trans ((below_drawn wr _).mono hb.size)⟩
      case measure => simp [intOf]; omega
    · obtain rfl : k = l.length := by omega
      go_wp2_with fail
      go_ret
      exact ⟨rfl, hb⟩

set_option maxRecDepth 100000 in
set_option maxHeartbeats 2000000 in
theorem lexTokens_any (nm : ByteArray) (w : World) (hn : nm.size ≤ 140737488351232) (hX : LaidX w) :
    Calls Tryd.prog 3 #[.string nm] w fun e w' => e = .returned (.bool true) ∧ Below w.heap.size w w' := by
  obtain ⟨s, hs0, hsl⟩ : ∃ s : Bt, Value.string nm = sv s ∧ s.length ≤ 281474976710656 := ⟨nm.data.toList, by show Value.string nm = Value.string ⟨nm.data.toList.toArray⟩; simp, by
    have e : nm.data.toList.length = nm.size := Array.length_toList
    omega⟩
  rw [hs0]
  clear hs0 hn
  have hsz := sv_size s
  go_enter Tryd.func3, Tryd.ntmps3
  go_wp2_with fail
  refine (awake_any _ hX).mono ?_
  rintro e w1 ⟨rfl, hb1⟩
  by_cases h5 : (70000 : Int) < s.length
  · go_wp2_with fail
    go_ret
    exact ⟨rfl, hb1⟩
  go_wp2_with fail
  refine (lex_any _ s (hX.below hb1)).mono ?_
  rintro e w2 ⟨v1, n1, rfl, hr1, hb2⟩
  have hB2 := bthen hb1 hb2
  have HRL := hid (fun u => rlex_any u s)
  generalize lexL s = ans at *
  obtain ⟨toks, ln, cl, er⟩ := ans
  simp only at hr1
  have hn1 : n1 = toks.length := by have := hr1.1; rw [tokCells_length] at this; omega
  subst hn1
  unfold diagV
  simp only []
  have hd2 := heap_alloc_new w2 (.cells #[.int .i64 0, .int .i64 (ln : Nat), .int .i64 (cl : Nat), .int .i64 er] 26)
  have hBA := hB2.alloc hB2.size (.cells #[.int .i64 0, .int .i64 (ln : Nat), .int .i64 (cl : Nat), .int .i64 er] 26)
  have hrA := hr1.alloc (.cells #[.int .i64 0, .int .i64 (ln : Nat), .int .i64 (cl : Nat), .int .i64 er] 26)
  clear hr1 hb1 hb2 hB2
  go_wp2_with fail
  generalize hd2n : w2.heap.size = b2 at *
  generalize w2.alloc (.cells #[.int .i64 0, .int .i64 (ln : Nat), .int .i64 (cl : Nat), .int .i64 er] 26) = W2 at *
  clear hd2n
  refine (HRL.out W2).mono ?_
  rintro e w3 ⟨v2, n2, rfl, hr2, hb3⟩
  simp only at hr2
  have hn2 : n2 = toks.length := by have := hr2.1; rw [tokCells_length] at this; omega
  subst hn2
  unfold diagV
  simp only []
  have hbb := hb3.alloc hb3.size (.cells #[.int .i64 0, .int .i64 (ln : Nat), .int .i64 (cl : Nat), .int .i64 er] 26)
  have hd3 := heap_alloc_new w3 (.cells #[.int .i64 0, .int .i64 (ln : Nat), .int .i64 (cl : Nat), .int .i64 er] 26)
  have hrB := hr2.alloc (.cells #[.int .i64 0, .int .i64 (ln : Nat), .int .i64 (cl : Nat), .int .i64 er] 26)
  have hrA2 := own_below hrA hbb
  have hd2' := block_turn hd2 (Turn.of_below (F := fun _ => False) hbb) id
  have hBB := bthen hBA hbb
  clear hr2 hrA hd2 hb3 HRL
  go_wp2_with fail
  generalize hd3n : w3.heap.size = b3 at *
  generalize w3.alloc (.cells #[.int .i64 0, .int .i64 (ln : Nat), .int .i64 (cl : Nat), .int .i64 er] 26) = W3 at *
  clear hd3n
  refine (tokens_same W3 v1 v2 toks _ _ hrA2 hrB).mono ?_
  rintro e w4 ⟨rfl, hb4⟩
  have q2 := block_turn hd2' (Turn.of_below (F := fun _ => False) hb4) id
  have q3 := block_turn hd3 (Turn.of_below (F := fun _ => False) hb4) id
  have a0 : w4.cell? ⟨b2, 0, none⟩ = some (.int .i64 0) := (cell_of_row _ _ _ _ _ (0, 0) q2).trans rfl
  have a1 : w4.cell? ⟨b2, 1, none⟩ = some (.int .i64 (ln : Nat)) := (cell_of_row _ _ _ _ _ (0, 0) q2).trans rfl
  have a2 : w4.cell? ⟨b2, 2, none⟩ = some (.int .i64 (cl : Nat)) := (cell_of_row _ _ _ _ _ (0, 0) q2).trans rfl
  have a3 : w4.cell? ⟨b2, 3, none⟩ = some (.int .i64 er) := (cell_of_row _ _ _ _ _ (0, 0) q2).trans rfl
  have c0 : w4.cell? ⟨b3, 0, none⟩ = some (.int .i64 0) := (cell_of_row _ _ _ _ _ (0, 0) q3).trans rfl
  have c1 : w4.cell? ⟨b3, 1, none⟩ = some (.int .i64 (ln : Nat)) := (cell_of_row _ _ _ _ _ (0, 0) q3).trans rfl
  have c2 : w4.cell? ⟨b3, 2, none⟩ = some (.int .i64 (cl : Nat)) := (cell_of_row _ _ _ _ _ (0, 0) q3).trans rfl
  have c3 : w4.cell? ⟨b3, 3, none⟩ = some (.int .i64 er) := (cell_of_row _ _ _ _ _ (0, 0) q3).trans rfl
  clear hd2' hd3 q2 q3
  go_wp2_with fail
  go_ret
  exact ⟨by first | rfl | simp, bthen hBB hb4⟩
end Go.Proofs.YtpgngegdflbahaaDoor
