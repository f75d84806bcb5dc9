/- VC -/
import Derived.Test.YtbpedjkebemhnaaGreatDoorSA07
import Derived.Test.YtbpedjkebemhnaaGreatDoorSA08
set_option linter.unusedSimpArgs false
set_option linter.unusedVariables false
/- What a kind has, and whether a node's own part is right: the reference. -/
set_option linter.unusedVariables false
namespace Go.Proofs.YtbpedjkebemhnaaGreatDoor
open Go.RowKit

/-- The most types that the reference gives a kind. -/
def rTypes (k : Int) : Nat := if k = 19 then 1000000 else (hasD k).types
set_option maxRecDepth 100000 in
set_option maxHeartbeats 4000000 in
theorem rshape_any (w : World) (k : Int) (h0 : 0 ≤ k) (h1 : k < 20) : Calls Tryz.prog 75 #[.int .i64 k] w fun e w' => e = .returned (.tuple #[.bool (hasD k).name, .int .i64 ((hasD k).low : Int), .int .i64 (rTypes k : Int), .int .i64 (hasD k).kids]) ∧ w' = w := by
  have h : k = 0 ∨ k = 1 ∨ k = 2 ∨ k = 3 ∨ k = 4 ∨ k = 5 ∨ k = 6 ∨ k = 7 ∨ k = 8 ∨ k = 9 ∨ k = 10 ∨ k = 11 ∨ k = 12 ∨ k = 13 ∨ k = 14 ∨ k = 15 ∨ k = 16 ∨ k = 17 ∨ k = 18 ∨ k = 19 := by omega
  clear h0 h1
  obtain ⟨R, hR⟩ : ∃ R : Int → Value, R = fun k => .tuple #[.bool (hasD k).name, .int .i64 ((hasD k).low : Int), .int .i64 (rTypes k : Int), .int .i64 (hasD k).kids] := ⟨_, rfl⟩
  have HR := hid hR
  have e : (Value.tuple #[.bool (hasD k).name, .int .i64 ((hasD k).low : Int), .int .i64 (rTypes k : Int), .int .i64 (hasD k).kids]) = R k := by rw [hR]
  rw [e]
  clear hR e
  rcases h with rfl | rfl | rfl | rfl | rfl | rfl | rfl | rfl | rfl | rfl | rfl | rfl | rfl | rfl | rfl | rfl | rfl | rfl | rfl | rfl
  all_goals
    go_enter Tryz.func75, Tryz.ntmps75
    go_wp2_with fail
    refine bodyPost_ret (results_tmp4 rfl _ _ _) rfl ?_
    exact ⟨by rw [HR.out]; rfl, rfl⟩
/-- Is N as its kind has it? -/
def numB (k n : Int) : Bool := if k = 0 then decide (0 ≤ n) else if k = 2 then decide (n = 0 ∨ n = 1) else if k = 12 then decide (0 ≤ n ∧ n < 6) else decide (n = 0)
theorem num_eq {k n : Int} (h0 : 0 ≤ k) (h1 : k < 20) (hn : In64 n) : numB k n = decide (0 ≤ n ∧ n ≤ (hasD k).most) := by
  have hn2 : n ≤ 9223372036854775807 := by have := hn.2; omega
  have h : k = 0 ∨ k = 1 ∨ k = 2 ∨ k = 3 ∨ k = 4 ∨ k = 5 ∨ k = 6 ∨ k = 7 ∨ k = 8 ∨ k = 9 ∨ k = 10 ∨ k = 11 ∨ k = 12 ∨ k = 13 ∨ k = 14 ∨ k = 15 ∨ k = 16 ∨ k = 17 ∨ k = 18 ∨ k = 19 := by omega
  have key : ∀ (p q : Prop) [Decidable p] [Decidable q], (p ↔ q) → decide p = decide q := fun p q _ _ h => by simp [h]
  rcases h with rfl | rfl | rfl | rfl | rfl | rfl | rfl | rfl | rfl | rfl | rfl | rfl | rfl | rfl | rfl | rfl | rfl | rfl | rfl | rfl
  · show decide (0 ≤ n) = decide (0 ≤ n ∧ n ≤ 9223372036854775807)
    exact key _ _ (by omega)
  · show decide (n = 0) = decide (0 ≤ n ∧ n ≤ 0)
    exact key _ _ (by omega)
  · show decide (n = 0 ∨ n = 1) = decide (0 ≤ n ∧ n ≤ 1)
    exact key _ _ (by omega)
  · show decide (n = 0) = decide (0 ≤ n ∧ n ≤ 0)
    exact key _ _ (by omega)
  · show decide (n = 0) = decide (0 ≤ n ∧ n ≤ 0)
    exact key _ _ (by omega)
  · show decide (n = 0) = decide (0 ≤ n ∧ n ≤ 0)
    exact key _ _ (by omega)
  · show decide (n = 0) = decide (0 ≤ n ∧ n ≤ 0)
    exact key _ _ (by omega)
  · show decide (n = 0) = decide (0 ≤ n ∧ n ≤ 0)
    exact key _ _ (by omega)
  · show decide (n = 0) = decide (0 ≤ n ∧ n ≤ 0)
    exact key _ _ (by omega)
  · show decide (n = 0) = decide (0 ≤ n ∧ n ≤ 0)
    exact key _ _ (by omega)
  · show decide (n = 0) = decide (0 ≤ n ∧ n ≤ 0)
    exact key _ _ (by omega)
  · show decide (n = 0) = decide (0 ≤ n ∧ n ≤ 0)
    exact key _ _ (by omega)
  · show decide (0 ≤ n ∧ n < 6) = decide (0 ≤ n ∧ n ≤ 5)
    exact key _ _ (by omega)
  · show decide (n = 0) = decide (0 ≤ n ∧ n ≤ 0)
    exact key _ _ (by omega)
  · show decide (n = 0) = decide (0 ≤ n ∧ n ≤ 0)
    exact key _ _ (by omega)
  · show decide (n = 0) = decide (0 ≤ n ∧ n ≤ 0)
    exact key _ _ (by omega)
  · show decide (n = 0) = decide (0 ≤ n ∧ n ≤ 0)
    exact key _ _ (by omega)
  · show decide (n = 0) = decide (0 ≤ n ∧ n ≤ 0)
    exact key _ _ (by omega)
  · show decide (n = 0) = decide (0 ≤ n ∧ n ≤ 0)
    exact key _ _ (by omega)
  · show decide (n = 0) = decide (0 ≤ n ∧ n ≤ 0)
    exact key _ _ (by omega)
set_option maxRecDepth 100000 in
set_option maxHeartbeats 4000000 in
theorem own_k0 (w : World) (text : Bt) (n li co : Int) (A5 : Option Addr) (n5 c5 : Nat) (A6 : Option Addr) (n6 c6 : Nat) (A7 : Option Addr) (n7 c7 : Nat) (ht : text.length ≤ maxLen) :
    Calls Tryz.prog 76 #[.agg #[.int .i64 0, sv text, .int .i64 n, .int .i64 li, .int .i64 co, .slice A5 n5 c5, .slice A6 n6 c6, .slice A7 n7 c7], .bool false] w fun e w' => e = .returned (.bool (textB 0 text false && numB 0 n)) ∧ Below w.heap.size w w' := by
  obtain ⟨W, hW⟩ : ∃ W, w.alloc (.cells #[.int .i64 0, sv text, .int .i64 n, .int .i64 li, .int .i64 co, .slice A5 n5 c5, .slice A6 n6 c6, .slice A7 n7 c7] 26) = W := ⟨_, rfl⟩
  have hb1 : Below w.heap.size w W := by rw [← hW]; exact (Below.refl _ _).alloc (Nat.le_refl _) _
  have hbx : W.heap[w.heap.size]? = some (.cells #[.int .i64 0, sv text, .int .i64 n, .int .i64 li, .int .i64 co, .slice A5 n5 c5, .slice A6 n6 c6, .slice A7 n7 c7] 26 (0, 0)) := by rw [← hW]; exact heap_alloc_new w _
  have HB := hid hb1
  have HBX := hid hbx
  have HWE := hid hW
  have H1 := rname_any W text ht
  have H2 := hid (fun w1 => rstr_any text w1 ht)
  have H3 := hid (fun w1 => rop_any w1 text)
  rw [← hW] at H1
  have H1 := hid H1
  have HTB : Hid (textB 0 text false = (text == [])) := hid (rfl)
  have hes : (text == []) = decide (text = []) := by cases text <;> rfl
  generalize nameL text = b1 at *
  generalize strB text = b2 at *
  generalize decide (text ∈ opsL) = b3 at *
  generalize hb4 : decide (text = []) = b4 at *
  clear hb1 hbx hW ht
  have hen : (text != []) = !b4 := by unfold bne; rw [hes]
  go_enter Tryz.func76, Tryz.ntmps76
  go_wp2_with fail
  refine H1.out.mono ?_
  rintro e w2 ⟨rfl, hb⟩
  rw [HWE.out] at hb
  obtain ⟨g0, g1, g2, g3, g4, g5, g6, g7⟩ := t_row8 ((hb.block _ (block_lt HBX.out)).trans HBX.out)
  have HB2 := hid hb
  clear hb
  go_wp2_with fail
  refine (H2.out _).mono ?_
  rintro e w3 ⟨rfl, rfl⟩
  go_wp2_with fail
  refine (H3.out _).mono ?_
  rintro e w4 ⟨rfl, hb⟩
  clear g0 g1 g2 g3 g4 g5 g6 g7
  obtain ⟨g0, g1, g2, g3, g4, g5, g6, g7⟩ := t_row8 (((HB2.out.trans (hb.mono HB2.out.size)).block _ (block_lt HBX.out)).trans HBX.out)
  have HB4 := hid (HB.out.trans ((HB2.out.trans (hb.mono HB2.out.size)).mono HB.out.size))
  clear hb
  cases b4 with
  | false =>
    have HR : Hid ((textB 0 text false && numB 0 n) = false) := hid (by rw [HTB.out]; rw [hes]; rfl)
    go_wp2_with fail
    go_ret
    exact ⟨by rw [HR.out]; rfl, HB4.out⟩
  | true =>
    have HR : Hid ((textB 0 text false && numB 0 n) = numB 0 n) := hid (by rw [HTB.out]; rw [hes]; rfl)
    by_cases h : 0 ≤ n
    · have HN : Hid (numB 0 n = true) := hid (by unfold numB; rw [if_pos rfl, decide_eq_true h])
      have g9 : decide (0 ≤ n) = true := decide_eq_true h
      go_wp2_with fail
      go_ret
      exact ⟨by rw [HR.out, HN.out]; rfl, HB4.out⟩
    · have HN : Hid (numB 0 n = false) := hid (by unfold numB; rw [if_pos rfl, decide_eq_false h])
      have g9 : decide (0 ≤ n) = false := decide_eq_false h
      go_wp2_with fail
      go_ret
      exact ⟨by rw [HR.out, HN.out]; rfl, HB4.out⟩
set_option maxRecDepth 100000 in
set_option maxHeartbeats 4000000 in
theorem own_k2 (w : World) (text : Bt) (n li co : Int) (A5 : Option Addr) (n5 c5 : Nat) (A6 : Option Addr) (n6 c6 : Nat) (A7 : Option Addr) (n7 c7 : Nat) (ht : text.length ≤ maxLen) :
    Calls Tryz.prog 76 #[.agg #[.int .i64 2, sv text, .int .i64 n, .int .i64 li, .int .i64 co, .slice A5 n5 c5, .slice A6 n6 c6, .slice A7 n7 c7], .bool false] w fun e w' => e = .returned (.bool (textB 2 text false && numB 2 n)) ∧ Below w.heap.size w w' := by
  obtain ⟨W, hW⟩ : ∃ W, w.alloc (.cells #[.int .i64 2, sv text, .int .i64 n, .int .i64 li, .int .i64 co, .slice A5 n5 c5, .slice A6 n6 c6, .slice A7 n7 c7] 26) = W := ⟨_, rfl⟩
  have hb1 : Below w.heap.size w W := by rw [← hW]; exact (Below.refl _ _).alloc (Nat.le_refl _) _
  have hbx : W.heap[w.heap.size]? = some (.cells #[.int .i64 2, sv text, .int .i64 n, .int .i64 li, .int .i64 co, .slice A5 n5 c5, .slice A6 n6 c6, .slice A7 n7 c7] 26 (0, 0)) := by rw [← hW]; exact heap_alloc_new w _
  have HB := hid hb1
  have HBX := hid hbx
  have HWE := hid hW
  have H1 := rname_any W text ht
  have H2 := hid (fun w1 => rstr_any text w1 ht)
  have H3 := hid (fun w1 => rop_any w1 text)
  rw [← hW] at H1
  have H1 := hid H1
  have HTB : Hid (textB 2 text false = (text == [])) := hid (rfl)
  have hes : (text == []) = decide (text = []) := by cases text <;> rfl
  generalize nameL text = b1 at *
  generalize strB text = b2 at *
  generalize decide (text ∈ opsL) = b3 at *
  generalize hb4 : decide (text = []) = b4 at *
  clear hb1 hbx hW ht
  have hen : (text != []) = !b4 := by unfold bne; rw [hes]
  go_enter Tryz.func76, Tryz.ntmps76
  go_wp2_with fail
  refine H1.out.mono ?_
  rintro e w2 ⟨rfl, hb⟩
  rw [HWE.out] at hb
  obtain ⟨g0, g1, g2, g3, g4, g5, g6, g7⟩ := t_row8 ((hb.block _ (block_lt HBX.out)).trans HBX.out)
  have HB2 := hid hb
  clear hb
  go_wp2_with fail
  refine (H2.out _).mono ?_
  rintro e w3 ⟨rfl, rfl⟩
  go_wp2_with fail
  refine (H3.out _).mono ?_
  rintro e w4 ⟨rfl, hb⟩
  clear g0 g1 g2 g3 g4 g5 g6 g7
  obtain ⟨g0, g1, g2, g3, g4, g5, g6, g7⟩ := t_row8 (((HB2.out.trans (hb.mono HB2.out.size)).block _ (block_lt HBX.out)).trans HBX.out)
  have HB4 := hid (HB.out.trans ((HB2.out.trans (hb.mono HB2.out.size)).mono HB.out.size))
  clear hb
  cases b4 with
  | false =>
    have HR : Hid ((textB 2 text false && numB 2 n) = false) := hid (by rw [HTB.out]; rw [hes]; rfl)
    go_wp2_with fail
    go_ret
    exact ⟨by rw [HR.out]; rfl, HB4.out⟩
  | true =>
    have HR : Hid ((textB 2 text false && numB 2 n) = numB 2 n) := hid (by rw [HTB.out]; rw [hes]; rfl)
    by_cases h : n = 0
    · subst h
      have HN : Hid (numB 2 0 = true) := hid (by rfl)
      go_wp2_with fail
      go_ret
      exact ⟨by rw [HR.out, HN.out]; rfl, HB4.out⟩
    by_cases h1 : n = 1
    · subst h1
      have HN : Hid (numB 2 1 = true) := hid (by rfl)
      go_wp2_with fail
      go_ret
      exact ⟨by rw [HR.out, HN.out]; rfl, HB4.out⟩
    · have HN : Hid (numB 2 n = false) := hid (by unfold numB; rw [if_neg (by decide), if_pos rfl, decide_eq_false (by omega)])
      have g9 : (n == 0) = false := beq_eq_false_iff_ne.mpr h
      have g10 : (n == 1) = false := beq_eq_false_iff_ne.mpr h1
      clear h h1
      go_wp2_with fail
      go_ret
      exact ⟨by rw [HR.out, HN.out]; rfl, HB4.out⟩
set_option maxRecDepth 100000 in
set_option maxHeartbeats 4000000 in
theorem own_k12 (w : World) (text : Bt) (n li co : Int) (A5 : Option Addr) (n5 c5 : Nat) (A6 : Option Addr) (n6 c6 : Nat) (A7 : Option Addr) (n7 c7 : Nat) (ht : text.length ≤ maxLen) :
    Calls Tryz.prog 76 #[.agg #[.int .i64 12, sv text, .int .i64 n, .int .i64 li, .int .i64 co, .slice A5 n5 c5, .slice A6 n6 c6, .slice A7 n7 c7], .bool false] w fun e w' => e = .returned (.bool (textB 12 text false && numB 12 n)) ∧ Below w.heap.size w w' := by
  obtain ⟨W, hW⟩ : ∃ W, w.alloc (.cells #[.int .i64 12, sv text, .int .i64 n, .int .i64 li, .int .i64 co, .slice A5 n5 c5, .slice A6 n6 c6, .slice A7 n7 c7] 26) = W := ⟨_, rfl⟩
  have hb1 : Below w.heap.size w W := by rw [← hW]; exact (Below.refl _ _).alloc (Nat.le_refl _) _
  have hbx : W.heap[w.heap.size]? = some (.cells #[.int .i64 12, sv text, .int .i64 n, .int .i64 li, .int .i64 co, .slice A5 n5 c5, .slice A6 n6 c6, .slice A7 n7 c7] 26 (0, 0)) := by rw [← hW]; exact heap_alloc_new w _
  have HB := hid hb1
  have HBX := hid hbx
  have HWE := hid hW
  have H1 := rname_any W text ht
  have H2 := hid (fun w1 => rstr_any text w1 ht)
  have H3 := hid (fun w1 => rop_any w1 text)
  rw [← hW] at H1
  have H1 := hid H1
  have HTB : Hid (textB 12 text false = (text == [])) := hid (rfl)
  have hes : (text == []) = decide (text = []) := by cases text <;> rfl
  generalize nameL text = b1 at *
  generalize strB text = b2 at *
  generalize decide (text ∈ opsL) = b3 at *
  generalize hb4 : decide (text = []) = b4 at *
  clear hb1 hbx hW ht
  have hen : (text != []) = !b4 := by unfold bne; rw [hes]
  go_enter Tryz.func76, Tryz.ntmps76
  go_wp2_with fail
  refine H1.out.mono ?_
  rintro e w2 ⟨rfl, hb⟩
  rw [HWE.out] at hb
  obtain ⟨g0, g1, g2, g3, g4, g5, g6, g7⟩ := t_row8 ((hb.block _ (block_lt HBX.out)).trans HBX.out)
  have HB2 := hid hb
  clear hb
  go_wp2_with fail
  refine (H2.out _).mono ?_
  rintro e w3 ⟨rfl, rfl⟩
  go_wp2_with fail
  refine (H3.out _).mono ?_
  rintro e w4 ⟨rfl, hb⟩
  clear g0 g1 g2 g3 g4 g5 g6 g7
  obtain ⟨g0, g1, g2, g3, g4, g5, g6, g7⟩ := t_row8 (((HB2.out.trans (hb.mono HB2.out.size)).block _ (block_lt HBX.out)).trans HBX.out)
  have HB4 := hid (HB.out.trans ((HB2.out.trans (hb.mono HB2.out.size)).mono HB.out.size))
  clear hb
  cases b4 with
  | false =>
    have HR : Hid ((textB 12 text false && numB 12 n) = false) := hid (by rw [HTB.out]; rw [hes]; rfl)
    go_wp2_with fail
    go_ret
    exact ⟨by rw [HR.out]; rfl, HB4.out⟩
  | true =>
    have HR : Hid ((textB 12 text false && numB 12 n) = numB 12 n) := hid (by rw [HTB.out]; rw [hes]; rfl)
    by_cases h : 0 ≤ n
    · by_cases h1 : n < 6
      · have HN : Hid (numB 12 n = true) := hid (by unfold numB; rw [if_neg (by decide), if_neg (by decide), if_pos rfl, decide_eq_true ⟨h, h1⟩])
        have g9 : decide (0 ≤ n) = true := decide_eq_true h
        have g10 : decide (n < 6) = true := decide_eq_true h1
        go_wp2_with fail
        go_ret
        exact ⟨by rw [HR.out, HN.out]; rfl, HB4.out⟩
      · have HN : Hid (numB 12 n = false) := hid (by unfold numB; rw [if_neg (by decide), if_neg (by decide), if_pos rfl, decide_eq_false (by omega)])
        have g9 : decide (0 ≤ n) = true := decide_eq_true h
        have g10 : decide (n < 6) = false := decide_eq_false h1
        go_wp2_with fail
        go_ret
        exact ⟨by rw [HR.out, HN.out]; rfl, HB4.out⟩
    · have HN : Hid (numB 12 n = false) := hid (by unfold numB; rw [if_neg (by decide), if_neg (by decide), if_pos rfl, decide_eq_false (by omega)])
      have g9 : decide (0 ≤ n) = false := decide_eq_false h
      go_wp2_with fail
      go_ret
      exact ⟨by rw [HR.out, HN.out]; rfl, HB4.out⟩
set_option maxRecDepth 100000 in
set_option maxHeartbeats 4000000 in
theorem own_k1 (w : World) (text : Bt) (n li co : Int) (A5 : Option Addr) (n5 c5 : Nat) (A6 : Option Addr) (n6 c6 : Nat) (A7 : Option Addr) (n7 c7 : Nat) (ht : text.length ≤ maxLen) :
    Calls Tryz.prog 76 #[.agg #[.int .i64 1, sv text, .int .i64 n, .int .i64 li, .int .i64 co, .slice A5 n5 c5, .slice A6 n6 c6, .slice A7 n7 c7], .bool false] w fun e w' => e = .returned (.bool (textB 1 text false && numB 1 n)) ∧ Below w.heap.size w w' := by
  obtain ⟨W, hW⟩ : ∃ W, w.alloc (.cells #[.int .i64 1, sv text, .int .i64 n, .int .i64 li, .int .i64 co, .slice A5 n5 c5, .slice A6 n6 c6, .slice A7 n7 c7] 26) = W := ⟨_, rfl⟩
  have hb1 : Below w.heap.size w W := by rw [← hW]; exact (Below.refl _ _).alloc (Nat.le_refl _) _
  have hbx : W.heap[w.heap.size]? = some (.cells #[.int .i64 1, sv text, .int .i64 n, .int .i64 li, .int .i64 co, .slice A5 n5 c5, .slice A6 n6 c6, .slice A7 n7 c7] 26 (0, 0)) := by rw [← hW]; exact heap_alloc_new w _
  have HB := hid hb1
  have HBX := hid hbx
  have HWE := hid hW
  have H1 := rname_any W text ht
  have H2 := hid (fun w1 => rstr_any text w1 ht)
  have H3 := hid (fun w1 => rop_any w1 text)
  rw [← hW] at H1
  have H1 := hid H1
  have HTB : Hid (textB 1 text false = (strB text)) := hid (rfl)
  have hes : (text == []) = decide (text = []) := by cases text <;> rfl
  generalize nameL text = b1 at *
  generalize strB text = b2 at *
  generalize decide (text ∈ opsL) = b3 at *
  generalize hb4 : decide (text = []) = b4 at *
  clear hb1 hbx hW ht
  have hen : (text != []) = !b4 := by unfold bne; rw [hes]
  go_enter Tryz.func76, Tryz.ntmps76
  go_wp2_with fail
  refine H1.out.mono ?_
  rintro e w2 ⟨rfl, hb⟩
  rw [HWE.out] at hb
  obtain ⟨g0, g1, g2, g3, g4, g5, g6, g7⟩ := t_row8 ((hb.block _ (block_lt HBX.out)).trans HBX.out)
  have HB2 := hid hb
  clear hb
  go_wp2_with fail
  refine (H2.out _).mono ?_
  rintro e w3 ⟨rfl, rfl⟩
  go_wp2_with fail
  refine (H3.out _).mono ?_
  rintro e w4 ⟨rfl, hb⟩
  clear g0 g1 g2 g3 g4 g5 g6 g7
  obtain ⟨g0, g1, g2, g3, g4, g5, g6, g7⟩ := t_row8 (((HB2.out.trans (hb.mono HB2.out.size)).block _ (block_lt HBX.out)).trans HBX.out)
  have HB4 := hid (HB.out.trans ((HB2.out.trans (hb.mono HB2.out.size)).mono HB.out.size))
  clear hb
  cases b2 with
  | false =>
    have HR : Hid ((textB 1 text false && numB 1 n) = false) := hid (by rw [HTB.out]; rfl)
    go_wp2_with fail
    go_ret
    exact ⟨by rw [HR.out]; rfl, HB4.out⟩
  | true =>
    have HR : Hid ((textB 1 text false && numB 1 n) = numB 1 n) := hid (by rw [HTB.out]; rfl)
    by_cases h : n = 0
    · subst h
      have HN : Hid (numB 1 0 = true) := hid (by unfold numB; rw [if_neg (by decide), if_neg (by decide), if_neg (by decide), decide_eq_true rfl])
      go_wp2_with fail
      go_ret
      exact ⟨by rw [HR.out, HN.out]; rfl, HB4.out⟩
    · have HN : Hid (numB 1 n = false) := hid (by unfold numB; rw [if_neg (by decide), if_neg (by decide), if_neg (by decide), decide_eq_false h])
      have g9 : (n == 0) = false := beq_eq_false_iff_ne.mpr h
      clear h
      go_wp2_with fail
      go_ret
      exact ⟨by rw [HR.out, HN.out]; rfl, HB4.out⟩
set_option maxRecDepth 100000 in
set_option maxHeartbeats 4000000 in
theorem own_k14 (w : World) (text : Bt) (n li co : Int) (A5 : Option Addr) (n5 c5 : Nat) (A6 : Option Addr) (n6 c6 : Nat) (A7 : Option Addr) (n7 c7 : Nat) (ht : text.length ≤ maxLen) :
    Calls Tryz.prog 76 #[.agg #[.int .i64 14, sv text, .int .i64 n, .int .i64 li, .int .i64 co, .slice A5 n5 c5, .slice A6 n6 c6, .slice A7 n7 c7], .bool false] w fun e w' => e = .returned (.bool (textB 14 text false && numB 14 n)) ∧ Below w.heap.size w w' := by
  obtain ⟨W, hW⟩ : ∃ W, w.alloc (.cells #[.int .i64 14, sv text, .int .i64 n, .int .i64 li, .int .i64 co, .slice A5 n5 c5, .slice A6 n6 c6, .slice A7 n7 c7] 26) = W := ⟨_, rfl⟩
  have hb1 : Below w.heap.size w W := by rw [← hW]; exact (Below.refl _ _).alloc (Nat.le_refl _) _
  have hbx : W.heap[w.heap.size]? = some (.cells #[.int .i64 14, sv text, .int .i64 n, .int .i64 li, .int .i64 co, .slice A5 n5 c5, .slice A6 n6 c6, .slice A7 n7 c7] 26 (0, 0)) := by rw [← hW]; exact heap_alloc_new w _
  have HB := hid hb1
  have HBX := hid hbx
  have HWE := hid hW
  have H1 := rname_any W text ht
  have H2 := hid (fun w1 => rstr_any text w1 ht)
  have H3 := hid (fun w1 => rop_any w1 text)
  rw [← hW] at H1
  have H1 := hid H1
  have HTB : Hid (textB 14 text false = (decide (text ∈ opsL))) := hid (by show opsL.contains text = _; rw [List.contains_eq_mem])
  have hes : (text == []) = decide (text = []) := by cases text <;> rfl
  generalize nameL text = b1 at *
  generalize strB text = b2 at *
  generalize decide (text ∈ opsL) = b3 at *
  generalize hb4 : decide (text = []) = b4 at *
  clear hb1 hbx hW ht
  have hen : (text != []) = !b4 := by unfold bne; rw [hes]
  go_enter Tryz.func76, Tryz.ntmps76
  go_wp2_with fail
  refine H1.out.mono ?_
  rintro e w2 ⟨rfl, hb⟩
  rw [HWE.out] at hb
  obtain ⟨g0, g1, g2, g3, g4, g5, g6, g7⟩ := t_row8 ((hb.block _ (block_lt HBX.out)).trans HBX.out)
  have HB2 := hid hb
  clear hb
  go_wp2_with fail
  refine (H2.out _).mono ?_
  rintro e w3 ⟨rfl, rfl⟩
  go_wp2_with fail
  refine (H3.out _).mono ?_
  rintro e w4 ⟨rfl, hb⟩
  clear g0 g1 g2 g3 g4 g5 g6 g7
  obtain ⟨g0, g1, g2, g3, g4, g5, g6, g7⟩ := t_row8 (((HB2.out.trans (hb.mono HB2.out.size)).block _ (block_lt HBX.out)).trans HBX.out)
  have HB4 := hid (HB.out.trans ((HB2.out.trans (hb.mono HB2.out.size)).mono HB.out.size))
  clear hb
  cases b3 with
  | false =>
    have HR : Hid ((textB 14 text false && numB 14 n) = false) := hid (by rw [HTB.out]; rfl)
    go_wp2_with fail
    go_ret
    exact ⟨by rw [HR.out]; rfl, HB4.out⟩
  | true =>
    have HR : Hid ((textB 14 text false && numB 14 n) = numB 14 n) := hid (by rw [HTB.out]; rfl)
    by_cases h : n = 0
    · subst h
      have HN : Hid (numB 14 0 = true) := hid (by unfold numB; rw [if_neg (by decide), if_neg (by decide), if_neg (by decide), decide_eq_true rfl])
      go_wp2_with fail
      go_ret
      exact ⟨by rw [HR.out, HN.out]; rfl, HB4.out⟩
    · have HN : Hid (numB 14 n = false) := hid (by unfold numB; rw [if_neg (by decide), if_neg (by decide), if_neg (by decide), decide_eq_false h])
      have g9 : (n == 0) = false := beq_eq_false_iff_ne.mpr h
      clear h
      go_wp2_with fail
      go_ret
      exact ⟨by rw [HR.out, HN.out]; rfl, HB4.out⟩
set_option maxRecDepth 100000 in
set_option maxHeartbeats 4000000 in
theorem own_named (k : Int) (w : World) (text : Bt) (n li co : Int) (A5 : Option Addr) (n5 c5 : Nat) (A6 : Option Addr) (n6 c6 : Nat) (A7 : Option Addr) (n7 c7 : Nat) (ht : text.length ≤ maxLen) (hk0 : ¬ k = 0) (hk1 : ¬ k = 1) (hk2 : ¬ k = 2) (hk12 : ¬ k = 12) (hk14 : ¬ k = 14) :
    Calls Tryz.prog 76 #[.agg #[.int .i64 k, sv text, .int .i64 n, .int .i64 li, .int .i64 co, .slice A5 n5 c5, .slice A6 n6 c6, .slice A7 n7 c7], .bool true] w fun e w' => e = .returned (.bool (textB k text true && numB k n)) ∧ Below w.heap.size w w' := by
  obtain ⟨W, hW⟩ : ∃ W, w.alloc (.cells #[.int .i64 k, sv text, .int .i64 n, .int .i64 li, .int .i64 co, .slice A5 n5 c5, .slice A6 n6 c6, .slice A7 n7 c7] 26) = W := ⟨_, rfl⟩
  have hb1 : Below w.heap.size w W := by rw [← hW]; exact (Below.refl _ _).alloc (Nat.le_refl _) _
  have hbx : W.heap[w.heap.size]? = some (.cells #[.int .i64 k, sv text, .int .i64 n, .int .i64 li, .int .i64 co, .slice A5 n5 c5, .slice A6 n6 c6, .slice A7 n7 c7] 26 (0, 0)) := by rw [← hW]; exact heap_alloc_new w _
  have HB := hid hb1
  have HBX := hid hbx
  have HWE := hid hW
  have H1 := rname_any W text ht
  have H2 := hid (fun w1 => rstr_any text w1 ht)
  have H3 := hid (fun w1 => rop_any w1 text)
  rw [← hW] at H1
  have H1 := hid H1
  have HTB : Hid (textB k text true = (nameL text)) := hid (rfl)
  have hes : (text == []) = decide (text = []) := by cases text <;> rfl
  generalize nameL text = b1 at *
  generalize strB text = b2 at *
  generalize decide (text ∈ opsL) = b3 at *
  generalize hb4 : decide (text = []) = b4 at *
  clear hb1 hbx hW ht
  have hen : (text != []) = !b4 := by unfold bne; rw [hes]
  have q0 : (k == 0) = false := beq_eq_false_iff_ne.mpr hk0
  have r0 : (k != 0) = true := bne_iff_ne.mpr hk0
  have HK0 := hid hk0
  have q1 : (k == 1) = false := beq_eq_false_iff_ne.mpr hk1
  have r1 : (k != 1) = true := bne_iff_ne.mpr hk1
  have HK1 := hid hk1
  have q2 : (k == 2) = false := beq_eq_false_iff_ne.mpr hk2
  have r2 : (k != 2) = true := bne_iff_ne.mpr hk2
  have HK2 := hid hk2
  have q12 : (k == 12) = false := beq_eq_false_iff_ne.mpr hk12
  have r12 : (k != 12) = true := bne_iff_ne.mpr hk12
  have HK12 := hid hk12
  have q14 : (k == 14) = false := beq_eq_false_iff_ne.mpr hk14
  have r14 : (k != 14) = true := bne_iff_ne.mpr hk14
  have HK14 := hid hk14
  clear hk0 hk1 hk2 hk12 hk14
  go_enter Tryz.func76, Tryz.ntmps76
  go_wp2_with fail
  refine H1.out.mono ?_
  rintro e w2 ⟨rfl, hb⟩
  rw [HWE.out] at hb
  obtain ⟨g0, g1, g2, g3, g4, g5, g6, g7⟩ := t_row8 ((hb.block _ (block_lt HBX.out)).trans HBX.out)
  have HB2 := hid hb
  clear hb
  go_wp2_with fail
  refine (H2.out _).mono ?_
  rintro e w3 ⟨rfl, rfl⟩
  go_wp2_with fail
  refine (H3.out _).mono ?_
  rintro e w4 ⟨rfl, hb⟩
  clear g0 g1 g2 g3 g4 g5 g6 g7
  obtain ⟨g0, g1, g2, g3, g4, g5, g6, g7⟩ := t_row8 (((HB2.out.trans (hb.mono HB2.out.size)).block _ (block_lt HBX.out)).trans HBX.out)
  have HB4 := hid (HB.out.trans ((HB2.out.trans (hb.mono HB2.out.size)).mono HB.out.size))
  clear hb
  cases b1 with
  | false =>
    have HR : Hid ((textB k text true && numB k n) = false) := hid (by rw [HTB.out]; rfl)
    go_wp2_with fail
    go_ret
    exact ⟨by rw [HR.out]; rfl, HB4.out⟩
  | true =>
    have HR : Hid ((textB k text true && numB k n) = numB k n) := hid (by rw [HTB.out]; rfl)
    by_cases h : n = 0
    · subst h
      have HN : Hid (numB k 0 = true) := hid (by unfold numB; rw [if_neg (HK0.out), if_neg (HK2.out), if_neg (HK12.out), decide_eq_true rfl])
      go_wp2_with fail
      go_ret
      exact ⟨by rw [HR.out, HN.out]; rfl, HB4.out⟩
    · have HN : Hid (numB k n = false) := hid (by unfold numB; rw [if_neg (HK0.out), if_neg (HK2.out), if_neg (HK12.out), decide_eq_false h])
      have g9 : (n == 0) = false := beq_eq_false_iff_ne.mpr h
      clear h
      go_wp2_with fail
      go_ret
      exact ⟨by rw [HR.out, HN.out]; rfl, HB4.out⟩
set_option maxRecDepth 100000 in
set_option maxHeartbeats 4000000 in
theorem own_plain (k : Int) (w : World) (text : Bt) (n li co : Int) (A5 : Option Addr) (n5 c5 : Nat) (A6 : Option Addr) (n6 c6 : Nat) (A7 : Option Addr) (n7 c7 : Nat) (ht : text.length ≤ maxLen) (hk0 : ¬ k = 0) (hk1 : ¬ k = 1) (hk2 : ¬ k = 2) (hk12 : ¬ k = 12) (hk14 : ¬ k = 14) :
    Calls Tryz.prog 76 #[.agg #[.int .i64 k, sv text, .int .i64 n, .int .i64 li, .int .i64 co, .slice A5 n5 c5, .slice A6 n6 c6, .slice A7 n7 c7], .bool false] w fun e w' => e = .returned (.bool (textB k text false && numB k n)) ∧ Below w.heap.size w w' := by
  obtain ⟨W, hW⟩ : ∃ W, w.alloc (.cells #[.int .i64 k, sv text, .int .i64 n, .int .i64 li, .int .i64 co, .slice A5 n5 c5, .slice A6 n6 c6, .slice A7 n7 c7] 26) = W := ⟨_, rfl⟩
  have hb1 : Below w.heap.size w W := by rw [← hW]; exact (Below.refl _ _).alloc (Nat.le_refl _) _
  have hbx : W.heap[w.heap.size]? = some (.cells #[.int .i64 k, sv text, .int .i64 n, .int .i64 li, .int .i64 co, .slice A5 n5 c5, .slice A6 n6 c6, .slice A7 n7 c7] 26 (0, 0)) := by rw [← hW]; exact heap_alloc_new w _
  have HB := hid hb1
  have HBX := hid hbx
  have HWE := hid hW
  have H1 := rname_any W text ht
  have H2 := hid (fun w1 => rstr_any text w1 ht)
  have H3 := hid (fun w1 => rop_any w1 text)
  rw [← hW] at H1
  have H1 := hid H1
  have HTB : Hid (textB k text false = (text == [])) := hid (by unfold textB; rw [if_neg (by simp), if_neg (hk1), if_neg (hk14)])
  have hes : (text == []) = decide (text = []) := by cases text <;> rfl
  generalize nameL text = b1 at *
  generalize strB text = b2 at *
  generalize decide (text ∈ opsL) = b3 at *
  generalize hb4 : decide (text = []) = b4 at *
  clear hb1 hbx hW ht
  have hen : (text != []) = !b4 := by unfold bne; rw [hes]
  have q0 : (k == 0) = false := beq_eq_false_iff_ne.mpr hk0
  have r0 : (k != 0) = true := bne_iff_ne.mpr hk0
  have HK0 := hid hk0
  have q1 : (k == 1) = false := beq_eq_false_iff_ne.mpr hk1
  have r1 : (k != 1) = true := bne_iff_ne.mpr hk1
  have HK1 := hid hk1
  have q2 : (k == 2) = false := beq_eq_false_iff_ne.mpr hk2
  have r2 : (k != 2) = true := bne_iff_ne.mpr hk2
  have HK2 := hid hk2
  have q12 : (k == 12) = false := beq_eq_false_iff_ne.mpr hk12
  have r12 : (k != 12) = true := bne_iff_ne.mpr hk12
  have HK12 := hid hk12
  have q14 : (k == 14) = false := beq_eq_false_iff_ne.mpr hk14
  have r14 : (k != 14) = true := bne_iff_ne.mpr hk14
  have HK14 := hid hk14
  clear hk0 hk1 hk2 hk12 hk14
  go_enter Tryz.func76, Tryz.ntmps76
  go_wp2_with fail
  refine H1.out.mono ?_
  rintro e w2 ⟨rfl, hb⟩
  rw [HWE.out] at hb
  obtain ⟨g0, g1, g2, g3, g4, g5, g6, g7⟩ := t_row8 ((hb.block _ (block_lt HBX.out)).trans HBX.out)
  have HB2 := hid hb
  clear hb
  go_wp2_with fail
  refine (H2.out _).mono ?_
  rintro e w3 ⟨rfl, rfl⟩
  go_wp2_with fail
  refine (H3.out _).mono ?_
  rintro e w4 ⟨rfl, hb⟩
  clear g0 g1 g2 g3 g4 g5 g6 g7
  obtain ⟨g0, g1, g2, g3, g4, g5, g6, g7⟩ := t_row8 (((HB2.out.trans (hb.mono HB2.out.size)).block _ (block_lt HBX.out)).trans HBX.out)
  have HB4 := hid (HB.out.trans ((HB2.out.trans (hb.mono HB2.out.size)).mono HB.out.size))
  clear hb
  cases b4 with
  | false =>
    have HR : Hid ((textB k text false && numB k n) = false) := hid (by rw [HTB.out]; rw [hes]; rfl)
    go_wp2_with fail
    go_ret
    exact ⟨by rw [HR.out]; rfl, HB4.out⟩
  | true =>
    have HR : Hid ((textB k text false && numB k n) = numB k n) := hid (by rw [HTB.out]; rw [hes]; rfl)
    by_cases h : n = 0
    · subst h
      have HN : Hid (numB k 0 = true) := hid (by unfold numB; rw [if_neg (HK0.out), if_neg (HK2.out), if_neg (HK12.out), decide_eq_true rfl])
      go_wp2_with fail
      go_ret
      exact ⟨by rw [HR.out, HN.out]; rfl, HB4.out⟩
    · have HN : Hid (numB k n = false) := hid (by unfold numB; rw [if_neg (HK0.out), if_neg (HK2.out), if_neg (HK12.out), decide_eq_false h])
      have g9 : (n == 0) = false := beq_eq_false_iff_ne.mpr h
      clear h
      go_wp2_with fail
      go_ret
      exact ⟨by rw [HR.out, HN.out]; rfl, HB4.out⟩
theorem rown_any (w : World) (k : Int) (h0 : 0 ≤ k) (h1 : k < 20) (text : Bt) (n li co : Int) (A5 : Option Addr) (n5 c5 : Nat) (A6 : Option Addr) (n6 c6 : Nat) (A7 : Option Addr) (n7 c7 : Nat) (ht : text.length ≤ maxLen) :
    Calls Tryz.prog 76 #[.agg #[.int .i64 k, sv text, .int .i64 n, .int .i64 li, .int .i64 co, .slice A5 n5 c5, .slice A6 n6 c6, .slice A7 n7 c7], .bool (hasD k).name] w fun e w' => e = .returned (.bool (textB k text (hasD k).name && numB k n)) ∧ Below w.heap.size w w' := by
  by_cases k0 : k = 0
  · subst k0; exact own_k0 w text n li co A5 n5 c5 A6 n6 c6 A7 n7 c7 ht
  by_cases k1 : k = 1
  · subst k1; exact own_k1 w text n li co A5 n5 c5 A6 n6 c6 A7 n7 c7 ht
  by_cases k2 : k = 2
  · subst k2; exact own_k2 w text n li co A5 n5 c5 A6 n6 c6 A7 n7 c7 ht
  by_cases k12 : k = 12
  · subst k12; exact own_k12 w text n li co A5 n5 c5 A6 n6 c6 A7 n7 c7 ht
  by_cases k14 : k = 14
  · subst k14; exact own_k14 w text n li co A5 n5 c5 A6 n6 c6 A7 n7 c7 ht
  cases (hasD k).name
  · exact own_plain k w text n li co A5 n5 c5 A6 n6 c6 A7 n7 c7 ht k0 k1 k2 k12 k14
  · exact own_named k w text n li co A5 n5 c5 A6 n6 c6 A7 n7 c7 ht k0 k1 k2 k12 k14
end Go.Proofs.YtbpedjkebemhnaaGreatDoor
