/- GE, GF, GG, GH, GJ -/
import Derived.Test.YtbpedjkebemhnaaGreatDoorRows
import Derived.Test.YtbpedjkebemhnaaGreatDoorSC01
import Derived.RegionTactic
import Derived.Deep.QuietTactic
import Derived.Test.YtbpedjkebemhnaaGreatDoorSC02
import Derived.Lib.ConvBytes
import Derived.DeepKeys4
import Derived.Laws.Rows
import Derived.IntWalk
set_option linter.unusedSimpArgs false
set_option linter.unusedVariables false
section
/- Texts that belong together: XA, XB, XC, XD. -/
/- The contracts of lex's functions on bytes, and of how many bytes are of a sort. -/
set_option linter.unusedVariables false
namespace Go.Proofs.YtbpedjkebemhnaaGreatDoor
open Go.RowKit

theorem letter_any (c : UInt8) (w : World) : Calls Tryz.prog 87 #[.int .u8 (c.toNat : Int)] w fun e w' => e = .returned (.bool (letterB c)) ∧ w' = w := by
  unfold letterB
  generalize c.toNat = n
  go_enter Tryz.func87, Tryz.ntmps87
  go_wp2_with fail
  all_goals
    go_ret
    refine ⟨?_, rfl⟩
    congr 2
    try simp
    try omega
    try (rw [Bool.eq_iff_iff]; simp only [Bool.or_eq_true, Bool.and_eq_true, decide_eq_true_eq, beq_iff_eq]; omega)
theorem digit_any (c : UInt8) (w : World) : Calls Tryz.prog 110 #[.int .u8 (c.toNat : Int)] w fun e w' => e = .returned (.bool (digitB c)) ∧ w' = w := by
  unfold digitB
  generalize c.toNat = n
  go_enter Tryz.func110, Tryz.ntmps110
  go_wp2_with fail
  all_goals
    go_ret
    refine ⟨?_, rfl⟩
    congr 2
    try simp
    try omega
    try (rw [Bool.eq_iff_iff]; simp only [Bool.or_eq_true, Bool.and_eq_true, decide_eq_true_eq, beq_iff_eq]; omega)
theorem inner_any (c : UInt8) (w : World) : Calls Tryz.prog 89 #[.int .u8 (c.toNat : Int)] w fun e w' => e = .returned (.bool (innerB c)) ∧ w' = w := by
  have hi : innerB c = (letterB c || digitB c) := rfl
  rw [hi]
  clear hi
  cases hl : letterB c
  · go_enter Tryz.func89, Tryz.ntmps89
    go_wp2_with fail
    refine (letter_any c _).mono ?_
    rintro e w1 ⟨rfl, rfl⟩
    rw [hl]
    go_wp2_with fail
    refine (digit_any c _).mono ?_
    rintro e w1 ⟨rfl, rfl⟩
    go_wp2_with fail
    go_ret
    exact ⟨rfl, rfl⟩
  · go_enter Tryz.func89, Tryz.ntmps89
    go_wp2_with fail
    refine (letter_any c _).mono ?_
    rintro e w1 ⟨rfl, rfl⟩
    rw [hl]
    go_wp2_with fail
    go_ret
    exact ⟨rfl, rfl⟩

theorem sv_size (s : Bt) : (ByteArray.mk s.toArray).size = s.length := by simp [ByteArray.size]
theorem sv_index (s : Bt) (k : Nat) (h : k < s.length) : (ByteArray.mk s.toArray)[k]'(by rw [sv_size]; exact h) = s[k] := by simp [ByteArray.getElem_eq_getElem_data]

set_option maxHeartbeats 400000 in
theorem row_inner (s : Bt) (w : World) (hs : s.length ≤ 281474976710656) : Calls Tryz.prog 88 #[sv s, .func (.func 89) #[] #[]] w fun e w' => e = .returned (.int .i64 (rowL innerB s : Nat)) ∧ w' = w := by
  have hsz := sv_size s
  go_enter Tryz.func88, Tryz.ntmps88
  go_wp2_with fail
  go_loop [5, 8] (fun v5 v8 => ∃ k : Nat, v8 = .int .i64 k ∧ k ≤ s.length ∧ ∀ j (hj : j < s.length), j < k → innerB s[j] = true) (fun _ v8 => s.length - (intOf v8).toNat)
  case atStart => exact ⟨0, rfl, by omega, fun j hj h => by omega⟩
  case round =>
    obtain ⟨k, rfl, hk, hall⟩ := hrel
    by_cases hlt : k < s.length
    · have hix := sv_index s k hlt
      have hrow := fun hn => rowL_at (p := innerB) hlt (fun j hj => hall j (by omega) hj) hn
      have hnext : innerB s[k] = true → ∀ j (hj : j < s.length), j < k + 1 → innerB s[j] = true := by
        intro h j hj hjk
        rcases Nat.lt_or_ge j k with h1 | h1
        · exact hall j hj h1
        · obtain rfl : j = k := by omega
          exact h
      have HROW := hid hrow
      have HNEXT := hid hnext
      clear hall hrow hnext
      generalize hX : s[k] = X at *
      cases hq : innerB X
      · have hres := HROW.out hq
        go_wp2_with fail
        refine (inner_any X _).mono ?_
        rintro e w1 ⟨rfl, rfl⟩
        rw [hq]
        go_wp2_with fail
        go_ret
        exact ⟨by rw [hres]; rfl, rfl⟩
      · have hall := HNEXT.out hq
        have HALL := hid hall
        clear hall
        go_wp2_with fail
        refine (inner_any X _).mono ?_
        rintro e w1 ⟨rfl, rfl⟩
        rw [hq]
        go_wp2_with fail
        go_round
        case rel => exact ⟨k + 1, rfl, by omega, HALL.out⟩
        case measure => simp [intOf]; omega
    · obtain rfl : k = s.length := by omega
      have hres := rowL_all (p := innerB) (s := s) (fun j hj => hall j hj hj)
      clear hall
      go_wp2_with fail
      go_ret
      first | exact ⟨rfl, rfl⟩ | exact ⟨by rw [hres]; rfl, rfl⟩

end Go.Proofs.YtbpedjkebemhnaaGreatDoor

/- The contracts of lex's words, of the library's Index over texts, and of how a lexer passes over bytes. -/
set_option linter.unusedVariables false
namespace Go.Proofs.YtbpedjkebemhnaaGreatDoor
open Go.RowKit

theorem el_str : ElemIs Tryz.prog 23 9 (sv []) 1 16 := ⟨Tryz.underlying23, by kernel_rfl, rfl, by decide⟩
/-- What the listed variables hold that a lexer looks at. -/
def LaidX (w : World) : Prop := LaidW w ∧ Lib.TabIs Tryz.prog w "strings.asciiSpace" .u8 Lib.asciiSpaceTab
/-- The tables alone. -/
def LaidT (w : World) : Prop := Lib.TabIs Tryz.prog w "internal/strconv.uint64pow10" .u64 Lib.pow10Tab ∧ Lib.TabIs Tryz.prog w "strings.asciiSpace" .u8 Lib.asciiSpaceTab
theorem LaidT.below {w w' : World} (h : LaidT w) (hb : Below w.heap.size w w') : LaidT w' := ⟨var_below h.1 hb, var_below h.2 hb⟩
theorem LaidX.t {w : World} (h : LaidX w) : LaidT w := ⟨h.1.tab, h.2⟩
theorem LaidX.below {w w' : World} (h : LaidX w) (hb : Below w.heap.size w w') : LaidX w' := ⟨h.1.below hb, var_below h.2 hb⟩

def wordsT : Bt := [97, 110, 100, 32, 97, 110, 121, 32, 97, 115, 32, 98, 111, 111, 108, 32, 101, 108, 115, 101, 32, 101, 120, 112, 111, 114, 116, 32, 102, 97, 108, 115, 101, 32, 102, 110, 32, 102, 117, 110, 99, 116, 105, 111, 110, 32, 105, 102, 32, 105, 109, 112, 111, 114, 116, 32, 105, 110, 32, 105, 110, 116, 32, 105, 115, 32, 108, 101, 116, 32, 110, 111, 116, 32, 110, 117, 108, 108, 32, 111, 114, 32, 112, 114, 105, 110, 116, 32, 114, 101, 97, 100, 32, 114, 101, 99, 111, 114, 100, 32, 115, 116, 114, 32, 116, 104, 101, 110, 32, 116, 114, 117, 101, 32, 119, 105, 116, 104]
set_option maxRecDepth 100000 in
theorem words_fields : Lib.fields wordsT = wordsL := by kernel_rfl
set_option maxRecDepth 100000 in
theorem words_ascii : (wordsT.all fun b => decide (b.toNat < 128)) = true := by kernel_rfl
theorem words_list : (⟨wordsT.toArray⟩ : ByteArray).data.toList = wordsT := rfl
set_option maxRecDepth 100000 in
theorem words_any (w : World) (hL : LaidT w) : Calls Tryz.prog 91 #[] w fun e w' => ∃ v, e = .returned v ∧ Ss w' w'.heap.size v wordsL ∧ Below w.heap.size w w' := by
  go_enter Tryz.func91, Tryz.ntmps91
  go_wp2_with fail
  refine (Tryz.strings_Fields ⟨wordsT.toArray⟩ _ ?h1 ?h2 hL.2).mono ?_
  case h1 => decide
  case h2 =>
    intro j b hb
    rw [words_list] at hb
    exact of_decide_eq_true (List.all_eq_true.1 words_ascii b (List.mem_of_getElem? hb))
  rintro e w1 ⟨rfl, rfl⟩
  rw [words_list, words_fields]
  have hss : Ss (w.alloc (.cells (wordsL.map fun l => Value.string ⟨l.toArray⟩).toArray 9)) (w.alloc (.cells (wordsL.map fun l => Value.string ⟨l.toArray⟩).toArray 9)).heap.size (.slice (some ⟨w.heap.size, 0, none⟩) wordsL.length wordsL.length) wordsL := by
    have := sl_new w (wordsL.map fun l => Value.string ⟨l.toArray⟩).toArray 9 1 wordsL.length (by simp) (by decide)
    rw [World.size_alloc]
    simpa [Ss, svs] using this
  have hb : Below w.heap.size w (w.alloc (.cells (wordsL.map fun l => Value.string ⟨l.toArray⟩).toArray 9)) := (Below.refl _ _).alloc (Nat.le_refl _) _
  generalize (w.alloc (.cells (wordsL.map fun l => Value.string ⟨l.toArray⟩).toArray 9)) = w2 at *
  generalize wordsL.length = n at *
  go_wp2_with fail
  go_ret
  exact ⟨_, rfl, hss, hb⟩

set_option maxHeartbeats 400000 in
theorem index_any (v : Value) (l : List Bt) (x : Bt) (w : World) (hv : Ss w w.heap.size v l) :
    Calls Tryz.prog 129 #[v, sv x] w fun e w' => (∃ k : Int, e = .returned (.int .i64 k) ∧ (0 ≤ k ↔ x ∈ l)) ∧ w' = w := by
  obtain ⟨A, c, rfl, hn, hc, hx⟩ := hv.open_
  unfold maxLen at hc
  go_enter Tryz.func129, Tryz.ntmps129
  go_wp2_with fail
  go_loop [5, 8] (fun v5 v8 => ∃ k : Nat, v8 = .int .i64 k ∧ k ≤ l.length ∧ x ∉ l.take k) (fun _ v8 => l.length - (intOf v8).toNat)
  case atStart => exact ⟨0, rfl, by omega, by simp⟩
  case round =>
    obtain ⟨k, rfl, hk, hnot⟩ := hrel
    by_cases hlt : k < l.length
    · obtain ⟨b, o, rfl, hb, hcell⟩ := hx (by omega)
      have d1 := hcell k hlt
      have e1 : x = l[k] → x ∈ l := fun h => by rw [h]; exact List.getElem_mem hlt
      have e2 : ¬ x = l[k] → x ∉ l.take (k + 1) := fun h hh => by
        rw [List.take_succ_eq_append_getElem hlt, List.mem_append] at hh
        rcases hh with hh | hh
        · exact hnot hh
        · simp at hh; exact h hh
      clear hcell hx hv hnot
      generalize l[k] = X at *
      by_cases hX : x = X
      · have e3 := e1 hX
        have hq : (x == X) = true := by rw [beq_iff_eq]; exact hX
        clear hX e1 e2
        go_wp2_with fail
        go_ret
        exact ⟨⟨k, rfl, by simp [e3]⟩, rfl⟩
      · have e3 := e2 hX
        have hq : (x == X) = false := by rw [beq_eq_false_iff_ne]; exact hX
        clear hX e1 e2
        go_wp2_with fail
        go_round
        case rel => exact ⟨k + 1, rfl, by omega, e3⟩
        case measure => simp [intOf]; omega
    · obtain rfl : k = l.length := by omega
      rw [List.take_length] at hnot
      go_wp2_with fail
      go_ret
      exact ⟨⟨-1, rfl, by simp [hnot]⟩, rfl⟩
theorem contains_any (v : Value) (l : List Bt) (x : Bt) (w : World) (hv : Ss w w.heap.size v l) :
    Calls Tryz.prog 90 #[v, sv x] w fun e w' => e = .returned (.bool (decide (x ∈ l))) ∧ w' = w := by
  go_enter Tryz.func90, Tryz.ntmps90
  go_wp2_with fail
  refine (index_any v l x _ hv).mono ?_
  rintro e w1 ⟨⟨k, rfl, hk⟩, rfl⟩
  by_cases h : x ∈ l
  · have h0 := hk.2 h
    clear hk
    go_wp2_with fail
    go_ret
    exact ⟨by simp [h], rfl⟩
  · have h0 : ¬ (0 ≤ k) := fun hh => h (hk.1 hh)
    clear hk
    go_wp2_with fail
    go_ret
    exact ⟨by first | (simp [h]; done) | (simp [h]; exact h0) | (simp [h]; omega), rfl⟩
end Go.Proofs.YtbpedjkebemhnaaGreatDoor

/- A lexer in memory; how it passes over bytes. -/
set_option linter.unusedVariables false
namespace Go.Proofs.YtbpedjkebemhnaaGreatDoor
open Go.RowKit

/-- Block bl is a lexer: what is left of its text, where it stands, its map of pairs, its tokens. -/
def LexAt (w : World) (bl bp : Nat) (s : Bt) (p : Nat × Nat) (outv : Value) : Prop :=
  w.heap[bl]? = some (.cells #[sv s, .int .i64 (p.1 : Nat), .int .i64 (p.2 : Nat), .map (some bp), outv] 96 (0, 0))
section
variable {w w' : World} {bl bp : Nat} {s : Bt} {p : Nat × Nat} {outv : Value}
theorem LexAt.c0 (h : LexAt w bl bp s p outv) : w.cell? ⟨bl, 0, none⟩ = some (sv s) := (cell_of_row _ _ _ _ _ (0, 0) h).trans rfl
theorem LexAt.c1 (h : LexAt w bl bp s p outv) : w.cell? ⟨bl, 1, none⟩ = some (.int .i64 (p.1 : Nat)) := (cell_of_row _ _ _ _ _ (0, 0) h).trans rfl
theorem LexAt.c2 (h : LexAt w bl bp s p outv) : w.cell? ⟨bl, 2, none⟩ = some (.int .i64 (p.2 : Nat)) := (cell_of_row _ _ _ _ _ (0, 0) h).trans rfl
theorem LexAt.c3 (h : LexAt w bl bp s p outv) : w.cell? ⟨bl, 3, none⟩ = some (.map (some bp)) := (cell_of_row _ _ _ _ _ (0, 0) h).trans rfl
theorem LexAt.c4 (h : LexAt w bl bp s p outv) : w.cell? ⟨bl, 4, none⟩ = some outv := (cell_of_row _ _ _ _ _ (0, 0) h).trans rfl
theorem LexAt.free (h : LexAt w bl bp s p outv) (i : Nat) : w.frozen? ⟨bl, i, none⟩ = false := by simp [World.frozen?, show w.heap[bl]? = _ from h]
theorem LexAt.lt (h : LexAt w bl bp s p outv) : bl < w.heap.size := block_lt h
theorem LexAt.turn {G : Nat → Prop} (h : LexAt w bl bp s p outv) (t : Turn G w w') (hd : ¬ G bl) : LexAt w' bl bp s p outv := block_turn h t hd
end
end Go.Proofs.YtbpedjkebemhnaaGreatDoor

/- How a lexer goes over blanks. -/
set_option linter.unusedVariables false
namespace Go.Proofs.YtbpedjkebemhnaaGreatDoor
open Go.RowKit

theorem skipOne_le (s : Bt) : skipOne s ≤ s.length := by
  unfold skipOne
  have h1 := rowL_le blankB s
  split
  · have h2 := rowL_le notLine (s.drop (rowL blankB s))
    rw [List.length_drop] at h2; omega
  · omega
theorem blank_step (s : Bt) (p : Nat × Nat) : s.drop (skipL s) = (s.drop (skipOne s)).drop (skipL (s.drop (skipOne s))) ∧ advL p (s.take (skipL s)) = advL (advL p (s.take (skipOne s))) ((s.drop (skipOne s)).take (skipL (s.drop (skipOne s)))) := by
  have h := skip_one s
  generalize skipL (s.drop (skipOne s)) = m at *
  rw [h]
  refine ⟨by rw [List.drop_drop], ?_⟩
  rw [List.take_add, advL_append]

def textOf (w : World) (bl : Nat) : Nat := match w.cell? ⟨bl, 0, none⟩ with | some (.string b) => b.size | _ => 0
theorem textOf_at {w : World} {bl bp : Nat} {s : Bt} {p : Nat × Nat} {outv : Value} (h : LexAt w bl bp s p outv) : textOf w bl = s.length := by
  unfold textOf; rw [h.c0]; exact sv_size s

/-- What the round over blanks keeps. -/
def BlankRel (w : World) (bl bp : Nat) (s : Bt) (p : Nat × Nat) (outv : Value) (wr : World) : Prop :=
  ∃ (c : Bt) (q : Nat × Nat), LexAt wr bl bp c q outv ∧ Turn (fun k => k = bl) w wr ∧ c.length ≤ s.length ∧ s.drop (skipL s) = c.drop (skipL c) ∧ advL p (s.take (skipL s)) = advL q (c.take (skipL c)) ∧
    q.1 + c.length ≤ p.1 + s.length ∧ q.2 + c.length ≤ p.2 + s.length ∧ 1 ≤ q.2

theorem advL_le2 {p : Nat × Nat} (s : Bt) (h : 1 ≤ p.2) : (advL p s).1 ≤ p.1 + s.length ∧ (advL p s).2 ≤ p.2 + s.length ∧ 1 ≤ (advL p s).2 := by
  induction s generalizing p with
  | nil => exact ⟨Nat.le_refl _, Nat.le_refl _, h⟩
  | cons c s ih =>
    have h0 : advL p (c :: s) = advL (advB p c) s := rfl
    rw [h0]
    have h1 : (advB p c).1 ≤ p.1 + 1 ∧ (advB p c).2 ≤ p.2 + 1 ∧ 1 ≤ (advB p c).2 := by
      unfold advB; split
      · exact ⟨Nat.le_refl _, by show 1 ≤ _; omega, Nat.le_refl _⟩
      · exact ⟨Nat.le_succ _, Nat.le_refl _, by show 1 ≤ _ + 1; omega⟩
    obtain ⟨a, b, d⟩ := ih h1.2.2
    simp only [List.length_cons]
    omega
theorem BlankRel.step {w wr w2 : World} {bl bp : Nat} {s c : Bt} {p q : Nat × Nat} {outv : Value} (htr : Turn (fun k => k = bl) w wr) (hcl : c.length ≤ s.length) (hd : s.drop (skipL s) = c.drop (skipL c)) (ha : advL p (s.take (skipL s)) = advL q (c.take (skipL c)))
    (hq1 : q.1 + c.length ≤ p.1 + s.length) (hq2 : q.2 + c.length ≤ p.2 + s.length) (hq3 : 1 ≤ q.2) (h : LexAt w2 bl bp (c.drop (skipOne c)) (advL q (c.take (skipOne c))) outv) (ht : Turn (fun k => k = bl) wr w2) (h0 : 0 < skipOne c) :
    BlankRel w bl bp s p outv w2 ∧ textOf w2 bl < c.length := by
  obtain ⟨e1, e2⟩ := blank_step c q
  have hone := skipOne_le c
  have hl := advL_le2 (c.take (skipOne c)) hq3
  rw [List.length_take, Nat.min_eq_left hone] at hl
  refine ⟨⟨_, _, h, htr.trans ht (fun _ _ h => h), ?_, hd.trans e1, ha.trans e2, ?_, ?_, hl.2.2⟩, ?_⟩
  · rw [List.length_drop]; omega
  · rw [List.length_drop]; omega
  · rw [List.length_drop]; omega
  · rw [textOf_at h, List.length_drop]; omega

end Go.Proofs.YtbpedjkebemhnaaGreatDoor
end
section
/- Texts that belong together: XE, XF, XG, XH. -/
/- A lexer's names and numbers. -/
set_option linter.unusedVariables false
namespace Go.Proofs.YtbpedjkebemhnaaGreatDoor
open Go.RowKit

end Go.Proofs.YtbpedjkebemhnaaGreatDoor

/- How lex reads a string. -/
set_option linter.unusedVariables false
namespace Go.Proofs.YtbpedjkebemhnaaGreatDoor
open Go.RowKit

theorem el_byte : ElemIs Tryz.prog 74 5 (.int .u8 0) 1 1 := ⟨Tryz.underlying74, by kernel_rfl, rfl, by decide⟩
end Go.Proofs.YtbpedjkebemhnaaGreatDoor

/- A lexer's strings and signs, and the token at the beginning. -/
set_option linter.unusedVariables false
namespace Go.Proofs.YtbpedjkebemhnaaGreatDoor
open Go.RowKit
open Go.Maps (has IsMap Keyed)

/-! The map of pairs. -/
def pairV (a b : UInt8) : Value := .agg #[.int .u8 (a.toNat : Int), .int .u8 (b.toNat : Int)]
/-- What the map holds when the pairs of l are in it. -/
def PairsOf (D : DataW Unit) (l : List Bt) : Prop := ∀ (a b : UInt8) (kl : Lit), keyOf Tryz.prog 134 (pairV a b) = some kl → ∀ z, D.atKey kl z = if [a, b] ∈ l then .lit (.bool true) else z
def PairsAt (w : World) (bp : Nat) (l : List Bt) : Prop := ∃ (n : Nat) (D : DataW Unit), n ≤ l.length ∧ w.ownsMap Tryz.prog 134 (plainElem Tryz.prog 4) bp n D ∧ PairsOf D l
theorem PairsAt.turn {w w' : World} {bp : Nat} {l : List Bt} {G : Nat → Prop} (h : PairsAt w bp l) (t : Turn G w w') (hd : ¬ G bp) : PairsAt w' bp l := by
  obtain ⟨n, D, h0, h1, h2⟩ := h
  exact ⟨n, D, h0, map_turn h1 t hd, h2⟩
end Go.Proofs.YtbpedjkebemhnaaGreatDoor

/- The token that a lexer's text begins with; the map of pairs is made. -/
set_option linter.unusedVariables false
namespace Go.Proofs.YtbpedjkebemhnaaGreatDoor
open Go.RowKit
open Go.Maps (has IsMap Keyed)

end Go.Proofs.YtbpedjkebemhnaaGreatDoor
end
section
/- Texts that belong together: XI, XJ, XK. -/
/- The map of pairs is made. -/
set_option linter.unusedVariables false
namespace Go.Proofs.YtbpedjkebemhnaaGreatDoor
open Go.RowKit
open Go.Maps (has IsMap Keyed)

end Go.Proofs.YtbpedjkebemhnaaGreatDoor

/- Lex's own state in memory, and what a round of it keeps. -/
set_option linter.unusedVariables false
namespace Go.Proofs.YtbpedjkebemhnaaGreatDoor
open Go.RowKit

def tokV (t : TokD) : List Value := [.int .i64 t.kind, sv t.text, .int .i64 (t.line : Nat), .int .i64 (t.col : Nat)]
def tokCells (l : List TokD) : List Value := l.flatMap tokV
theorem tokCells_snoc (l : List TokD) (t : TokD) : tokCells (l ++ [t]) = tokCells l ++ tokV t := by
  unfold tokCells; rw [List.flatMap_append]; simp
/-- The tokens from behind the blanks on. -/
def lexB (f : Nat) (s1 : Bt) (p1 : Nat × Nat) (out : List TokD) : List TokD × (Nat × Nat × Int) :=
  if s1 = [] then (out ++ [⟨0, [], p1.1, p1.2⟩], (0, 0, 0)) else
  match nextT s1 with
  | .inl e => ([], (p1.1, p1.2, e))
  | .inr (kd, t, n) => if out.length = 8192 then ([], (p1.1, p1.2, 19)) else lexF f (s1.drop n) (advL p1 (s1.take n)) (out ++ [⟨kd, t, p1.1, p1.2⟩])
theorem lexF_succ (f : Nat) (s : Bt) (p : Nat × Nat) (out : List TokD) : lexF (f + 1) s p out = lexB f (s.drop (skipL s)) (advL p (s.take (skipL s))) out := rfl
/-- What a round keeps: where all lies, and that the tokens to come with those at hand are the answer. -/
structure LexR (base bd bl bp N : Nat) (ans : List TokD × (Nat × Nat × Int)) (wr : World) (f : Nat) (s1 : Bt) (p1 : Nat × Nat) (outv : Value) (out : List TokD) : Prop where
  diag : wr.heap[bd]? = some (.cells #[.int .i64 0, .int .i64 0, .int .i64 0, .int .i64 0] 51 (0, 0))
  lex : LexAt wr bl bp s1 p1 outv
  pairs : PairsAt wr bp pairsL
  row : wr.ownsRow 0 55 4 outv out.length (tokCells out)
  fuel : s1.length ≤ f
  eq : lexB f s1 p1 out = ans
  b1 : p1.1 + s1.length ≤ N
  b2 : p1.2 + s1.length ≤ N
  b3 : 1 ≤ p1.2
  outl : out.length ≤ 8192
  hd : base ≤ bd
  hl : base ≤ bl
  hp : base ≤ bp
  dl : bd ≠ bl
  dp : bd ≠ bp
  lp : bl ≠ bp
  fo : ∀ g, outv.ownBlock = some g → base ≤ g ∧ g ≠ bd ∧ g ≠ bl ∧ g ≠ bp
theorem LexR.below {base bd bl bp N : Nat} {ans : List TokD × (Nat × Nat × Int)} {w w' : World} {f : Nat} {s1 : Bt} {p1 : Nat × Nat} {outv : Value} {out : List TokD} (h : LexR base bd bl bp N ans w f s1 p1 outv out) (hb : Below w.heap.size w w') : LexR base bd bl bp N ans w' f s1 p1 outv out :=
  { h with
    diag := block_turn h.diag (Turn.of_below (F := fun _ => False) hb) id
    lex := h.lex.turn (Turn.of_below (F := fun _ => False) hb) id
    pairs := h.pairs.turn (Turn.of_below (F := fun _ => False) hb) id
    row := own_below h.row hb }
/-- A token has been put behind the others, the bytes of it passed over, and the blanks behind it. -/
theorem LexR.next {base bd bl bp N : Nat} {ans : List TokD × (Nat × Nat × Int)} {w w' : World} {f : Nat} {s1 : Bt} {p1 : Nat × Nat} {outv outv' : Value} {out : List TokD} (h : LexR base bd bl bp N ans w f s1 p1 outv out)
    {kd : Int} {t : Bt} {n : Nat} (hn : nextT s1 = .inr (kd, t, n)) (ho : out.length ≠ 8192)
    (hrow : w'.ownsRow 0 55 4 outv' (out.length + 1) (tokCells out ++ tokV ⟨kd, t, p1.1, p1.2⟩)) (hfo : ∀ g, outv'.ownBlock = some g → base ≤ g ∧ g ≠ bd ∧ g ≠ bl ∧ g ≠ bp)
    (hdiag : w'.heap[bd]? = some (.cells #[.int .i64 0, .int .i64 0, .int .i64 0, .int .i64 0] 51 (0, 0))) (hpairs : PairsAt w' bp pairsL)
    (hlex : LexAt w' bl bp ((s1.drop n).drop (skipL (s1.drop n))) (advL (advL p1 (s1.take n)) ((s1.drop n).take (skipL (s1.drop n)))) outv') :
    ∃ f' s2 p2 out', LexR base bd bl bp N ans w' f' s2 p2 outv' out' ∧ s2.length < s1.length := by
  obtain ⟨n1, n2⟩ := nextT_le hn
  have hne : s1 ≠ [] := by intro e; subst e; simp at n2; omega
  have hf := h.fuel
  obtain ⟨f', rfl⟩ : ∃ f', f = f' + 1 := ⟨f - 1, by omega⟩
  have heq := h.eq
  unfold lexB at heq
  rw [if_neg hne, hn] at heq
  simp only at heq
  rw [if_neg ho, lexF_succ] at heq
  have l1 := advL_le2 (s1.take n) h.b3
  rw [List.length_take, Nat.min_eq_left n2] at l1
  have hsk := skipG_le false (s1.drop n)
  have hsk' : skipL (s1.drop n) ≤ s1.length - n := by rw [List.length_drop] at hsk; exact hsk
  have l2 := advL_le2 ((s1.drop n).take (skipL (s1.drop n))) l1.2.2
  have hb1 := h.b1
  have hb2 := h.b2
  have hol := h.outl
  have ht : ((s1.drop n).take (skipL (s1.drop n))).length = skipL (s1.drop n) := by rw [List.length_take, List.length_drop]; omega
  rw [ht] at l2
  have hlen : ((s1.drop n).drop (skipL (s1.drop n))).length = s1.length - n - skipL (s1.drop n) := by rw [List.length_drop, List.length_drop]
  refine ⟨f', _, _, out ++ [⟨kd, t, p1.1, p1.2⟩], ⟨hdiag, hlex, hpairs, ?_, by rw [hlen]; omega, heq, by rw [hlen]; omega, by rw [hlen]; omega, l2.2.2, by simp; omega, h.hd, h.hl, h.hp, h.dl, h.dp, h.lp, hfo⟩, by rw [hlen]; omega⟩
  rw [tokCells_snoc, List.length_append]
  exact hrow
end Go.Proofs.YtbpedjkebemhnaaGreatDoor

/- The contract of lex's Lex. -/
set_option linter.unusedVariables false
namespace Go.Proofs.YtbpedjkebemhnaaGreatDoor
open Go.RowKit

theorem block_free {w : World} {b : Nat} {cs : Array Value} {t : TypeId} (h : w.heap[b]? = some (.cells cs t (0, 0))) (i : Nat) : w.frozen? ⟨b, i, none⟩ = false := by
  simp [World.frozen?, h]
end Go.Proofs.YtbpedjkebemhnaaGreatDoor
end
section
/- Texts that belong together: XL, XR. -/
/- The contract of lex's Name. -/
set_option linter.unusedVariables false
namespace Go.Proofs.YtbpedjkebemhnaaGreatDoor
open Go.RowKit

set_option maxRecDepth 100000 in
set_option maxHeartbeats 1000000 in
theorem name_any (w : World) (s : Bt) (hX : LaidT w) (hs : s.length ≤ 281474976710656) : Calls Tryz.prog 41 #[sv s] w fun e w' => e = .returned (.bool (nameL s)) ∧ Below w.heap.size w w' := by
  have hsz := sv_size s
  cases s with
  | nil =>
    have ha : nameL [] = false := rfl
    rw [ha]
    go_enter Tryz.func41, Tryz.ntmps41
    go_wp2_with fail
    go_ret
    exact ⟨rfl, Below.refl _ _⟩
  | cons c r =>
    have hix : (ByteArray.mk (c :: r).toArray)[0]'(by rw [sv_size]; simp) = c := sv_index (c :: r) 0 (by simp)
    have hl0 : (0 : Int) < (r.length : Int) + 1 := by omega
    have hnz : ((c :: r : Bt) == []) = false := rfl
    have ha : nameL (c :: r) = (decide ((c :: r).length ≤ 32) && letterB c && decide (rowL innerB (c :: r) = (c :: r).length) && !decide ((c :: r) ∈ wordsL)) := rfl
    have HROW := hid (row_inner (c :: r) w hs)
    generalize rowL innerB (c :: r) = n at *
    by_cases h32 : (c :: r).length ≤ 32
    · have h32' : (r.length : Int) + 1 ≤ 32 := by simp only [List.length_cons] at h32; omega
      rw [decide_eq_true h32, Bool.true_and] at ha
      clear h32
      cases hl : letterB c
      · rw [hl] at ha
        simp only [Bool.false_and] at ha
        rw [ha]
        clear ha
        go_enter Tryz.func41, Tryz.ntmps41
        go_wp2_with fail
        refine (letter_any c _).mono ?_
        rintro e w1 ⟨rfl, rfl⟩
        rw [hl]
        go_wp2_with fail
        go_ret
        exact ⟨rfl, Below.refl _ _⟩
      · rw [hl, Bool.true_and] at ha
        by_cases hn : n = (c :: r).length
        · rw [decide_eq_true hn, Bool.true_and] at ha
          have hn' : (n : Int) = (r.length : Int) + 1 := by rw [hn]; simp
          clear hn
          rw [ha]
          clear ha
          generalize hq : decide ((c :: r) ∈ wordsL) = q
          go_enter Tryz.func41, Tryz.ntmps41
          go_wp2_with fail
          refine (letter_any c _).mono ?_
          rintro e w1 ⟨rfl, rfl⟩
          rw [hl]
          go_wp2_with fail
          refine HROW.out.mono ?_
          rintro e w2 ⟨rfl, rfl⟩
          go_wp2_with fail
          refine (words_any _ hX).mono ?_
          rintro e w3 ⟨v3, rfl, hss3, hb3⟩
          go_wp2_with fail
          refine (contains_any v3 wordsL (c :: r) _ hss3).mono ?_
          rintro e w4 ⟨rfl, rfl⟩
          rw [hq]
          go_wp2_with fail
          go_ret
          exact ⟨rfl, hb3⟩
        · rw [decide_eq_false hn, Bool.false_and] at ha
          have hn' : ¬ (n : Int) = (r.length : Int) + 1 := by intro h; apply hn; simp; omega
          clear hn
          rw [ha]
          clear ha
          go_enter Tryz.func41, Tryz.ntmps41
          go_wp2_with fail
          refine (letter_any c _).mono ?_
          rintro e w1 ⟨rfl, rfl⟩
          rw [hl]
          go_wp2_with fail
          refine HROW.out.mono ?_
          rintro e w2 ⟨rfl, rfl⟩
          go_wp2_with fail
          go_ret
          exact ⟨rfl, Below.refl _ _⟩
    · have h32' : ¬ (r.length : Int) + 1 ≤ 32 := by simp only [List.length_cons] at h32; omega
      rw [decide_eq_false h32] at ha
      simp only [Bool.false_and] at ha
      clear h32
      rw [ha]
      clear ha
      go_enter Tryz.func41, Tryz.ntmps41
      go_wp2_with fail
      go_ret
      exact ⟨rfl, Below.refl _ _⟩
end Go.Proofs.YtbpedjkebemhnaaGreatDoor

/- The contracts of the reference's Words, word, letter, digit and Name. -/
set_option linter.unusedVariables false
namespace Go.Proofs.YtbpedjkebemhnaaGreatDoor
open Go.RowKit

end Go.Proofs.YtbpedjkebemhnaaGreatDoor
end
section
/- Texts that belong together: TD, TE, TF. -/
/- Names at any length; are all of them names? -/
set_option linter.unusedVariables false
namespace Go.Proofs.YtbpedjkebemhnaaGreatDoor
open Go.RowKit

theorem nameL_long {s : Bt} (h : 32 < s.length) : nameL s = false := by
  cases s with
  | nil => simp at h
  | cons c r =>
    show (decide ((c :: r).length ≤ 32) && _ && _ && _) = false
    rw [decide_eq_false (by omega)]
    rfl
theorem name_all (w : World) (s : Bt) (hX : LaidT w) (hs : s.length ≤ maxLen) : Calls Tryz.prog 41 #[sv s] w fun e w' => e = .returned (.bool (nameL s)) ∧ Below w.heap.size w w' := by
  by_cases hl : s.length ≤ 281474976710656
  · exact name_any w s hX hl
  have hf := nameL_long (s := s) (by omega)
  have hsz := sv_size s
  have hn : (s == []) = false := by cases s with | nil => simp at hl | cons c r => rfl
  have hne : ¬ s = [] := by intro h; rw [h] at hl; simp at hl
  have hg : decide ((s.length : Int) ≤ 32) = false := by rw [decide_eq_false_iff_not]; omega
  rw [hf]
  unfold maxLen at hs
  clear hf hl
  go_enter Tryz.func41, Tryz.ntmps41
  go_wp2_with fail
  go_ret
  exact ⟨rfl, Below.refl _ _⟩
theorem name_not (w : World) (s : Bt) (hX : LaidT w) (hs : s.length ≤ maxLen) : Calls Tryz.prog 93 #[sv s] w fun e w' => e = .returned (.bool (!nameL s)) ∧ Below w.heap.size w w' := by
  have HN := hid (name_all w s hX hs)
  generalize nameL s = b at *
  go_enter Tryz.func93, Tryz.ntmps93
  go_wp2_with fail
  refine HN.out.mono ?_
  rintro e w2 ⟨rfl, hb⟩
  go_wp2_with fail
  go_ret
  exact ⟨rfl, hb⟩
theorem t_take {α : Type} {l : List α} {k : Nat} (h : k < l.length) : l.take (k + 1) = l.take k ++ [l[k]] := List.take_succ_eq_append_getElem h
/-- Where the first that is no name stands, or -1. -/
def AtNo (l : List Bt) (w : World) (e : Ending) (w' : World) : Prop := (∃ k : Int, e = .returned (.int .i64 k) ∧ (if l.all nameL then k = -1 else 0 ≤ k)) ∧ Below w.heap.size w w'
set_option maxRecDepth 100000 in
set_option maxHeartbeats 2000000 in
theorem index_names (v : Value) (l : List Bt) (w : World) (hv : Ss w w.heap.size v l) (hl : ∀ y ∈ l, y.length ≤ maxLen) (hX : LaidT w) :
    Calls Tryz.prog 130 #[v, .func (.func 93) #[] #[]] w (AtNo l w) := by
  have HV := hid hv
  obtain ⟨A, c, rfl⟩ := t_sl_exact hv (by omega) (m := l.length) (by rw [svs_length]; omega)
  obtain ⟨_, hn, hc⟩ := t_sl_len hv
  have HL := hid hl
  have HX := hid hX
  clear hv hl hX
  go_enter Tryz.func130, Tryz.ntmps130
  go_wp2_with fail
  go_loopw [8] (fun v8 wr => ∃ k : Nat, v8 = .int .i64 k ∧ k ≤ l.length ∧ (l.take k).all nameL = true ∧ Below w.heap.size w wr) (fun v8 _ => l.length - (intOf v8).toNat)
  case atStart => exact ⟨0, rfl, by omega, rfl, Below.refl _ _⟩
  case round =>
    obtain ⟨k, rfl, hk, hinv, hbr⟩ := hrel
    have HI := hid hinv
    clear hinv
    by_cases hlt : k < l.length
    · have hlt0 := hlt
      obtain ⟨b1, o1, rfl, hb1, hc1⟩ := t_sl_in HV.out hlt (by omega)
      have d1 : wr.cell? ⟨b1, o1 + k, none⟩ = some (sv l[k]) := t_keep hbr (by have := hc1 0 (sv l[k]) (by simp [svs, hlt]); simpa using this) hb1
      have HN := hid (name_not wr l[k] (HX.out.below hbr) (HL.out _ (List.getElem_mem hlt)))
      have hst := t_take hlt
      have HB := hid hbr
      clear hc1 hb1 hbr
      cases hq : nameL l[k] with
      | false =>
        have hall : l.all nameL = false := by
          cases h : l.all nameL with
          | false => rfl
          | true => rw [List.all_eq_true] at h; rw [h _ (List.getElem_mem hlt)] at hq; cases hq
        rw [hq] at HN
        have HALL := hid hall
        clear hq hst hall
        generalize l[k] = X at *
        go_wp2_with fail
        refine HN.out.mono ?_
        rintro e w2 ⟨rfl, hb⟩
        have HB2 := hid (HB.out.trans (hb.mono HB.out.size))
        clear hb d1
        go_wp2_with fail
        go_ret
        exact ⟨⟨k, rfl, by rw [HALL.out]; simp⟩, HB2.out⟩
      | true =>
        rw [hq] at HN
        have HST : Hid ((l.take (k + 1)).all nameL = true) := hid (by rw [hst, List.all_append, HI.out]; simp [hq])
        clear hq hst
        generalize l[k] = X at *
        go_wp2_with fail
        refine HN.out.mono ?_
        rintro e w2 ⟨rfl, hb⟩
        have HB2 := hid (HB.out.trans (hb.mono HB.out.size))
        clear hb d1
        go_wp2_with fail
        go_roundw
        case rel => exact ⟨k + 1, rfl, by omega, HST.out, HB2.out⟩
        case measure => simp [intOf]; omega
    · obtain rfl : k = l.length := by omega
      rw [List.take_length] at HI
      have HB := hid hbr
      clear hbr
      go_wp2_with fail
      go_ret
      exact ⟨⟨-1, rfl, by rw [HI.out]; simp⟩, HB.out⟩
theorem contains_no (v : Value) (l : List Bt) (w : World) (hv : Ss w w.heap.size v l) (hl : ∀ y ∈ l, y.length ≤ maxLen) (hX : LaidT w) :
    Calls Tryz.prog 92 #[v, .func (.func 93) #[] #[]] w fun e w' => e = .returned (.bool (!l.all nameL)) ∧ Below w.heap.size w w' := by
  have HI := hid (index_names v l w hv hl hX)
  obtain ⟨A, n, c, rfl⟩ := t_sl_shape hv
  clear hv hl hX
  cases hb : l.all nameL
  all_goals
    go_enter Tryz.func92, Tryz.ntmps92
    go_wp2_with fail
    refine HI.out.mono ?_
    rintro e w2 ⟨⟨k, rfl, hk⟩, hbel⟩
    rw [hb] at hk
    simp only [Bool.false_eq_true, if_false, if_true] at hk
    have HB := hid hbel
    clear hbel hb HI
  · have hg : decide (0 ≤ k) = true := by simpa using hk
    go_wp2_with fail
    go_ret
    exact ⟨rfl, HB.out⟩
  · subst hk
    go_wp2_with fail
    go_ret
    exact ⟨rfl, HB.out⟩
theorem tnamed_any (v : Value) (l : List Bt) (w : World) (hv : Ss w w.heap.size v l) (hl : ∀ y ∈ l, y.length ≤ maxLen) (hX : LaidT w) :
    Calls Tryz.prog 42 #[v] w fun e w' => e = .returned (.bool (l.all nameL)) ∧ Below w.heap.size w w' := by
  have HC := hid (contains_no v l w hv hl hX)
  obtain ⟨A, n, c, rfl⟩ := t_sl_shape hv
  clear hv hl hX
  generalize l.all nameL = b at *
  go_enter Tryz.func42, Tryz.ntmps42
  go_wp2_with fail
  refine HC.out.mono ?_
  rintro e w2 ⟨rfl, hb⟩
  go_wp2_with fail
  go_ret
  cases b <;> exact ⟨rfl, hb⟩
end Go.Proofs.YtbpedjkebemhnaaGreatDoor

/- Which types are written ones. -/
set_option linter.unusedVariables false
namespace Go.Proofs.YtbpedjkebemhnaaGreatDoor
open Go.RowKit

/-- The contract of written, so many within one another. -/
def WrC (m : Nat) : Prop := ∀ (w : World) (z : List Value) (t : TyD), TyR w w.heap.size z t → okT t → LaidT w →
  Calls Tryz.prog 36 #[.agg z.toArray, .int .i64 (m : Int)] w fun e w' => e = .returned (.bool (writtenB m t)) ∧ Below w.heap.size w w'
theorem not_written (m : Nat) (hm : m ≤ 40) (ih : WrC m) (w : World) (z : List Value) (t : TyD) (hr : TyR w w.heap.size z t) (hok : okT t) (hX : LaidT w) (p : Nat) (hp : w.cell? ⟨p, 0, none⟩ = some (.int .i64 ((m : Int) + 1))) :
    Calls Tryz.prog 82 #[.agg z.toArray, .pointer (some ⟨p, 0, none⟩)] w fun e w' => e = .returned (.bool (!writtenB m t)) ∧ Below w.heap.size w w' := by
  have hr0 := hr
  obtain ⟨k, s, A1, n1, c1, A2, n2, c2, rfl⟩ := hr.shape
  have hb1 : Below w.heap.size w (w.alloc (.cells #[.int .i64 k, .string s, .slice A1 n1 c1, .slice A2 n2 c2] 32)) := (Below.refl _ _).alloc (Nat.le_refl _) _
  have HI := hid (ih _ _ t (hr0.far (Nat.le_refl _) hb1) hok (hX.below hb1))
  have HB := hid hb1
  have hpl : p < w.heap.size := World.block_lt_of_cell? w _ hp
  clear hr hr0 hX hb1 hok ih
  generalize writtenB m t = b at *
  go_enter Tryz.func82, Tryz.ntmps82
  go_wp2_with fail
  refine HI.out.mono ?_
  rintro e w2 ⟨rfl, hb⟩
  go_wp2_with fail
  go_ret
  exact ⟨rfl, HB.out.trans (hb.mono HB.out.size)⟩
def AtNoT (m : Nat) (l : List TyD) (w : World) (e : Ending) (w' : World) : Prop := (∃ k : Int, e = .returned (.int .i64 k) ∧ (if l.all (writtenB m) then k = -1 else 0 ≤ k)) ∧ Below w.heap.size w w'
set_option maxRecDepth 100000 in
set_option maxHeartbeats 2000000 in
theorem index_unwritten (m : Nat) (hm : m ≤ 40) (ih : WrC m) (v : Value) (l : List TyD) (xs : List Value) (w : World) (hv : Sl w w.heap.size 4 v xs) (hr : TysR w w.heap.size xs l) (hl : ∀ y ∈ l, okT y) (hX : LaidT w) (p : Nat) (hp : w.cell? ⟨p, 0, none⟩ = some (.int .i64 ((m : Int) + 1))) :
    Calls Tryz.prog 126 #[v, .func (.func 82) #[] #[.pointer (some ⟨p, 0, none⟩)]] w (AtNoT m l w) := by
  have HV := hid hv
  obtain ⟨A, c, rfl⟩ := t_sl_exact hv (by omega) (m := l.length) hr.length
  obtain ⟨_, hn, hc⟩ := t_sl_len hv
  have HL := hid hl
  have HX := hid hX
  have HR := hid hr
  have HP := hid hp
  have HIH := hid ih
  have hpl := World.block_lt_of_cell? w _ hp
  have HPL := hid hpl
  clear hv hl hX hr hp ih hpl
  go_enter Tryz.func126, Tryz.ntmps126
  go_wp2_with fail
  go_loopw [8] (fun v8 wr => ∃ k : Nat, v8 = .int .i64 k ∧ k ≤ l.length ∧ (l.take k).all (writtenB m) = true ∧ Below w.heap.size w wr) (fun v8 _ => l.length - (intOf v8).toNat)
  case atStart => exact ⟨0, rfl, by omega, rfl, Below.refl _ _⟩
  case round =>
    obtain ⟨k, rfl, hk, hinv, hbr⟩ := hrel
    have HI := hid hinv
    clear hinv
    by_cases hlt : k < l.length
    · have hlt0 := hlt
      obtain ⟨b1, o1, rfl, hb1, hc1⟩ := t_sl_in HV.out hlt (by omega)
      have hr1 := HR.out.at k hlt
      obtain ⟨kk, s, A1, n1, c1, A2, n2, c2, hv1⟩ := hr1.shape
      rw [hv1] at hr1
      have d0 : wr.cell? ⟨b1, o1 + k * 4, none⟩ = some (.int .i64 kk) := t_keep hbr (by have := hc1 0 _ (t_part hv1 (by omega : 0 < 4)); simpa using this) hb1
      have d1 : wr.cell? ⟨b1, o1 + k * 4 + 1, none⟩ = some (.string s) := t_keep hbr (by have := hc1 1 _ (t_part hv1 (by omega : 1 < 4)); simpa [Nat.add_assoc] using this) hb1
      have d2 : wr.cell? ⟨b1, o1 + k * 4 + 2, none⟩ = some (.slice A1 n1 c1) := t_keep hbr (by have := hc1 2 _ (t_part hv1 (by omega : 2 < 4)); simpa [Nat.add_assoc] using this) hb1
      have d3 : wr.cell? ⟨b1, o1 + k * 4 + 3, none⟩ = some (.slice A2 n2 c2) := t_keep hbr (by have := hc1 3 _ (t_part hv1 (by omega : 3 < 4)); simpa [Nat.add_assoc] using this) hb1
      have HN := hid (not_written m hm HIH.out wr _ l[k] (hr1.far (Nat.le_refl _) hbr) (HL.out _ (List.getElem_mem hlt)) (HX.out.below hbr) p (t_keep hbr HP.out HPL.out))
      have hst := t_take hlt
      have HB := hid hbr
      clear hc1 hb1 hbr hv1 hr1
      cases hq : writtenB m l[k] with
      | false =>
        have hall : l.all (writtenB m) = false := by
          cases h : l.all (writtenB m) with
          | false => rfl
          | true => rw [List.all_eq_true] at h; rw [h _ (List.getElem_mem hlt)] at hq; cases hq
        rw [hq] at HN
        have HALL := hid hall
        clear hq hst hall
        generalize l[k] = X at *
        go_wp2_with fail
        refine HN.out.mono ?_
        rintro e w2 ⟨rfl, hb⟩
        have HB2 := hid (HB.out.trans (hb.mono HB.out.size))
        clear hb d0 d1 d2 d3
        go_wp2_with fail
        go_ret
        exact ⟨⟨k, rfl, by rw [HALL.out]; simp⟩, HB2.out⟩
      | true =>
        rw [hq] at HN
        have HST : Hid ((l.take (k + 1)).all (writtenB m) = true) := hid (by rw [hst, List.all_append, HI.out]; simp [hq])
        clear hq hst
        generalize l[k] = X at *
        go_wp2_with fail
        refine HN.out.mono ?_
        rintro e w2 ⟨rfl, hb⟩
        have HB2 := hid (HB.out.trans (hb.mono HB.out.size))
        clear hb d0 d1 d2 d3
        go_wp2_with fail
        go_roundw
        case rel => exact ⟨k + 1, rfl, by omega, HST.out, HB2.out⟩
        case measure => simp [intOf]; omega
    · obtain rfl : k = l.length := by omega
      rw [List.take_length] at HI
      have HB := hid hbr
      clear hbr
      go_wp2_with fail
      go_ret
      exact ⟨⟨-1, rfl, by rw [HI.out]; simp⟩, HB.out⟩
theorem contains_unwritten (m : Nat) (hm : m ≤ 40) (ih : WrC m) (v : Value) (l : List TyD) (xs : List Value) (w : World) (hv : Sl w w.heap.size 4 v xs) (hr : TysR w w.heap.size xs l) (hl : ∀ y ∈ l, okT y) (hX : LaidT w) (p : Nat) (hp : w.cell? ⟨p, 0, none⟩ = some (.int .i64 ((m : Int) + 1))) :
    Calls Tryz.prog 81 #[v, .func (.func 82) #[] #[.pointer (some ⟨p, 0, none⟩)]] w fun e w' => e = .returned (.bool (!l.all (writtenB m))) ∧ Below w.heap.size w w' := by
  have HI := hid (index_unwritten m hm ih v l xs w hv hr hl hX p hp)
  obtain ⟨A, n, c, rfl⟩ := t_sl_shape hv
  clear hv hl hX hr hp ih
  cases hb : l.all (writtenB m)
  all_goals
    go_enter Tryz.func81, Tryz.ntmps81
    go_wp2_with fail
    refine HI.out.mono ?_
    rintro e w2 ⟨⟨k, rfl, hk⟩, hbel⟩
    rw [hb] at hk
    simp only [Bool.false_eq_true, if_false, if_true] at hk
    have HB := hid hbel
    clear hbel hb HI
  · have hg : decide (0 ≤ k) = true := by simpa using hk
    go_wp2_with fail
    go_ret
    exact ⟨rfl, HB.out⟩
  · subst hk
    go_wp2_with fail
    go_ret
    exact ⟨rfl, HB.out⟩
end Go.Proofs.YtbpedjkebemhnaaGreatDoor

/- Which types are written ones: tree.written. -/
set_option linter.unusedVariables false
namespace Go.Proofs.YtbpedjkebemhnaaGreatDoor
open Go.RowKit

theorem t_row4 {w : World} {b : Nat} {x0 x1 x2 x3 : Value} {T : TypeId} (h : w.heap[b]? = some (.cells #[x0, x1, x2, x3] T (0, 0))) :
    w.cell? ⟨b, 0, none⟩ = some x0 ∧ w.cell? ⟨b, 1, none⟩ = some x1 ∧ w.cell? ⟨b, 2, none⟩ = some x2 ∧ w.cell? ⟨b, 3, none⟩ = some x3 :=
  ⟨(cell_of_row _ _ _ _ _ _ h).trans rfl, (cell_of_row _ _ _ _ _ _ h).trans rfl, (cell_of_row _ _ _ _ _ _ h).trans rfl, (cell_of_row _ _ _ _ _ _ h).trans rfl⟩
theorem wrap_zero {a b : Nat} (ha : a ≤ 2 ^ 63 - 1) (hb : b ≤ 2 ^ 63 - 1) (h : ¬ (a = 0 ∧ b = 0)) : (wrap64 ((a : Int) + (b : Int)) == 0) = false := by
  rw [beq_eq_false_iff_ne]
  intro h0
  unfold wrap64 at h0
  omega
theorem written_zero : WrC 0 := by
  intro w z t hr hok hX
  have hw : writtenB 0 t = false := rfl
  rw [hw]
  obtain ⟨k, s, A1, n1, c1, A2, n2, c2, rfl⟩ := hr.shape
  have hb2 : Below w.heap.size w ((w.alloc (.cells #[.int .i64 k, .string s, .slice A1 n1 c1, .slice A2 n2 c2] 32)).alloc (.cells #[.int .i64 0] 3)) := ((Below.refl _ _).alloc (Nat.le_refl _) _).alloc (by simp) _
  have HB := hid hb2
  clear hr hok hX hb2 hw
  go_enter Tryz.func36, Tryz.ntmps36
  go_wp2_with fail
  go_ret
  exact ⟨rfl, HB.out⟩
set_option maxRecDepth 100000 in
set_option maxHeartbeats 8000000 in
theorem written_succ (m : Nat) (hm : m ≤ 40) (ih : WrC m) : WrC (m + 1) := by
  intro w z t hr hok hX
  obtain ⟨k, nm, ns, ks⟩ := t
  rw [okT] at hok
  obtain ⟨ok1, ok2, ok3, ok4⟩ := hok
  obtain ⟨A1, c1, A2, c2, xk, rfl, s1, s2, r2⟩ := hr.parts
  have l1 := (t_sl_len s1).2
  have l2 := (t_sl_len s2).2
  clear hr
  have hw : writtenB (m + 1) (.mk k nm ns ks) = (ns.all nameL && ks.all (writtenB m) && kindT k nm ns.length ks.length) := rfl
  rw [hw]
  clear hw
  have hz1 := heap_alloc_new w (.cells #[.int .i64 k, sv nm, .slice A1 ns.length c1, .slice A2 ks.length c2] 32)
  obtain ⟨W1, hW1⟩ : ∃ W1, W1 = w.alloc (.cells #[.int .i64 k, sv nm, .slice A1 ns.length c1, .slice A2 ks.length c2] 32) := ⟨_, rfl⟩
  have hb1 : Below w.heap.size w W1 := by rw [hW1]; exact (Below.refl _ _).alloc (Nat.le_refl _) _
  rw [← hW1] at hz1
  have hs1 : W1.heap.size = w.heap.size + 1 := by rw [hW1]; exact Array.size_push _
  have hz2 := heap_alloc_new W1 (.cells #[.int .i64 ((m : Int) + 1)] 3)
  obtain ⟨W2, hW2⟩ : ∃ W2, W2 = W1.alloc (.cells #[.int .i64 ((m : Int) + 1)] 3) := ⟨_, rfl⟩
  have hb12 : Below W1.heap.size W1 W2 := by rw [hW2]; exact (Below.refl _ _).alloc (Nat.le_refl _) _
  have hb2 : Below w.heap.size w W2 := hb1.trans (hb12.mono hb1.size)
  rw [← hW2, hs1] at hz2
  have hz1 := (hb12.block _ (block_lt hz1)).trans hz1
  have HZ := hid (And.intro hz1 hz2)
  have hwe := hW2
  rw [hW1] at hwe
  have HWE := hid hwe
  have HB2 := hid hb2
  have HN := hid (tnamed_any _ ns W2 (Sl.more (Sl.below s1 hb2) hb2.size) ok3 (hX.below hb2))
  rw [hwe] at HN
  have HS := hid (And.intro s2 r2)
  have HOK := hid (And.intro (okTs_mem.1 ok4) ok2)
  have HX := hid hX
  have HIH := hid ih
  have hmf : ∀ (fn : Fn) (first cap : Array Value) (w : World), (Instr.makeFunc fn first cap).run Tryz.prog w = .ok (.func fn first cap) w := fun _ _ _ _ => rfl
  have hm0 : (((m : Int) + 1) == 0) = false := by rw [beq_eq_false_iff_ne]; omega
  have hm1 : (((m + 1 : Nat) : Int) == 0) = false := by rw [beq_eq_false_iff_ne]; omega
  clear s1 s2 r2 ok1 ok2 ok3 ok4 hX ih hz1 hz2 hb1 hb12 hb2 hs1 hW1 hW2 hwe
  go_enter Tryz.func36, Tryz.ntmps36
  go_wp2_with fail
  refine HN.out.mono ?_
  rintro e w3 ⟨rfl, hb3⟩
  rw [← HWE.out] at hb3
  have HB3 := hid hb3
  clear hb3 HN
  cases hns : ns.all nameL with
  | false =>
    have HNS := hid hns
    clear hns
    go_wp2_with fail
    go_ret
    exact ⟨by rw [HNS.out]; rfl, HB2.out.trans (HB3.out.mono HB2.out.size)⟩
  | true =>
    have HNS := hid hns
    clear hns
    have hzz3 := (HB3.out.block _ (block_lt HZ.out.1)).trans HZ.out.1
    obtain ⟨g0, g1, g2, g3⟩ := t_row4 hzz3
    have hzm3 := (HB3.out.block _ (block_lt HZ.out.2)).trans HZ.out.2
    have gm : w3.cell? ⟨w.heap.size + 1, 0, none⟩ = some (.int .i64 ((m : Int) + 1)) := (cell_of_row _ _ _ _ _ _ hzm3).trans rfl
    have hbw3 : Below w.heap.size w w3 := HB2.out.trans (HB3.out.mono HB2.out.size)
    have HC := hid (contains_unwritten m hm HIH.out _ ks xk w3 (Sl.more (Sl.below HS.out.1 hbw3) hbw3.size) ((HS.out.2.keep hbw3).more hbw3.size) HOK.out.1 (HX.out.below hbw3) (w.heap.size + 1) gm)
    clear hzz3 hzm3 hbw3
    go_wp2_with fail
    clear hm0 hm1 g0 g1 g2 g3 gm
    refine HC.out.mono ?_
    rintro e w4 ⟨rfl, hb4⟩
    have HB4 := hid (HB3.out.trans (hb4.mono HB3.out.size))
    clear hb4 HC
    cases hks : ks.all (writtenB m) with
    | false =>
      have HKS := hid hks
      clear hks
      go_wp2_with fail
      go_ret
      exact ⟨by rw [HNS.out, HKS.out]; rfl, HB2.out.trans (HB4.out.mono HB2.out.size)⟩
    | true =>
      have HKS := hid hks
      clear hks
      have hzz4 := (HB4.out.block _ (block_lt HZ.out.1)).trans HZ.out.1
      obtain ⟨g0, g1, g2, g3⟩ := t_row4 hzz4
      have HBW := hid (HB2.out.trans (HB4.out.mono HB2.out.size))
      have HNM : Hid (∀ wx : World, Below w.heap.size w wx → Calls Tryz.prog 41 #[sv nm] wx fun e w' => e = .returned (.bool (nameL nm)) ∧ Below wx.heap.size wx w') := hid (fun wx h => name_all wx nm (HX.out.below h) HOK.out.2)
      have ha : ns.length ≤ 2 ^ 63 - 1 := by omega
      have hb : ks.length ≤ 2 ^ 63 - 1 := by omega
      obtain ⟨a, hA⟩ : ∃ a, ns.length = a := ⟨_, rfl⟩
      obtain ⟨b, hB⟩ : ∃ b, ks.length = b := ⟨_, rfl⟩
      rw [hA] at g2 ha ⊢
      rw [hB] at g3 hb ⊢
      have HA := hid hA
      have HBB := hid hB
      clear hA hB
      clear hzz4 l1 l2 hmf
      by_cases n8 : k = 8
      · subst n8
        by_cases hz : a = 0 ∧ b = 0
        · obtain ⟨rfl, rfl⟩ := hz
          have HT : Hid (kindT 8 nm 0 0 = nameL nm) := hid (by simp [kindT])
          go_wp2_with fail
          go_quiet (fail)
          go_wp2_with fail
          refine (HNM.out _ (HBW.out.trans ((below_drawn w4 _).mono HBW.out.size))).mono ?_
          rintro e w5 ⟨rfl, hb5⟩
          go_wp2_with fail
          go_ret
          exact ⟨by rw [HNS.out, HKS.out, HA.out, HBB.out, HT.out]; rfl, (HBW.out.trans ((below_drawn w4 _).mono HBW.out.size)).trans (hb5.mono (HBW.out.trans ((below_drawn w4 _).mono HBW.out.size)).size)⟩
        · have hwz : (wrap64 ((a : Int) + (b : Int)) == 0) = false := wrap_zero ha hb hz
          have HT : Hid (kindT 8 nm a b = false) := hid (by simp [kindT]; omega)
          clear hz
          go_wp2_with fail
          go_quiet (fail)
          go_wp2_with fail
          go_ret
          exact ⟨by rw [HNS.out, HKS.out, HA.out, HBB.out, HT.out]; rfl, HBW.out.trans ((below_drawn w4 _).mono HBW.out.size)⟩
      have q8 : (k == 8) = false := beq_eq_false_iff_ne.mpr n8
      by_cases hnm : nm = []
      · subst hnm
        by_cases hk0 : k < 0
        · have g4 : decide (k < 0) = true := by simpa using hk0
          have HT : Hid (kindT k [] a b = false) := hid (by simp [kindT, n8]; intro h; omega)
          clear hk0 n8
          go_wp2_with fail
          go_quiet (fail)
          go_wp2_with fail
          go_ret
          exact ⟨by rw [HNS.out, HKS.out, HA.out, HBB.out, HT.out]; rfl, HBW.out.trans ((below_drawn w4 _).mono HBW.out.size)⟩
        have g4 : decide (k < 0) = false := by simpa using hk0
        by_cases hk7 : 7 < k
        · have g5 : decide (7 < k) = true := by simpa using hk7
          have HT : Hid (kindT k [] a b = false) := hid (by simp [kindT, n8, hk7])
          clear hk0 n8 hk7
          go_wp2_with fail
          go_quiet (fail)
          go_wp2_with fail
          go_ret
          exact ⟨by rw [HNS.out, HKS.out, HA.out, HBB.out, HT.out]; rfl, HBW.out.trans ((below_drawn w4 _).mono HBW.out.size)⟩
        have g5 : decide (7 < k) = false := by simpa using hk7
        by_cases n5 : k = 5
        · subst n5
          clear g4 g5 hk0 hk7 n8 q8
          by_cases hab : a = b
          · subst hab
            have HT : Hid (kindT 5 [] a a = true) := hid (by simp [kindT])
            go_wp2_with fail
            go_quiet (fail)
            go_wp2_with fail
            go_ret
            exact ⟨by rw [HNS.out, HKS.out, HA.out, HBB.out, HT.out]; rfl, HBW.out.trans ((below_drawn w4 _).mono HBW.out.size)⟩
          · have hq : ((a : Int) == (b : Int)) = false := beq_eq_false_iff_ne.mpr (by omega)
            have HT : Hid (kindT 5 [] a b = false) := hid (by simp [kindT, hab])
            clear hab
            go_wp2_with fail
            go_quiet (fail)
            go_wp2_with fail
            go_ret
            exact ⟨by rw [HNS.out, HKS.out, HA.out, HBB.out, HT.out]; rfl, HBW.out.trans ((below_drawn w4 _).mono HBW.out.size)⟩
        by_cases n6 : k = 6
        · subst n6
          clear g4 g5 hk0 hk7 n8 q8 n5
          by_cases ha0 : a = 0
          · subst ha0
            by_cases hb2 : b = 2
            · subst hb2
              have HT : Hid (kindT 6 [] 0 2 = true) := hid (by simp [kindT])
              go_wp2_with fail
              go_quiet (fail)
              go_wp2_with fail
              go_ret
              exact ⟨by rw [HNS.out, HKS.out, HA.out, HBB.out, HT.out]; rfl, HBW.out.trans ((below_drawn w4 _).mono HBW.out.size)⟩
            · have hq : ((b : Int) == 2) = false := beq_eq_false_iff_ne.mpr (by omega)
              have HT : Hid (kindT 6 [] 0 b = false) := hid (by simp [kindT, hb2])
              clear hb2
              go_wp2_with fail
              go_quiet (fail)
              go_wp2_with fail
              go_ret
              exact ⟨by rw [HNS.out, HKS.out, HA.out, HBB.out, HT.out]; rfl, HBW.out.trans ((below_drawn w4 _).mono HBW.out.size)⟩
          · have hq : ((a : Int) == 0) = false := beq_eq_false_iff_ne.mpr (by omega)
            have HT : Hid (kindT 6 [] a b = false) := hid (by simp [kindT, ha0])
            clear ha0
            go_wp2_with fail
            go_quiet (fail)
            go_wp2_with fail
            go_ret
            exact ⟨by rw [HNS.out, HKS.out, HA.out, HBB.out, HT.out]; rfl, HBW.out.trans ((below_drawn w4 _).mono HBW.out.size)⟩
        by_cases n7 : k = 7
        · subst n7
          clear g4 g5 hk0 hk7 n8 q8 n5 n6
          by_cases ha0 : a = 0
          · subst ha0
            by_cases hb2 : 2 ≤ b
            · have hq : decide ((2 : Int) ≤ (b : Int)) = true := by simp; omega
              have HT : Hid (kindT 7 [] 0 b = true) := hid (by simp [kindT, hb2])
              clear hb2
              go_wp2_with fail
              go_quiet (fail)
              go_wp2_with fail
              go_ret
              exact ⟨by rw [HNS.out, HKS.out, HA.out, HBB.out, HT.out]; rfl, HBW.out.trans ((below_drawn w4 _).mono HBW.out.size)⟩
            · have hq : decide ((2 : Int) ≤ (b : Int)) = false := by simp; omega
              have HT : Hid (kindT 7 [] 0 b = false) := hid (by simp [kindT, hb2])
              clear hb2
              go_wp2_with fail
              go_quiet (fail)
              go_wp2_with fail
              go_ret
              exact ⟨by rw [HNS.out, HKS.out, HA.out, HBB.out, HT.out]; rfl, HBW.out.trans ((below_drawn w4 _).mono HBW.out.size)⟩
          · have hq : ((a : Int) == 0) = false := beq_eq_false_iff_ne.mpr (by omega)
            have HT : Hid (kindT 7 [] a b = false) := hid (by simp [kindT, ha0])
            clear ha0
            go_wp2_with fail
            go_quiet (fail)
            go_wp2_with fail
            go_ret
            exact ⟨by rw [HNS.out, HKS.out, HA.out, HBB.out, HT.out]; rfl, HBW.out.trans ((below_drawn w4 _).mono HBW.out.size)⟩
        have q5 : (k == 5) = false := beq_eq_false_iff_ne.mpr n5
        have q6 : (k == 6) = false := beq_eq_false_iff_ne.mpr n6
        have q7 : (k == 7) = false := beq_eq_false_iff_ne.mpr n7
        by_cases hz : a = 0 ∧ b = 0
        · obtain ⟨rfl, rfl⟩ := hz
          have HT : Hid (kindT k [] 0 0 = true) := hid (by simp [kindT, n8, n5, n6, n7, hk0, hk7])
          clear n5 n6 n7 n8 hk0 hk7
          go_wp2_with fail
          go_quiet (fail)
          go_wp2_with fail
          go_ret
          exact ⟨by rw [HNS.out, HKS.out, HA.out, HBB.out, HT.out]; rfl, HBW.out.trans ((below_drawn w4 _).mono HBW.out.size)⟩
        · have hwz : (wrap64 ((a : Int) + (b : Int)) == 0) = false := wrap_zero ha hb hz
          have HT : Hid (kindT k [] a b = false) := hid (by simp [kindT, n8, n5, n6, n7, hk0, hk7]; omega)
          clear n5 n6 n7 n8 hk0 hk7 hz
          go_wp2_with fail
          go_quiet (fail)
          go_wp2_with fail
          go_ret
          exact ⟨by rw [HNS.out, HKS.out, HA.out, HBB.out, HT.out]; rfl, HBW.out.trans ((below_drawn w4 _).mono HBW.out.size)⟩
      · have hq : (nm == []) = false := by cases nm with | nil => exact absurd rfl hnm | cons c r => rfl
        have HT : Hid (kindT k nm a b = false) := hid (by simp [kindT, n8, hnm])
        clear n8
        go_wp2_with fail
        go_quiet (fail)
        go_wp2_with fail
        go_ret
        exact ⟨by rw [HNS.out, HKS.out, HA.out, HBB.out, HT.out]; rfl, HBW.out.trans ((below_drawn w4 _).mono HBW.out.size)⟩
theorem written_all : ∀ m : Nat, m ≤ 41 → WrC m
  | 0, _ => written_zero
  | m + 1, h => written_succ m (by omega) (written_all m (by omega))
end Go.Proofs.YtbpedjkebemhnaaGreatDoor
end
