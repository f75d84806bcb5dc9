/- WG, GE -/
import Derived.Test.YtbpedjkebemhnaaGreatDoorSB01
import Derived.WalkKit
import Derived.WalkSpells
import Derived.WalkLawsBesides
import Derived.RegionTactic
import Derived.Deep.QuietTactic
import Derived.Test.YtbpedjkebemhnaaGreatDoorSB03
import Derived.Test.YtbpedjkebemhnaaGreatDoorRows
import Derived.Test.YtbpedjkebemhnaaGreatDoorSB02
import Derived.Lib.ConvBytes
set_option linter.unusedSimpArgs false
set_option linter.unusedVariables false
section
/- The contracts of word's Show and Parse. -/
set_option linter.unusedVariables false
namespace Go.Proofs.YtbpedjkebemhnaaGreatDoor
open Go.RowKit

theorem below_grow (w : World) (k : Nat) (os : Array Obj) : Below w.heap.size w (Sort.grow (w.drewN k) os) :=
  ⟨rfl, rfl, rfl, by simp [Sort.grow], fun i hi => by simp only [Sort.grow, World.heap_drewN]; rw [Array.getElem?_append, if_pos hi]⟩

/-- The bytes of a text, by either name. -/
theorem blist (s : ByteArray) : s.toList = s.data.toList := ByteArray.toList_eq s

/-- What the listed variables of the library hold. -/
structure LaidW (w : World) : Prop where
  tab : Lib.TabIs Tryz.prog w "internal/strconv.uint64pow10" .u64 Lib.pow10Tab
  syn : ∃ tp p, w.var? Tryz.prog "strconv.ErrSyntax" = some #[.iface tp p]
  rng : ∃ tp p, w.var? Tryz.prog "strconv.ErrRange" = some #[.iface tp p]
theorem var_below {w w' : World} {name : String} {cs : Array Value} (h : w.var? Tryz.prog name = some cs) (hb : Below w.heap.size w w') : w'.var? Tryz.prog name = some cs := by
  unfold World.var? at h ⊢
  cases hg : Tryz.prog.globalNamed name with
  | none => rw [hg] at h; cases h
  | some g =>
    rw [hg] at h
    simp only [Option.bind_some] at h ⊢
    by_cases hlt : g < w.heap.size
    · rw [hb.block g hlt]; exact h
    · rw [Array.getElem?_eq_none (by omega)] at h; cases h
theorem LaidW.below {w w' : World} (h : LaidW w) (hb : Below w.heap.size w w') : LaidW w' := by
  obtain ⟨h1, ⟨tp, p, h2⟩, ⟨tp', p', h3⟩⟩ := h
  exact ⟨var_below h1 hb, ⟨tp, p, var_below h2 hb⟩, ⟨tp', p', var_below h3 hb⟩⟩
theorem LaidW.drewN {w : World} (h : LaidW w) (n : Nat) : LaidW (w.drewN n) := h.below ⟨rfl, rfl, rfl, Nat.le_refl _, fun _ _ => rfl⟩

set_option maxHeartbeats 400000 in
theorem show_tab (n : Int) (w : World) (hn : In64 n) (htab : Lib.TabIs Tryz.prog w "internal/strconv.uint64pow10" .u64 Lib.pow10Tab) :
    Calls Tryz.prog 121 #[.int .i64 n] w fun e w' => e = .returned (sv (Lib.itoa n)) ∧ Below w.heap.size w w' := by
  go_enter Tryz.func121, Tryz.ntmps121
  go_wp2_with (go_at_call 144; refine (Tryz.strconv_Itoa n hn.1 hn.2 _ htab).mono ?_; rintro e w' ⟨rfl, k, os, rfl⟩)
  go_ret
  exact ⟨rfl, below_grow _ _ _⟩
theorem show_any (n : Int) (w : World) (hn : In64 n) (hL : LaidW w) :
    Calls Tryz.prog 121 #[.int .i64 n] w fun e w' => e = .returned (sv (Lib.itoa n)) ∧ Below w.heap.size w w' := show_tab n w hn hL.tab
set_option maxHeartbeats 400000 in
/-- Atoi at every text: the number, and whether there is an error. -/
theorem atoi_any (s : ByteArray) (w : World) (hs : s.size ≤ 281474976710656) (hL : LaidW w) :
    Calls Tryz.prog 152 #[.string s] w fun e w' => ∃ v x, e = .returned (.tuple #[.int .i64 v, x]) ∧ Below w.heap.size w w' ∧
      ((Lib.atoiAll s.data.toList = .ok v ∧ x = .nilIface) ∨ ((∀ u, Lib.atoiAll s.data.toList ≠ .ok u) ∧ ∃ t y, x = .iface t y)) := by
  obtain ⟨_, ⟨tp, p, h2⟩, ⟨tp', p', h3⟩⟩ := hL
  rcases h : Lib.atoiAll s.data.toList with v | _ | _
  · refine (Tryz.strconv_Atoi_ok s (by omega) v h w).mono ?_
    rintro e w' ⟨rfl, hw⟩
    refine ⟨v, _, rfl, ?_, .inl ⟨rfl, rfl⟩⟩
    rcases hw with rfl | ⟨t, rfl⟩
    · exact Below.refl _ _
    · exact Lib.bytesWorld_below w _ t
  · refine (Tryz.strconv_Atoi_syntax_var s hs h tp p w h2).mono ?_
    rintro e w' ⟨N, rfl, _, _, hb⟩
    exact ⟨_, _, rfl, hb, .inr ⟨fun u hu => (by cases hu), _, _, rfl⟩⟩
  · refine (Tryz.strconv_Atoi_range_var s hs h tp' p' w h3).mono ?_
    rintro e w' ⟨N, rfl, _, _, hb⟩
    exact ⟨_, _, rfl, hb, .inr ⟨fun u hu => (by cases hu), _, _, rfl⟩⟩

theorem parse_bad {l : List UInt8} (h : ∀ u, Lib.atoiAll l ≠ .ok u) : parseV l = (0, false) := by
  rw [parse_of_atoi]
  cases ha : Lib.atoiAll l with
  | ok u => exact absurd ha (h u)
  | _ => rfl
theorem parse_neg {l : List UInt8} {v : Int} (h : Lib.atoiAll l = .ok v) (h0 : v < 0) : parseV l = (0, false) := by
  rw [parse_of_atoi, h]; dsimp only; rw [if_pos (.inl h0)]
theorem parse_else {l : List UInt8} {v : Int} (h : Lib.atoiAll l = .ok v) (h0 : Lib.itoa v ≠ l) : parseV l = (0, false) := by
  rw [parse_of_atoi, h]; dsimp only; rw [if_pos (.inr h0)]
theorem parse_good {l : List UInt8} {v : Int} (h : Lib.atoiAll l = .ok v) (h0 : 0 ≤ v) (h1 : Lib.itoa v = l) : parseV l = (v, true) := by
  rw [parse_of_atoi, h]; dsimp only; rw [if_neg]
  rintro (h | h)
  · omega
  · exact h h1
theorem ret_ib {a c : Int} {b d : Bool} (h : (a, b) = (c, d)) : Ending.returned (.tuple #[.int .i64 a, .bool b]) = .returned (.tuple #[.int .i64 c, .bool d]) := by
  cases h; rfl

set_option maxHeartbeats 400000 in
theorem parse_any (s : ByteArray) (w : World) (hs : s.size ≤ 281474976710656) (hL : LaidW w) :
    Calls Tryz.prog 134 #[.string s] w fun e w' => e = .returned (.tuple #[.int .i64 (parseV s.data.toList).1, .bool (parseV s.data.toList).2]) ∧ Below w.heap.size w w' := by
  go_enter Tryz.func134, Tryz.ntmps134
  go_wp2_with fail
  refine (atoi_any s _ hs hL).mono ?_
  rintro e w1 ⟨v, x, rfl, hb1, hx⟩
  have hL1 := hL.below hb1
  rcases hx with ⟨ha, rfl⟩ | ⟨ha, t, y, rfl⟩
  · by_cases h0 : v < 0
    · have HV := hid (parse_neg ha h0)
      clear ha
      go_wp2_with fail
      go_ret2
      exact ⟨ret_ib (by rw [HV.out]), hb1⟩
    · have hv : In64 v := by
        have := atoi_lt ha
        unfold In64; omega
      have HA := hid ha
      clear ha
      go_wp2_with (go_at_call 121; refine (show_any v _ hv hL1).mono ?_; rintro e w2 ⟨rfl, hb2⟩)
      · rename_i h
        have hne : Lib.itoa v ≠ s.data.toList := by
          rcases h with h | h
          · omega
          · simpa [blist] using h
        go_ret2
        exact ⟨ret_ib (by rw [parse_else HA.out hne]), hb1.trans (hb2.mono hb1.size)⟩
      · rename_i h
        have he : Lib.itoa v = s.data.toList := by simpa [blist] using h.2
        go_ret2
        exact ⟨ret_ib (by rw [parse_good HA.out h.1 he]), hb1.trans (hb2.mono hb1.size)⟩
  · have HV := hid (parse_bad ha)
    clear ha
    go_wp2_with fail
    go_ret2
    exact ⟨ret_ib (by rw [HV.out]), hb1⟩
end Go.Proofs.YtbpedjkebemhnaaGreatDoor
end
section
/- Texts that belong together: XA, XB, XC, XD. -/
/- The contracts of lex's functions on bytes, and of how many bytes are of a sort. -/
set_option linter.unusedVariables false
namespace Go.Proofs.YtbpedjkebemhnaaGreatDoor
open Go.RowKit

theorem letter_any (c : UInt8) (w : World) : Calls Tryz.prog 87 #[.int .u8 (c.toNat : Int)] w fun e w' => e = .returned (.bool (letterB c)) ∧ w' = w := by
  unfold letterB
  generalize c.toNat = n
  go_enter Tryz.func87, Tryz.ntmps87
  go_wp2_with fail
  all_goals
    go_ret
    refine ⟨?_, rfl⟩
    congr 2
    try simp
    try omega
    try (rw [Bool.eq_iff_iff]; simp only [Bool.or_eq_true, Bool.and_eq_true, decide_eq_true_eq, beq_iff_eq]; omega)
theorem digit_any (c : UInt8) (w : World) : Calls Tryz.prog 110 #[.int .u8 (c.toNat : Int)] w fun e w' => e = .returned (.bool (digitB c)) ∧ w' = w := by
  unfold digitB
  generalize c.toNat = n
  go_enter Tryz.func110, Tryz.ntmps110
  go_wp2_with fail
  all_goals
    go_ret
    refine ⟨?_, rfl⟩
    congr 2
    try simp
    try omega
    try (rw [Bool.eq_iff_iff]; simp only [Bool.or_eq_true, Bool.and_eq_true, decide_eq_true_eq, beq_iff_eq]; omega)
theorem blank_any (c : UInt8) (w : World) : Calls Tryz.prog 107 #[.int .u8 (c.toNat : Int)] w fun e w' => e = .returned (.bool (blankB c)) ∧ w' = w := by
  unfold blankB
  generalize c.toNat = n
  go_enter Tryz.func107, Tryz.ntmps107
  go_wp2_with fail
  all_goals
    go_ret
    refine ⟨?_, rfl⟩
    congr 2
    try simp
    try omega
    try (rw [Bool.eq_iff_iff]; simp only [Bool.or_eq_true, Bool.and_eq_true, decide_eq_true_eq, beq_iff_eq]; omega)
theorem notline_any (c : UInt8) (w : World) : Calls Tryz.prog 108 #[.int .u8 (c.toNat : Int)] w fun e w' => e = .returned (.bool (notLine c)) ∧ w' = w := by
  unfold notLine
  generalize c.toNat = n
  go_enter Tryz.func108, Tryz.ntmps108
  go_wp2_with fail
  all_goals
    go_ret
    refine ⟨?_, rfl⟩
    congr 2
    try simp
    try omega
    try (rw [Bool.eq_iff_iff]; simp only [Bool.not_eq_true', bne_iff_ne, ne_eq, decide_eq_false_iff_not]; omega)
theorem inner_any (c : UInt8) (w : World) : Calls Tryz.prog 89 #[.int .u8 (c.toNat : Int)] w fun e w' => e = .returned (.bool (innerB c)) ∧ w' = w := by
  have hi : innerB c = (letterB c || digitB c) := rfl
  rw [hi]
  clear hi
  cases hl : letterB c
  · go_enter Tryz.func89, Tryz.ntmps89
    go_wp2_with fail
    refine (letter_any c _).mono ?_
    rintro e w1 ⟨rfl, rfl⟩
    rw [hl]
    go_wp2_with fail
    refine (digit_any c _).mono ?_
    rintro e w1 ⟨rfl, rfl⟩
    go_wp2_with fail
    go_ret
    exact ⟨rfl, rfl⟩
  · go_enter Tryz.func89, Tryz.ntmps89
    go_wp2_with fail
    refine (letter_any c _).mono ?_
    rintro e w1 ⟨rfl, rfl⟩
    rw [hl]
    go_wp2_with fail
    go_ret
    exact ⟨rfl, rfl⟩

theorem sv_size (s : Bt) : (ByteArray.mk s.toArray).size = s.length := by simp [ByteArray.size]
theorem sv_index (s : Bt) (k : Nat) (h : k < s.length) : (ByteArray.mk s.toArray)[k]'(by rw [sv_size]; exact h) = s[k] := by simp [ByteArray.getElem_eq_getElem_data]

set_option maxHeartbeats 400000 in
theorem row_blank (s : Bt) (w : World) (hs : s.length ≤ 281474976710656) : Calls Tryz.prog 88 #[sv s, .func (.func 107) #[] #[]] w fun e w' => e = .returned (.int .i64 (rowL blankB s : Nat)) ∧ w' = w := by
  have hsz := sv_size s
  go_enter Tryz.func88, Tryz.ntmps88
  go_wp2_with fail
  go_loop [5, 8] (fun v5 v8 => ∃ k : Nat, v8 = .int .i64 k ∧ k ≤ s.length ∧ ∀ j (hj : j < s.length), j < k → blankB s[j] = true) (fun _ v8 => s.length - (intOf v8).toNat)
  case atStart => exact ⟨0, rfl, by omega, fun j hj h => by omega⟩
  case round =>
    obtain ⟨k, rfl, hk, hall⟩ := hrel
    by_cases hlt : k < s.length
    · have hix := sv_index s k hlt
      have hrow := fun hn => rowL_at (p := blankB) hlt (fun j hj => hall j (by omega) hj) hn
      have hnext : blankB s[k] = true → ∀ j (hj : j < s.length), j < k + 1 → blankB s[j] = true := by
        intro h j hj hjk
        rcases Nat.lt_or_ge j k with h1 | h1
        · exact hall j hj h1
        · obtain rfl : j = k := by omega
          exact h
      have HROW := hid hrow
      have HNEXT := hid hnext
      clear hall hrow hnext
      generalize hX : s[k] = X at *
      cases hq : blankB X
      · have hres := HROW.out hq
        go_wp2_with fail
        refine (blank_any X _).mono ?_
        rintro e w1 ⟨rfl, rfl⟩
        rw [hq]
        go_wp2_with fail
        go_ret
        exact ⟨by rw [hres]; rfl, rfl⟩
      · have hall := HNEXT.out hq
        have HALL := hid hall
        clear hall
        go_wp2_with fail
        refine (blank_any X _).mono ?_
        rintro e w1 ⟨rfl, rfl⟩
        rw [hq]
        go_wp2_with fail
        go_round
        case rel => exact ⟨k + 1, rfl, by omega, HALL.out⟩
        case measure => simp [intOf]; omega
    · obtain rfl : k = s.length := by omega
      have hres := rowL_all (p := blankB) (s := s) (fun j hj => hall j hj hj)
      clear hall
      go_wp2_with fail
      go_ret
      first | exact ⟨rfl, rfl⟩ | exact ⟨by rw [hres]; rfl, rfl⟩

set_option maxHeartbeats 400000 in
theorem row_inner (s : Bt) (w : World) (hs : s.length ≤ 281474976710656) : Calls Tryz.prog 88 #[sv s, .func (.func 89) #[] #[]] w fun e w' => e = .returned (.int .i64 (rowL innerB s : Nat)) ∧ w' = w := by
  have hsz := sv_size s
  go_enter Tryz.func88, Tryz.ntmps88
  go_wp2_with fail
  go_loop [5, 8] (fun v5 v8 => ∃ k : Nat, v8 = .int .i64 k ∧ k ≤ s.length ∧ ∀ j (hj : j < s.length), j < k → innerB s[j] = true) (fun _ v8 => s.length - (intOf v8).toNat)
  case atStart => exact ⟨0, rfl, by omega, fun j hj h => by omega⟩
  case round =>
    obtain ⟨k, rfl, hk, hall⟩ := hrel
    by_cases hlt : k < s.length
    · have hix := sv_index s k hlt
      have hrow := fun hn => rowL_at (p := innerB) hlt (fun j hj => hall j (by omega) hj) hn
      have hnext : innerB s[k] = true → ∀ j (hj : j < s.length), j < k + 1 → innerB s[j] = true := by
        intro h j hj hjk
        rcases Nat.lt_or_ge j k with h1 | h1
        · exact hall j hj h1
        · obtain rfl : j = k := by omega
          exact h
      have HROW := hid hrow
      have HNEXT := hid hnext
      clear hall hrow hnext
      generalize hX : s[k] = X at *
      cases hq : innerB X
      · have hres := HROW.out hq
        go_wp2_with fail
        refine (inner_any X _).mono ?_
        rintro e w1 ⟨rfl, rfl⟩
        rw [hq]
        go_wp2_with fail
        go_ret
        exact ⟨by rw [hres]; rfl, rfl⟩
      · have hall := HNEXT.out hq
        have HALL := hid hall
        clear hall
        go_wp2_with fail
        refine (inner_any X _).mono ?_
        rintro e w1 ⟨rfl, rfl⟩
        rw [hq]
        go_wp2_with fail
        go_round
        case rel => exact ⟨k + 1, rfl, by omega, HALL.out⟩
        case measure => simp [intOf]; omega
    · obtain rfl : k = s.length := by omega
      have hres := rowL_all (p := innerB) (s := s) (fun j hj => hall j hj hj)
      clear hall
      go_wp2_with fail
      go_ret
      first | exact ⟨rfl, rfl⟩ | exact ⟨by rw [hres]; rfl, rfl⟩

set_option maxHeartbeats 400000 in
theorem row_digit (s : Bt) (w : World) (hs : s.length ≤ 281474976710656) : Calls Tryz.prog 88 #[sv s, .func (.func 110) #[] #[]] w fun e w' => e = .returned (.int .i64 (rowL digitB s : Nat)) ∧ w' = w := by
  have hsz := sv_size s
  go_enter Tryz.func88, Tryz.ntmps88
  go_wp2_with fail
  go_loop [5, 8] (fun v5 v8 => ∃ k : Nat, v8 = .int .i64 k ∧ k ≤ s.length ∧ ∀ j (hj : j < s.length), j < k → digitB s[j] = true) (fun _ v8 => s.length - (intOf v8).toNat)
  case atStart => exact ⟨0, rfl, by omega, fun j hj h => by omega⟩
  case round =>
    obtain ⟨k, rfl, hk, hall⟩ := hrel
    by_cases hlt : k < s.length
    · have hix := sv_index s k hlt
      have hrow := fun hn => rowL_at (p := digitB) hlt (fun j hj => hall j (by omega) hj) hn
      have hnext : digitB s[k] = true → ∀ j (hj : j < s.length), j < k + 1 → digitB s[j] = true := by
        intro h j hj hjk
        rcases Nat.lt_or_ge j k with h1 | h1
        · exact hall j hj h1
        · obtain rfl : j = k := by omega
          exact h
      have HROW := hid hrow
      have HNEXT := hid hnext
      clear hall hrow hnext
      generalize hX : s[k] = X at *
      cases hq : digitB X
      · have hres := HROW.out hq
        go_wp2_with fail
        refine (digit_any X _).mono ?_
        rintro e w1 ⟨rfl, rfl⟩
        rw [hq]
        go_wp2_with fail
        go_ret
        exact ⟨by rw [hres]; rfl, rfl⟩
      · have hall := HNEXT.out hq
        have HALL := hid hall
        clear hall
        go_wp2_with fail
        refine (digit_any X _).mono ?_
        rintro e w1 ⟨rfl, rfl⟩
        rw [hq]
        go_wp2_with fail
        go_round
        case rel => exact ⟨k + 1, rfl, by omega, HALL.out⟩
        case measure => simp [intOf]; omega
    · obtain rfl : k = s.length := by omega
      have hres := rowL_all (p := digitB) (s := s) (fun j hj => hall j hj hj)
      clear hall
      go_wp2_with fail
      go_ret
      first | exact ⟨rfl, rfl⟩ | exact ⟨by rw [hres]; rfl, rfl⟩

set_option maxHeartbeats 400000 in
theorem row_notline (s : Bt) (w : World) (hs : s.length ≤ 281474976710656) : Calls Tryz.prog 88 #[sv s, .func (.func 108) #[] #[]] w fun e w' => e = .returned (.int .i64 (rowL notLine s : Nat)) ∧ w' = w := by
  have hsz := sv_size s
  go_enter Tryz.func88, Tryz.ntmps88
  go_wp2_with fail
  go_loop [5, 8] (fun v5 v8 => ∃ k : Nat, v8 = .int .i64 k ∧ k ≤ s.length ∧ ∀ j (hj : j < s.length), j < k → notLine s[j] = true) (fun _ v8 => s.length - (intOf v8).toNat)
  case atStart => exact ⟨0, rfl, by omega, fun j hj h => by omega⟩
  case round =>
    obtain ⟨k, rfl, hk, hall⟩ := hrel
    by_cases hlt : k < s.length
    · have hix := sv_index s k hlt
      have hrow := fun hn => rowL_at (p := notLine) hlt (fun j hj => hall j (by omega) hj) hn
      have hnext : notLine s[k] = true → ∀ j (hj : j < s.length), j < k + 1 → notLine s[j] = true := by
        intro h j hj hjk
        rcases Nat.lt_or_ge j k with h1 | h1
        · exact hall j hj h1
        · obtain rfl : j = k := by omega
          exact h
      have HROW := hid hrow
      have HNEXT := hid hnext
      clear hall hrow hnext
      generalize hX : s[k] = X at *
      cases hq : notLine X
      · have hres := HROW.out hq
        go_wp2_with fail
        refine (notline_any X _).mono ?_
        rintro e w1 ⟨rfl, rfl⟩
        rw [hq]
        go_wp2_with fail
        go_ret
        exact ⟨by rw [hres]; rfl, rfl⟩
      · have hall := HNEXT.out hq
        have HALL := hid hall
        clear hall
        go_wp2_with fail
        refine (notline_any X _).mono ?_
        rintro e w1 ⟨rfl, rfl⟩
        rw [hq]
        go_wp2_with fail
        go_round
        case rel => exact ⟨k + 1, rfl, by omega, HALL.out⟩
        case measure => simp [intOf]; omega
    · obtain rfl : k = s.length := by omega
      have hres := rowL_all (p := notLine) (s := s) (fun j hj => hall j hj hj)
      clear hall
      go_wp2_with fail
      go_ret
      first | exact ⟨rfl, rfl⟩ | exact ⟨by rw [hres]; rfl, rfl⟩
end Go.Proofs.YtbpedjkebemhnaaGreatDoor

/- The contracts of lex's words, of the library's Index over texts, and of how a lexer passes over bytes. -/
set_option linter.unusedVariables false
namespace Go.Proofs.YtbpedjkebemhnaaGreatDoor
open Go.RowKit

theorem el_str : ElemIs Tryz.prog 23 9 (sv []) 1 16 := ⟨Tryz.underlying23, by kernel_rfl, rfl, by decide⟩
/-- What the listed variables hold that a lexer looks at. -/
def LaidX (w : World) : Prop := LaidW w ∧ Lib.TabIs Tryz.prog w "strings.asciiSpace" .u8 Lib.asciiSpaceTab
/-- The tables alone. -/
def LaidT (w : World) : Prop := Lib.TabIs Tryz.prog w "internal/strconv.uint64pow10" .u64 Lib.pow10Tab ∧ Lib.TabIs Tryz.prog w "strings.asciiSpace" .u8 Lib.asciiSpaceTab
theorem LaidT.below {w w' : World} (h : LaidT w) (hb : Below w.heap.size w w') : LaidT w' := ⟨var_below h.1 hb, var_below h.2 hb⟩
theorem LaidX.t {w : World} (h : LaidX w) : LaidT w := ⟨h.1.tab, h.2⟩
theorem LaidX.below {w w' : World} (h : LaidX w) (hb : Below w.heap.size w w') : LaidX w' := ⟨h.1.below hb, var_below h.2 hb⟩

def wordsT : Bt := [97, 110, 100, 32, 97, 110, 121, 32, 97, 115, 32, 98, 111, 111, 108, 32, 101, 108, 115, 101, 32, 101, 120, 112, 111, 114, 116, 32, 102, 97, 108, 115, 101, 32, 102, 110, 32, 102, 117, 110, 99, 116, 105, 111, 110, 32, 105, 102, 32, 105, 109, 112, 111, 114, 116, 32, 105, 110, 32, 105, 110, 116, 32, 105, 115, 32, 108, 101, 116, 32, 110, 111, 116, 32, 110, 117, 108, 108, 32, 111, 114, 32, 112, 114, 105, 110, 116, 32, 114, 101, 97, 100, 32, 114, 101, 99, 111, 114, 100, 32, 115, 116, 114, 32, 116, 104, 101, 110, 32, 116, 114, 117, 101, 32, 119, 105, 116, 104]
set_option maxRecDepth 100000 in
theorem words_fields : Lib.fields wordsT = wordsL := by kernel_rfl
set_option maxRecDepth 100000 in
theorem words_ascii : (wordsT.all fun b => decide (b.toNat < 128)) = true := by kernel_rfl
theorem words_list : (⟨wordsT.toArray⟩ : ByteArray).data.toList = wordsT := rfl
set_option maxRecDepth 100000 in
theorem words_any (w : World) (hL : LaidT w) : Calls Tryz.prog 91 #[] w fun e w' => ∃ v, e = .returned v ∧ Ss w' w'.heap.size v wordsL ∧ Below w.heap.size w w' := by
  go_enter Tryz.func91, Tryz.ntmps91
  go_wp2_with fail
  refine (Tryz.strings_Fields ⟨wordsT.toArray⟩ _ ?h1 ?h2 hL.2).mono ?_
  case h1 => decide
  case h2 =>
    intro j b hb
    rw [words_list] at hb
    exact of_decide_eq_true (List.all_eq_true.1 words_ascii b (List.mem_of_getElem? hb))
  rintro e w1 ⟨rfl, rfl⟩
  rw [words_list, words_fields]
  have hss : Ss (w.alloc (.cells (wordsL.map fun l => Value.string ⟨l.toArray⟩).toArray 9)) (w.alloc (.cells (wordsL.map fun l => Value.string ⟨l.toArray⟩).toArray 9)).heap.size (.slice (some ⟨w.heap.size, 0, none⟩) wordsL.length wordsL.length) wordsL := by
    have := sl_new w (wordsL.map fun l => Value.string ⟨l.toArray⟩).toArray 9 1 wordsL.length (by simp) (by decide)
    rw [World.size_alloc]
    simpa [Ss, svs] using this
  have hb : Below w.heap.size w (w.alloc (.cells (wordsL.map fun l => Value.string ⟨l.toArray⟩).toArray 9)) := (Below.refl _ _).alloc (Nat.le_refl _) _
  generalize (w.alloc (.cells (wordsL.map fun l => Value.string ⟨l.toArray⟩).toArray 9)) = w2 at *
  generalize wordsL.length = n at *
  go_wp2_with fail
  go_ret
  exact ⟨_, rfl, hss, hb⟩

set_option maxHeartbeats 400000 in
theorem index_any (v : Value) (l : List Bt) (x : Bt) (w : World) (hv : Ss w w.heap.size v l) :
    Calls Tryz.prog 129 #[v, sv x] w fun e w' => (∃ k : Int, e = .returned (.int .i64 k) ∧ (0 ≤ k ↔ x ∈ l)) ∧ w' = w := by
  obtain ⟨A, c, rfl, hn, hc, hx⟩ := hv.open_
  unfold maxLen at hc
  go_enter Tryz.func129, Tryz.ntmps129
  go_wp2_with fail
  go_loop [5, 8] (fun v5 v8 => ∃ k : Nat, v8 = .int .i64 k ∧ k ≤ l.length ∧ x ∉ l.take k) (fun _ v8 => l.length - (intOf v8).toNat)
  case atStart => exact ⟨0, rfl, by omega, by simp⟩
  case round =>
    obtain ⟨k, rfl, hk, hnot⟩ := hrel
    by_cases hlt : k < l.length
    · obtain ⟨b, o, rfl, hb, hcell⟩ := hx (by omega)
      have d1 := hcell k hlt
      have e1 : x = l[k] → x ∈ l := fun h => by rw [h]; exact List.getElem_mem hlt
      have e2 : ¬ x = l[k] → x ∉ l.take (k + 1) := fun h hh => by
        rw [List.take_succ_eq_append_getElem hlt, List.mem_append] at hh
        rcases hh with hh | hh
        · exact hnot hh
        · simp at hh; exact h hh
      clear hcell hx hv hnot
      generalize l[k] = X at *
      by_cases hX : x = X
      · have e3 := e1 hX
        have hq : (x == X) = true := by rw [beq_iff_eq]; exact hX
        clear hX e1 e2
        go_wp2_with fail
        go_ret
        exact ⟨⟨k, rfl, by simp [e3]⟩, rfl⟩
      · have e3 := e2 hX
        have hq : (x == X) = false := by rw [beq_eq_false_iff_ne]; exact hX
        clear hX e1 e2
        go_wp2_with fail
        go_round
        case rel => exact ⟨k + 1, rfl, by omega, e3⟩
        case measure => simp [intOf]; omega
    · obtain rfl : k = l.length := by omega
      rw [List.take_length] at hnot
      go_wp2_with fail
      go_ret
      exact ⟨⟨-1, rfl, by simp [hnot]⟩, rfl⟩
theorem contains_any (v : Value) (l : List Bt) (x : Bt) (w : World) (hv : Ss w w.heap.size v l) :
    Calls Tryz.prog 90 #[v, sv x] w fun e w' => e = .returned (.bool (decide (x ∈ l))) ∧ w' = w := by
  go_enter Tryz.func90, Tryz.ntmps90
  go_wp2_with fail
  refine (index_any v l x _ hv).mono ?_
  rintro e w1 ⟨⟨k, rfl, hk⟩, rfl⟩
  by_cases h : x ∈ l
  · have h0 := hk.2 h
    clear hk
    go_wp2_with fail
    go_ret
    exact ⟨by simp [h], rfl⟩
  · have h0 : ¬ (0 ≤ k) := fun hh => h (hk.1 hh)
    clear hk
    go_wp2_with fail
    go_ret
    exact ⟨by first | (simp [h]; done) | (simp [h]; exact h0) | (simp [h]; omega), rfl⟩
end Go.Proofs.YtbpedjkebemhnaaGreatDoor

/- A lexer in memory; how it passes over bytes. -/
set_option linter.unusedVariables false
namespace Go.Proofs.YtbpedjkebemhnaaGreatDoor
open Go.RowKit

/-- Block bl is a lexer: what is left of its text, where it stands, its map of pairs, its tokens. -/
def LexAt (w : World) (bl bp : Nat) (s : Bt) (p : Nat × Nat) (outv : Value) : Prop :=
  w.heap[bl]? = some (.cells #[sv s, .int .i64 (p.1 : Nat), .int .i64 (p.2 : Nat), .map (some bp), outv] 96 (0, 0))
section
variable {w w' : World} {bl bp : Nat} {s : Bt} {p : Nat × Nat} {outv : Value}
theorem LexAt.c0 (h : LexAt w bl bp s p outv) : w.cell? ⟨bl, 0, none⟩ = some (sv s) := (cell_of_row _ _ _ _ _ (0, 0) h).trans rfl
theorem LexAt.c1 (h : LexAt w bl bp s p outv) : w.cell? ⟨bl, 1, none⟩ = some (.int .i64 (p.1 : Nat)) := (cell_of_row _ _ _ _ _ (0, 0) h).trans rfl
theorem LexAt.c2 (h : LexAt w bl bp s p outv) : w.cell? ⟨bl, 2, none⟩ = some (.int .i64 (p.2 : Nat)) := (cell_of_row _ _ _ _ _ (0, 0) h).trans rfl
theorem LexAt.c3 (h : LexAt w bl bp s p outv) : w.cell? ⟨bl, 3, none⟩ = some (.map (some bp)) := (cell_of_row _ _ _ _ _ (0, 0) h).trans rfl
theorem LexAt.c4 (h : LexAt w bl bp s p outv) : w.cell? ⟨bl, 4, none⟩ = some outv := (cell_of_row _ _ _ _ _ (0, 0) h).trans rfl
theorem LexAt.free (h : LexAt w bl bp s p outv) (i : Nat) : w.frozen? ⟨bl, i, none⟩ = false := by simp [World.frozen?, show w.heap[bl]? = _ from h]
theorem LexAt.lt (h : LexAt w bl bp s p outv) : bl < w.heap.size := block_lt h
theorem LexAt.turn {G : Nat → Prop} (h : LexAt w bl bp s p outv) (t : Turn G w w') (hd : ¬ G bl) : LexAt w' bl bp s p outv := block_turn h t hd
end
theorem ss_cell' {w wr : World} {F : Nat → Prop} {b off : Nat} (t : Turn F w wr) (hb : b < w.heap.size) (hF : ¬ F b) {u : Value} (h : w.cell? ⟨b, off, none⟩ = some u) : wr.cell? ⟨b, off, none⟩ = some u := by
  rw [← h]; simp only [World.cell?, t.block hb hF]
theorem advL_le (p : Nat × Nat) (s : Bt) : (advL p s).1 ≤ p.1 + s.length ∧ (advL p s).2 ≤ p.2 + s.length + 1 := by
  induction s generalizing p with
  | nil => exact ⟨Nat.le_refl _, by simp [advL]⟩
  | cons c s ih =>
    have h : advL p (c :: s) = advL (advB p c) s := rfl
    rw [h]
    obtain ⟨a, b⟩ := ih (advB p c)
    have h1 : (advB p c).1 ≤ p.1 + 1 ∧ (advB p c).2 ≤ p.2 + 1 ∨ (advB p c).2 ≤ 1 ∧ (advB p c).1 ≤ p.1 + 1 := by
      unfold advB; split
      · exact .inr ⟨Nat.le_refl _, Nat.le_refl _⟩
      · exact .inl ⟨Nat.le_succ _, Nat.le_refl _⟩
    simp only [List.length_cons]
    omega

theorem extract_list (s : Bt) (a b : Nat) : (ByteArray.extract ⟨s.toArray⟩ a b).data.toList = (s.take b).drop a := by
  rw [ByteArray.data_extract]
  simp [List.extract_eq_take_drop, List.drop_take]
theorem extract_sv (s : Bt) (a b : Nat) : Value.string (ByteArray.extract ⟨s.toArray⟩ a b) = sv ((s.take b).drop a) := by
  rw [← extract_list]
theorem conv_take {P : Program} (w : World) (src dst e : TypeId) (hs : P.underlying src = some .string) (hd : P.underlying dst = some (.slice e)) (he : P.underlying e = some (.int .u8)) (s : Bt) (n : Nat) (hn : n ≤ s.length) :
    ∃ C w5, (convert src dst (.string (ByteArray.extract ⟨s.toArray⟩ 0 n))).run P w = .ok (.slice (some ⟨w.heap.size, 0, none⟩) n C) w5 ∧ Turn (fun _ => False) w w5 ∧ w.heap.size < w5.heap.size ∧
      ∀ j (hj : j < n), w5.cell? ⟨w.heap.size, j, none⟩ = some (.int .u8 ((s[j]'(by omega)).toNat : Int)) := by
  have hsz : (ByteArray.extract ⟨s.toArray⟩ 0 n).size = n := by
    have h : (ByteArray.extract ⟨s.toArray⟩ 0 n).data.toList.length = (ByteArray.extract ⟨s.toArray⟩ 0 n).size := Array.length_toList
    rw [← h, extract_list]; simp; omega
  have hrun := Lib.run_convert_string_bytes (P := P) w src dst e (ByteArray.extract ⟨s.toArray⟩ 0 n) hs hd he
  have hcell := Lib.bytesWorld_cell w e (ByteArray.extract ⟨s.toArray⟩ 0 n)
  have hsize := Lib.bytesWorld_size w e (ByteArray.extract ⟨s.toArray⟩ 0 n)
  have hold := Lib.bytesWorld_at_old w e (ByteArray.extract ⟨s.toArray⟩ 0 n)
  rw [hsz] at hrun hcell
  refine ⟨_, _, hrun, ⟨rfl, rfl, rfl, by rw [hsize]; omega, fun k hk _ => hold k hk⟩, by rw [hsize]; omega, fun j hj => ?_⟩
  rw [hcell j hj, extract_list]
  simp [List.getD_eq_getElem?_getD, List.getElem?_take, hj, List.getElem?_eq_getElem (show j < s.length by omega)]

theorem LexAt.set1 {w : World} {bl bp : Nat} {s : Bt} {p : Nat × Nat} {outv : Value} (h : LexAt w bl bp s p outv) (n : Nat) : LexAt (w.setCell ⟨bl, 1, none⟩ (.int .i64 (n : Nat))) bl bp s (n, p.2) outv := heap_setCell_same w bl 1 _ _ _ h
theorem LexAt.set2 {w : World} {bl bp : Nat} {s : Bt} {p : Nat × Nat} {outv : Value} (h : LexAt w bl bp s p outv) (n : Nat) : LexAt (w.setCell ⟨bl, 2, none⟩ (.int .i64 (n : Nat))) bl bp s (p.1, n) outv := heap_setCell_same w bl 2 _ _ _ h
theorem LexAt.set0 {w : World} {bl bp : Nat} {s : Bt} {p : Nat × Nat} {outv : Value} (h : LexAt w bl bp s p outv) (s' : Bt) : LexAt (w.setCell ⟨bl, 0, none⟩ (sv s')) bl bp s' p outv := heap_setCell_same w bl 0 _ _ _ h
theorem LexAt.set4 {w : World} {bl bp : Nat} {s : Bt} {p : Nat × Nat} {outv : Value} (h : LexAt w bl bp s p outv) (v : Value) : LexAt (w.setCell ⟨bl, 4, none⟩ v) bl bp s p v := heap_setCell_same w bl 4 _ _ _ h

set_option maxRecDepth 100000 in
set_option maxHeartbeats 1000000 in
theorem pass_any (w : World) (bl bp : Nat) (s : Bt) (p : Nat × Nat) (outv : Value) (n : Nat) (hL : LexAt w bl bp s p outv) (hn : n ≤ s.length) (hs : s.length ≤ 100000) (hp : p.1 ≤ 1000000 ∧ p.2 ≤ 1000000) :
    Calls Tryz.prog 64 #[.pointer (some ⟨bl, 0, none⟩), .int .i64 (n : Nat)] w fun e w' =>
      e = .returned (.tuple #[]) ∧ LexAt w' bl bp (s.drop n) (advL p (s.take n)) outv ∧ Turn (fun k => k = bl) w w' := by
  have hsz := sv_size s
  have c0 := hL.c0
  obtain ⟨C, w5, hconv, ht5, hlt5, hcells⟩ := conv_take (P := Tryz.prog) w 9 74 5 Tryz.underlying9 Tryz.underlying74 Tryz.underlying5 s n hn
  have hL5 := hL.turn ht5 id
  have hbl := hL.lt
  have HC := hid hcells
  clear hcells
  go_enter Tryz.func64, Tryz.ntmps64
  go_wp2_with fail
  go_loopw [14] (fun v14 wr => ∃ k : Nat, v14 = .int .i64 k ∧ k ≤ n ∧ LexAt wr bl bp s (advL p (s.take k)) outv ∧ Turn (fun k => k = bl) w5 wr) (fun v14 _ => n - (intOf v14).toNat)
  case atStart => exact ⟨0, rfl, by omega, hL5, Turn.refl _ _⟩
  case round =>
    obtain ⟨k, rfl, hk, hLr, htr⟩ := hrel
    have hq := advL_le p (s.take k)
    have hkl : (s.take k).length ≤ k := by simp; omega
    by_cases hlt : k < n
    · have hnext := advL_take (p := p) (show k < s.length by omega)
      have d1 := ss_cell' htr hlt5 (by omega) (HC.out k hlt)
      generalize advL p (s.take k) = q at *
      generalize s[k] = X at *
      have c1 := hLr.c1
      have c2 := hLr.c2
      have f1 := hLr.free 1
      have f2 := hLr.free 2
      have hb : q.1 < 2000000 ∧ q.2 < 2000000 := by omega
      have HNX := hid hnext
      clear hnext hq hL hL5 c0 hconv
      by_cases hX : X.toNat = 10
      · have hl1 := ((hLr.set2 (q.2 + 1)).set1 (q.1 + 1)).set2 1
        have ht1 := ((htr.trans (turn_set _ bl 2 (.int .i64 ((q.2 + 1 : Nat) : Int))) (fun _ _ h => h)).trans (turn_set _ bl 1 (.int .i64 ((q.1 + 1 : Nat) : Int))) (fun _ _ h => h)).trans (turn_set _ bl 2 (.int .i64 ((1 : Nat) : Int))) (fun _ _ h => h)
        have e1 : advB q X = (q.1 + 1, 1) := by unfold advB; rw [if_pos hX]
        have HL1 := hid hl1
        have HT1 := hid ht1
        have HE := hid e1
        clear hLr htr hl1 ht1 e1
        go_wp2_with fail
        go_roundw
        case rel => exact ⟨k + 1, rfl, by omega, by rw [HNX.out, HE.out]; exact HL1.out, HT1.out⟩
        case measure => simp [intOf]; omega
      · have hl1 := hLr.set2 (q.2 + 1)
        have ht1 := htr.trans (turn_set _ bl 2 (.int .i64 ((q.2 + 1 : Nat) : Int))) (fun _ _ h => h)
        have e1 : advB q X = (q.1, q.2 + 1) := by unfold advB; rw [if_neg hX]
        have HL1 := hid hl1
        have HT1 := hid ht1
        have HE := hid e1
        clear hLr htr hl1 ht1 e1
        go_wp2_with fail
        go_roundw
        case rel => exact ⟨k + 1, rfl, by omega, by rw [HNX.out, HE.out]; exact HL1.out, HT1.out⟩
        case measure => simp [intOf]; omega
    · obtain rfl : k = n := by omega
      have c0r := hLr.c0
      have f0 := hLr.free 0
      have hl1 := hLr.set0 (s.drop k)
      have ht1 := ((ht5.mono (G := fun k => k = bl) (fun _ _ h => h.elim)).trans htr (fun _ _ h => h)).trans (turn_set _ bl 0 (sv (s.drop k))) (fun _ _ h => h)
      have he : Value.string (ByteArray.extract ⟨s.toArray⟩ k s.length) = sv (s.drop k) := by rw [extract_sv, List.take_length]
      have HL1 := hid hl1
      have HT1 := hid ht1
      clear hL hL5 hLr htr ht5 hl1 ht1 hq c0 hconv
      go_wp2_with fail
      go_end0
      exact ⟨rfl, HL1.out, HT1.out⟩
end Go.Proofs.YtbpedjkebemhnaaGreatDoor

/- How a lexer goes over blanks. -/
set_option linter.unusedVariables false
namespace Go.Proofs.YtbpedjkebemhnaaGreatDoor
open Go.RowKit

theorem skipOne_le (s : Bt) : skipOne s ≤ s.length := by
  unfold skipOne
  have h1 := rowL_le blankB s
  split
  · have h2 := rowL_le notLine (s.drop (rowL blankB s))
    rw [List.length_drop] at h2; omega
  · omega
theorem blank_step (s : Bt) (p : Nat × Nat) : s.drop (skipL s) = (s.drop (skipOne s)).drop (skipL (s.drop (skipOne s))) ∧ advL p (s.take (skipL s)) = advL (advL p (s.take (skipOne s))) ((s.drop (skipOne s)).take (skipL (s.drop (skipOne s)))) := by
  have h := skip_one s
  generalize skipL (s.drop (skipOne s)) = m at *
  rw [h]
  refine ⟨by rw [List.drop_drop], ?_⟩
  rw [List.take_add, advL_append]

def textOf (w : World) (bl : Nat) : Nat := match w.cell? ⟨bl, 0, none⟩ with | some (.string b) => b.size | _ => 0
theorem textOf_at {w : World} {bl bp : Nat} {s : Bt} {p : Nat × Nat} {outv : Value} (h : LexAt w bl bp s p outv) : textOf w bl = s.length := by
  unfold textOf; rw [h.c0]; exact sv_size s

/-- What the round over blanks keeps. -/
def BlankRel (w : World) (bl bp : Nat) (s : Bt) (p : Nat × Nat) (outv : Value) (wr : World) : Prop :=
  ∃ (c : Bt) (q : Nat × Nat), LexAt wr bl bp c q outv ∧ Turn (fun k => k = bl) w wr ∧ c.length ≤ s.length ∧ s.drop (skipL s) = c.drop (skipL c) ∧ advL p (s.take (skipL s)) = advL q (c.take (skipL c)) ∧
    q.1 + c.length ≤ p.1 + s.length ∧ q.2 + c.length ≤ p.2 + s.length ∧ 1 ≤ q.2

theorem advL_le2 {p : Nat × Nat} (s : Bt) (h : 1 ≤ p.2) : (advL p s).1 ≤ p.1 + s.length ∧ (advL p s).2 ≤ p.2 + s.length ∧ 1 ≤ (advL p s).2 := by
  induction s generalizing p with
  | nil => exact ⟨Nat.le_refl _, Nat.le_refl _, h⟩
  | cons c s ih =>
    have h0 : advL p (c :: s) = advL (advB p c) s := rfl
    rw [h0]
    have h1 : (advB p c).1 ≤ p.1 + 1 ∧ (advB p c).2 ≤ p.2 + 1 ∧ 1 ≤ (advB p c).2 := by
      unfold advB; split
      · exact ⟨Nat.le_refl _, by show 1 ≤ _; omega, Nat.le_refl _⟩
      · exact ⟨Nat.le_succ _, Nat.le_refl _, by show 1 ≤ _ + 1; omega⟩
    obtain ⟨a, b, d⟩ := ih h1.2.2
    simp only [List.length_cons]
    omega
theorem BlankRel.step {w wr w2 : World} {bl bp : Nat} {s c : Bt} {p q : Nat × Nat} {outv : Value} (htr : Turn (fun k => k = bl) w wr) (hcl : c.length ≤ s.length) (hd : s.drop (skipL s) = c.drop (skipL c)) (ha : advL p (s.take (skipL s)) = advL q (c.take (skipL c)))
    (hq1 : q.1 + c.length ≤ p.1 + s.length) (hq2 : q.2 + c.length ≤ p.2 + s.length) (hq3 : 1 ≤ q.2) (h : LexAt w2 bl bp (c.drop (skipOne c)) (advL q (c.take (skipOne c))) outv) (ht : Turn (fun k => k = bl) wr w2) (h0 : 0 < skipOne c) :
    BlankRel w bl bp s p outv w2 ∧ textOf w2 bl < c.length := by
  obtain ⟨e1, e2⟩ := blank_step c q
  have hone := skipOne_le c
  have hl := advL_le2 (c.take (skipOne c)) hq3
  rw [List.length_take, Nat.min_eq_left hone] at hl
  refine ⟨⟨_, _, h, htr.trans ht (fun _ _ h => h), ?_, hd.trans e1, ha.trans e2, ?_, ?_, hl.2.2⟩, ?_⟩
  · rw [List.length_drop]; omega
  · rw [List.length_drop]; omega
  · rw [List.length_drop]; omega
  · rw [textOf_at h, List.length_drop]; omega

set_option maxRecDepth 100000 in
set_option maxHeartbeats 1000000 in
theorem blanks_any (w : World) (bl bp : Nat) (s : Bt) (p : Nat × Nat) (outv : Value) (hL : LexAt w bl bp s p outv) (hs : s.length ≤ 100000) (hp : p.1 ≤ 700000 ∧ p.2 ≤ 700000) (hp1 : 1 ≤ p.2) :
    Calls Tryz.prog 62 #[.pointer (some ⟨bl, 0, none⟩)] w fun e w' =>
      e = .returned (.tuple #[]) ∧ LexAt w' bl bp (s.drop (skipL s)) (advL p (s.take (skipL s))) outv ∧ Turn (fun k => k = bl) w w' := by
  go_enter Tryz.func62, Tryz.ntmps62
  go_wp2_with fail
  go_loopw [2] (fun _ wr => BlankRel w bl bp s p outv wr) (fun _ wr => textOf wr bl)
  case atStart => exact ⟨s, p, hL, Turn.refl _ _, Nat.le_refl _, rfl, rfl, Nat.le_refl _, Nat.le_refl _, hp1⟩
  case round =>
    obtain ⟨c, q, hLr, htr, hcl, hd, ha, hq1, hq2, hq3⟩ := hrel
    have hlen := textOf_at hLr
    have c0 := hLr.c0
    have hsz := sv_size c
    have hrow := rowL_le blankB c
    have HSTEP := hid (fun w2 h ht h0 => BlankRel.step (w2 := w2) (bp := bp) (outv := outv) htr hcl hd ha hq1 hq2 hq3 h ht h0)
    have hz : skipOne c = 0 → LexAt wr bl bp (s.drop (skipL s)) (advL p (s.take (skipL s))) outv := by
      intro h
      rw [hd, ha, skip_zero h]
      exact hLr
    have HZ := hid hz
    have HL := hid hLr
    have HLEN := hid hlen
    have HT := hid htr
    have he : Value.string (ByteArray.extract ⟨c.toArray⟩ (rowL blankB c) c.length) = sv (c.drop (rowL blankB c)) := by rw [extract_sv, List.take_length]
    have hone : skipOne c = rowL blankB c + (if ((c.drop (rowL blankB c)).head?).map UInt8.toNat = some 35 then rowL notLine (c.drop (rowL blankB c)) else 0) := rfl
    have hle := skipOne_le c
    have hdl : (c.drop (rowL blankB c)).length = c.length - rowL blankB c := List.length_drop
    clear hd ha hz hLr htr hlen
    go_wp2_with fail
    refine (row_blank c _ (by omega)).mono ?_
    rintro e w1 ⟨rfl, rfl⟩
    generalize hn : rowL blankB c = n at *
    generalize hr : c.drop n = r at *
    have HDL := hid hdl
    clear hdl
    cases r with
    | nil =>
      simp only [List.head?_nil, Option.map_none, reduceCtorEq, if_false, Nat.add_zero] at hone
      by_cases h0 : n = 0
      · have hfin := HZ.out (by omega)
        have HFIN := hid hfin
        clear hfin
        subst h0
        go_wp2_with fail
        (try simp only [Exit.inBlock, Exit.then]); refine bodyPost_ret (results_none rfl _ _ _) rfl ?_
        exact ⟨rfl, HFIN.out, HT.out⟩
      · have h0' : ¬ ((n : Nat) : Int) = 0 := by omega
        go_wp2_with fail
        refine (pass_any w1 bl bp c q outv n HL.out (by omega) (by omega) (by omega)).mono ?_
        rintro e w2 ⟨rfl, hl2, ht2⟩
        obtain ⟨hrel2, hm2⟩ := HSTEP.out w2 (by rw [hone]; exact hl2) ht2 (by omega)
        have HREL2 := hid hrel2
        have HM2 := hid hm2
        clear hrel2 hm2 hl2 ht2
        go_wp2_with fail
        go_roundw
        case rel => exact HREL2.out
        case measure => have := HLEN.out; have := HM2.out; omega

    | cons d tl =>
      simp only [List.head?_cons, Option.map_some, Option.some.injEq] at hone
      have hix : (ByteArray.mk (d :: tl).toArray)[0]'(by rw [sv_size]; simp) = d := sv_index (d :: tl) 0 (by simp)
      have hsz2 := sv_size (d :: tl)
      by_cases hd : d.toNat = 35
      · rw [if_pos hd] at hone
        have hn2 := rowL_le notLine (d :: tl)
        have hdl2 : rowL notLine (d :: tl) + n ≤ c.length := by have := HDL.out; omega
        have hn3 : 1 ≤ rowL notLine (d :: tl) := rowL_pos (by unfold notLine; simp [hd])
        go_wp2_with fail
        refine (row_notline (d :: tl) _ (by have := HDL.out; omega)).mono ?_
        rintro e w1 ⟨rfl, rfl⟩
        generalize rowL notLine (d :: tl) = n2 at *
        have h0' : ¬ ((n : Int) + (n2 : Int)) = 0 := by omega
        have e12 : (n : Int) + (n2 : Int) = ((n + n2 : Nat) : Int) := by omega
        have E12 := hid e12
        clear e12
        go_wp2_with fail
        have e12 := E12.out
        try rw [e12]
        refine (pass_any w1 bl bp c q outv (n + n2) HL.out (by omega) (by omega) (by omega)).mono ?_
        rintro e w2 ⟨rfl, hl2, ht2⟩
        obtain ⟨hrel2, hm2⟩ := HSTEP.out w2 (by rw [hone]; exact hl2) ht2 (by omega)
        have HREL2 := hid hrel2
        have HM2 := hid hm2
        clear hrel2 hm2 hl2 ht2 e12
        go_wp2_with fail
        go_roundw
        case rel => exact HREL2.out
        case measure => have := HLEN.out; have := HM2.out; omega
      · rw [if_neg hd, Nat.add_zero] at hone
        by_cases h0 : n = 0
        · have hfin := HZ.out (by omega)
          have HFIN := hid hfin
          clear hfin
          subst h0
          go_wp2_with fail
          (try simp only [Exit.inBlock, Exit.then]); refine bodyPost_ret (results_none rfl _ _ _) rfl ?_
          exact ⟨rfl, HFIN.out, HT.out⟩
        · have h0' : ¬ ((n : Nat) : Int) = 0 := by omega
          go_wp2_with fail
          refine (pass_any w1 bl bp c q outv n HL.out (by omega) (by omega) (by omega)).mono ?_
          rintro e w2 ⟨rfl, hl2, ht2⟩
          obtain ⟨hrel2, hm2⟩ := HSTEP.out w2 (by rw [hone]; exact hl2) ht2 (by omega)
          have HREL2 := hid hrel2
          have HM2 := hid hm2
          clear hrel2 hm2 hl2 ht2
          go_wp2_with fail
          go_roundw
          case rel => exact HREL2.out
          case measure => have := HLEN.out; have := HM2.out; omega
end Go.Proofs.YtbpedjkebemhnaaGreatDoor
end
