/- The contracts of word's Show and Parse. -/
import Derived.Test.YtbpedjkebemhnaaGreatDoorGA
import Derived.WalkKit
import Derived.WalkSpells
import Derived.WalkLawsBesides
import Derived.RegionTactic
import Derived.Deep.QuietTactic
import Derived.Test.YtbpedjkebemhnaaGreatDoorGA
import Derived.Test.YtbpedjkebemhnaaGreatDoorGA
import Derived.Test.YtbpedjkebemhnaaGreatDoorShelf
set_option linter.unusedVariables false
namespace Go.Proofs.YtbpedjkebemhnaaGreatDoor
open Go.RowKit

theorem below_grow (w : World) (k : Nat) (os : Array Obj) : Below w.heap.size w (Sort.grow (w.drewN k) os) :=
  ⟨rfl, rfl, rfl, by simp [Sort.grow], fun i hi => by simp only [Sort.grow, World.heap_drewN]; rw [Array.getElem?_append, if_pos hi]⟩

/-- The bytes of a text, by either name. -/
theorem blist (s : ByteArray) : s.toList = s.data.toList := ByteArray.toList_eq s

/-- What the listed variables of the library hold. -/
structure LaidW (w : World) : Prop where
  tab : Lib.TabIs Tryz.prog w "internal/strconv.uint64pow10" .u64 Lib.pow10Tab
  syn : ∃ tp p, w.var? Tryz.prog "strconv.ErrSyntax" = some #[.iface tp p]
  rng : ∃ tp p, w.var? Tryz.prog "strconv.ErrRange" = some #[.iface tp p]
theorem var_below {w w' : World} {name : String} {cs : Array Value} (h : w.var? Tryz.prog name = some cs) (hb : Below w.heap.size w w') : w'.var? Tryz.prog name = some cs := by
  unfold World.var? at h ⊢
  cases hg : Tryz.prog.globalNamed name with
  | none => rw [hg] at h; cases h
  | some g =>
    rw [hg] at h
    simp only [Option.bind_some] at h ⊢
    by_cases hlt : g < w.heap.size
    · rw [hb.block g hlt]; exact h
    · rw [Array.getElem?_eq_none (by omega)] at h; cases h
theorem LaidW.below {w w' : World} (h : LaidW w) (hb : Below w.heap.size w w') : LaidW w' := by
  obtain ⟨h1, ⟨tp, p, h2⟩, ⟨tp', p', h3⟩⟩ := h
  exact ⟨var_below h1 hb, ⟨tp, p, var_below h2 hb⟩, ⟨tp', p', var_below h3 hb⟩⟩
theorem LaidW.drewN {w : World} (h : LaidW w) (n : Nat) : LaidW (w.drewN n) := h.below ⟨rfl, rfl, rfl, Nat.le_refl _, fun _ _ => rfl⟩


set_option maxHeartbeats 400000 in
theorem show_tab (n : Int) (w : World) (hn : In64 n) (htab : Lib.TabIs Tryz.prog w "internal/strconv.uint64pow10" .u64 Lib.pow10Tab) :
    Calls Tryz.prog 121 #[.int .i64 n] w fun e w' => e = .returned (sv (Lib.itoa n)) ∧ Below w.heap.size w w' := by
  go_enter Tryz.func121, Tryz.ntmps121
  go_wp2_with (go_at_call 144; refine (Tryz.strconv_Itoa n hn.1 hn.2 _ htab).mono ?_; rintro e w' ⟨rfl, k, os, rfl⟩)
  go_ret
  exact ⟨rfl, below_grow _ _ _⟩
theorem show_any (n : Int) (w : World) (hn : In64 n) (hL : LaidW w) :
    Calls Tryz.prog 121 #[.int .i64 n] w fun e w' => e = .returned (sv (Lib.itoa n)) ∧ Below w.heap.size w w' := show_tab n w hn hL.tab
set_option maxHeartbeats 400000 in
/-- Atoi at every text: the number, and whether there is an error. -/
theorem atoi_any (s : ByteArray) (w : World) (hs : s.size ≤ 281474976710656) (hL : LaidW w) :
    Calls Tryz.prog 152 #[.string s] w fun e w' => ∃ v x, e = .returned (.tuple #[.int .i64 v, x]) ∧ Below w.heap.size w w' ∧
      ((Lib.atoiAll s.data.toList = .ok v ∧ x = .nilIface) ∨ ((∀ u, Lib.atoiAll s.data.toList ≠ .ok u) ∧ ∃ t y, x = .iface t y)) := by
  obtain ⟨_, ⟨tp, p, h2⟩, ⟨tp', p', h3⟩⟩ := hL
  rcases h : Lib.atoiAll s.data.toList with v | _ | _
  · refine (Tryz.strconv_Atoi_ok s (by omega) v h w).mono ?_
    rintro e w' ⟨rfl, hw⟩
    refine ⟨v, _, rfl, ?_, .inl ⟨rfl, rfl⟩⟩
    rcases hw with rfl | ⟨t, rfl⟩
    · exact Below.refl _ _
    · exact Lib.bytesWorld_below w _ t
  · refine (Tryz.strconv_Atoi_syntax_var s hs h tp p w h2).mono ?_
    rintro e w' ⟨N, rfl, _, _, hb⟩
    exact ⟨_, _, rfl, hb, .inr ⟨fun u hu => (by cases hu), _, _, rfl⟩⟩
  · refine (Tryz.strconv_Atoi_range_var s hs h tp' p' w h3).mono ?_
    rintro e w' ⟨N, rfl, _, _, hb⟩
    exact ⟨_, _, rfl, hb, .inr ⟨fun u hu => (by cases hu), _, _, rfl⟩⟩

theorem parse_bad {l : List UInt8} (h : ∀ u, Lib.atoiAll l ≠ .ok u) : parseV l = (0, false) := by
  rw [parse_of_atoi]
  cases ha : Lib.atoiAll l with
  | ok u => exact absurd ha (h u)
  | _ => rfl
theorem parse_neg {l : List UInt8} {v : Int} (h : Lib.atoiAll l = .ok v) (h0 : v < 0) : parseV l = (0, false) := by
  rw [parse_of_atoi, h]; dsimp only; rw [if_pos (.inl h0)]
theorem parse_else {l : List UInt8} {v : Int} (h : Lib.atoiAll l = .ok v) (h0 : Lib.itoa v ≠ l) : parseV l = (0, false) := by
  rw [parse_of_atoi, h]; dsimp only; rw [if_pos (.inr h0)]
theorem parse_good {l : List UInt8} {v : Int} (h : Lib.atoiAll l = .ok v) (h0 : 0 ≤ v) (h1 : Lib.itoa v = l) : parseV l = (v, true) := by
  rw [parse_of_atoi, h]; dsimp only; rw [if_neg]
  rintro (h | h)
  · omega
  · exact h h1
theorem ret_ib {a c : Int} {b d : Bool} (h : (a, b) = (c, d)) : Ending.returned (.tuple #[.int .i64 a, .bool b]) = .returned (.tuple #[.int .i64 c, .bool d]) := by
  cases h; rfl

set_option maxHeartbeats 400000 in
theorem parse_any (s : ByteArray) (w : World) (hs : s.size ≤ 281474976710656) (hL : LaidW w) :
    Calls Tryz.prog 134 #[.string s] w fun e w' => e = .returned (.tuple #[.int .i64 (parseV s.data.toList).1, .bool (parseV s.data.toList).2]) ∧ Below w.heap.size w w' := by
  go_enter Tryz.func134, Tryz.ntmps134
  go_wp2_with fail
  refine (atoi_any s _ hs hL).mono ?_
  rintro e w1 ⟨v, x, rfl, hb1, hx⟩
  have hL1 := hL.below hb1
  rcases hx with ⟨ha, rfl⟩ | ⟨ha, t, y, rfl⟩
  · by_cases h0 : v < 0
    · have HV := hid (parse_neg ha h0)
      clear ha
      go_wp2_with fail
      go_ret2
      exact ⟨ret_ib (by rw [HV.out]), hb1⟩
    · have hv : In64 v := by
        have := atoi_lt ha
        unfold In64; omega
      have HA := hid ha
      clear ha
      go_wp2_with (go_at_call 121; refine (show_any v _ hv hL1).mono ?_; rintro e w2 ⟨rfl, hb2⟩)
      · rename_i h
        have hne : Lib.itoa v ≠ s.data.toList := by
          rcases h with h | h
          · omega
          · simpa [blist] using h
        go_ret2
        exact ⟨ret_ib (by rw [parse_else HA.out hne]), hb1.trans (hb2.mono hb1.size)⟩
      · rename_i h
        have he : Lib.itoa v = s.data.toList := by simpa [blist] using h.2
        go_ret2
        exact ⟨ret_ib (by rw [parse_good HA.out h.1 he]), hb1.trans (hb2.mono hb1.size)⟩
  · have HV := hid (parse_bad ha)
    clear ha
    go_wp2_with fail
    go_ret2
    exact ⟨ret_ib (by rw [HV.out]), hb1⟩
end Go.Proofs.YtbpedjkebemhnaaGreatDoor
