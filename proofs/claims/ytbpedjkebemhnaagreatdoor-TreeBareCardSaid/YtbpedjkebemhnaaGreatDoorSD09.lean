/- YV, YH, MA, ShelfB, YF -/
import Derived.Test.YtbpedjkebemhnaaGreatDoorSD02
import Derived.Test.YtbpedjkebemhnaaGreatDoorSD03
import Derived.Test.YtbpedjkebemhnaaGreatDoorSD06
import Derived.Test.YtbpedjkebemhnaaGreatDoorSD08
import Derived.Deep.MidRow
import Derived.Test.YtbpedjkebemhnaaGreatDoorSD01
import Derived.Lib.AppendStr
import Derived.Shelf.Strings.Builder1
import Derived.Shelf.Strings.Builder2
import Derived.Shelf.Strings.OnBuilder
import Derived.Shelf.Small.Bits
import Derived.Shelf.Small.Strs
import Derived.Shelf.Strings.BuilderF
import Derived.Shelf.Strings.BuilderK
import Derived.Shelf.Strconv.Atoi
import Derived.Shelf.Strconv.Itoa0
import Derived.Shelf.Strconv.Itoa1
import Derived.Shelf.LaysM
import Derived.Shelf.Strconv.Itoa2
import Derived.Shelf.Strconv.Itoa3
import Derived.Shelf.Strconv.AtoiErrFast
import Derived.Shelf.Strconv.ParseIntEmpty
import Derived.Shelf.Strconv.AtoiFail
import Derived.Shelf.Strconv.Clone
import Derived.Shelf.Strconv.SyntaxError
import Derived.Shelf.LaysC
import Derived.Shelf.Strconv.ToError
import Derived.Shelf.Strconv.Lower
import Derived.Shelf.Strconv.ParseUint10
import Derived.Shelf.Strconv.ParseUint10Empty
import Derived.Shelf.Strconv.ParseUint10Any
import Derived.Shelf.Strconv.ParseInt10
import Derived.Shelf.Strconv.AtoiLong
import Derived.Shelf.Strconv.AtoiInnerAll
import Derived.Shelf.Strconv.RangeError
import Derived.Shelf.Strconv.ToErrorRange
import Derived.Shelf.Strconv.AtoiAll
import Derived.Shelf.Strconv.ErrVarAll
import Derived.Shelf.Strings.Search1
import Derived.Shelf.Strings.Search2
import Derived.Shelf.Strings.Search3
import Derived.Shelf.Strings.Count
import Derived.Shelf.Strings.Shaped
import Derived.Shelf.GgClosure.StringsIndexFunc
import Derived.Shelf.Strings.Split
import Derived.Shelf.Strings.Fields
import Derived.Shelf.Strings.SplitShaped
import Derived.Shelf.Unicode.Latin
import Derived.Shelf.Unicode.Is16White
import Derived.Shelf.Unicode.IsSpaceAny
import Derived.Shelf.Unicode.Is16WhiteD
import Derived.Shelf.Unicode.IsSpaceAnyD
import Derived.Shelf.Strings.FieldsAny
import Derived.Shelf.Strings.FieldsFuncAny
import Derived.Shelf.Unicode.Is16Any
import Derived.Shelf.Unicode.Is32Any
import Derived.Shelf.Unicode.ExclAny
import Derived.Shelf.Slices.Turned
import Derived.Test.YtbpedjkebemhnaaGreatDoorProg
set_option linter.unusedSimpArgs false
set_option linter.unusedVariables false
section
/- An expression without places: tree.bare. -/
set_option linter.unusedVariables false
namespace Go.Proofs.YtbpedjkebemhnaaGreatDoor
open Go.RowKit

theorem no_one {w : World} {F : Nat → Prop} {x : List Value} {t : NoD} (h : NoG w F x t) : ∀ u ∈ x, u.oneCell' = true := by
  cases h with
  | mk h1 h2 h3 h4 h5 =>
    obtain ⟨A1, n1, c1, rfl, _⟩ := h1
    obtain ⟨A2, n2, c2, rfl, _⟩ := h3
    obtain ⟨A3, n3, c3, rfl, _⟩ := h4
    intro u hu
    simp only [List.mem_cons, List.not_mem_nil, or_false] at hu
    rcases hu with rfl | rfl | rfl | rfl | rfl | rfl | rfl | rfl <;> rfl
theorem nos_one {w : World} {F : Nat → Prop} : ∀ {x : List Value} {l : List NoD}, NosG w F x l → ∀ u ∈ x, u.oneCell' = true
  | _, _, .nil => by simp
  | _, _, .cons h1 h2 => by
    intro u hu
    rcases List.mem_append.1 hu with h | h
    · exact no_one h1 u h
    · exact nos_one h2 u h
/-- Cells that lie in a row, after some of them were stored anew. -/
theorem range_put {w : World} {g i : Nat} {zs cs : List Value} (h : w.rangeAt g 0 zs) (ht : w.there g 0 zs.length) (hi : i + cs.length ≤ zs.length) :
    (w.setCells g i cs).rangeAt g 0 (zs.take i ++ cs ++ zs.drop (i + cs.length)) := by
  intro j v hv
  have hl : (zs.take i).length = i := by rw [List.length_take]; omega
  rw [List.append_assoc] at hv
  by_cases h1 : j < i
  · rw [List.getElem?_append_left (by omega), List.getElem?_take, if_pos h1] at hv
    rw [World.cell?_setCells_out g cs i w ⟨g, 0 + j, none⟩ (fun _ _ => .inl (by show 0 + j < i; omega))]
    exact h j v hv
  · rw [List.getElem?_append_right (by omega), hl] at hv
    by_cases h2 : j < i + cs.length
    · rw [List.getElem?_append_left (by omega)] at hv
      have := World.cell?_setCells_in g cs i w (fun q hq => by have := (ht (i + q) (by omega)).1; simpa using this) (j - i) (by omega)
      rw [show i + (j - i) = 0 + j by omega] at this
      rw [this, ← hv, List.getElem?_eq_getElem (by omega)]
    · rw [List.getElem?_append_right (by omega), List.getElem?_drop] at hv
      rw [World.cell?_setCells_out g cs i w ⟨g, 0 + j, none⟩ (fun _ _ => .inr (by show i + cs.length ≤ 0 + j; omega))]
      exact h j v (by rw [← hv]; congr 1; omega)
theorem turn_sets (b : Nat) : ∀ (cs : List Value) (i : Nat) (w : World), Turn (fun k => k = b) w (w.setCells b i cs)
  | [], _, w => Turn.refl _ w
  | v :: r, i, w => by rw [World.setCells]; exact (turn_set w b i v).trans (turn_sets b r (i + 1) _) fun _ _ h => h
theorem row_there {w : World} {g : Nat} {cs : Array Value} {t : TypeId} (hg : w.heap[g]? = some (.cells cs t (0, 0))) {n : Nat} (hn : n ≤ cs.size) : w.there g 0 n := fun j hj => by
  refine ⟨?_, frozen_of_row _ _ _ _ _ hg⟩
  rw [cell_of_row _ _ _ _ _ (0, 0) hg]
  simp; omega
theorem there_turn {w w' : World} {G : Nat → Prop} {g o n : Nat} (h : w.there g o n) (t : Turn G w w') (hd : ¬ G g) : w'.there g o n := fun j hj => by
  obtain ⟨h1, h2⟩ := h j hj
  obtain ⟨u, hu⟩ := Option.isSome_iff_exists.1 h1
  have hb := t.block (World.block_lt_of_cell? w _ hu) hd
  exact ⟨by simp only [World.cell?, hb] at h1 ⊢; exact h1, (World.frozen?_of_block (a := ⟨g, o + j, none⟩) hb).trans h2⟩
theorem there_off {w : World} {g i m : Nat} (h : w.there g 0 (m * 8)) (hi : i < m) : w.there g (i * 8) 8 := fun j hj => by
  have := h (i * 8 + j) (by omega)
  rwa [Nat.zero_add] at this
theorem range_turn {w w' : World} {G : Nat → Prop} {g o : Nat} {cs : List Value} (h : w.rangeAt g o cs) (t : Turn G w w') (hd : ¬ G g) : w'.rangeAt g o cs := fun j v hv => by
  have h1 := h j v hv
  have hb := t.block (World.block_lt_of_cell? w _ h1) hd
  simp only [World.cell?, hb] at h1 ⊢; exact h1
/-- Of a row of one's own: where it lies, what is there. -/
theorem own_range {w : World} {base : Nat} {e : TypeId} {k : Nat} {v : Value} {n : Nat} {xs : List Value} (h : w.ownsRow base e k v n xs) (hbase : base ≤ w.heap.size) :
    ∃ A c g, v = .slice A n c ∧ n ≤ c ∧ c ≤ maxLen ∧ base ≤ g ∧ (0 < n → A = some ⟨g, 0, none⟩ ∧ g < w.heap.size) ∧ w.rangeAt g 0 xs ∧ w.there g 0 xs.length := by
  obtain ⟨hl, ⟨hv, h0⟩ | ⟨g, cap, cur, hv, hb, hg, hc, hm, hs, ht⟩⟩ := h
  · subst h0
    obtain rfl : xs = [] := List.eq_nil_of_length_eq_zero (by omega)
    exact ⟨none, 0, base, hv, Nat.le_refl _, Nat.zero_le _, Nat.le_refl _, fun h => absurd h (by omega), fun j u hu => by simp at hu, fun j hj => absurd hj (by simp)⟩
  · have hlen : xs.length ≤ cur.size := by rw [hl, hs]; exact Nat.mul_le_mul_right _ hc
    refine ⟨_, cap, g, hv, hc, hm, hb, fun _ => ⟨rfl, block_lt hg⟩, fun j u hu => ?_, row_there hg hlen⟩
    rw [cell_of_row _ _ _ _ _ (0, 0) hg, Nat.zero_add, ← Array.getElem?_toList]
    have hj : j < xs.length := (List.getElem?_eq_some_iff.1 hu).1
    rw [← ht, List.getElem?_take, if_pos (by omega)] at hu
    exact hu
theorem turn_cell {w w' : World} {G : Nat → Prop} {b o : Nat} {v : Value} (h : w.cell? ⟨b, o, none⟩ = some v) (t : Turn G w w') (hd : ¬ G b) : w'.cell? ⟨b, o, none⟩ = some v := by
  have hb := t.block (World.block_lt_of_cell? w _ h) hd
  simp only [World.cell?, hb] at h ⊢; exact h
theorem turn_cell8 {w w' : World} {G : Nat → Prop} {b : Nat} {o0 o1 o2 o3 o4 o5 o6 o7 : Nat} {v0 v1 v2 v3 v4 v5 v6 v7 : Value} (d0 : w.cell? ⟨b, o0, none⟩ = some v0) (d1 : w.cell? ⟨b, o1, none⟩ = some v1) (d2 : w.cell? ⟨b, o2, none⟩ = some v2) (d3 : w.cell? ⟨b, o3, none⟩ = some v3) (d4 : w.cell? ⟨b, o4, none⟩ = some v4) (d5 : w.cell? ⟨b, o5, none⟩ = some v5) (d6 : w.cell? ⟨b, o6, none⟩ = some v6) (d7 : w.cell? ⟨b, o7, none⟩ = some v7) (t : Turn G w w') (hd : ¬ G b) :
    w'.cell? ⟨b, o0, none⟩ = some v0 ∧ w'.cell? ⟨b, o1, none⟩ = some v1 ∧ w'.cell? ⟨b, o2, none⟩ = some v2 ∧ w'.cell? ⟨b, o3, none⟩ = some v3 ∧ w'.cell? ⟨b, o4, none⟩ = some v4 ∧ w'.cell? ⟨b, o5, none⟩ = some v5 ∧ w'.cell? ⟨b, o6, none⟩ = some v6 ∧ w'.cell? ⟨b, o7, none⟩ = some v7 :=
  ⟨turn_cell d0 t hd, turn_cell d1 t hd, turn_cell d2 t hd, turn_cell d3 t hd, turn_cell d4 t hd, turn_cell d5 t hd, turn_cell d6 t hd, turn_cell d7 t hd⟩
theorem NoG.parts {w : World} {F : Nat → Prop} {x : List Value} {k n line col : Int} {text : Bt} {ts : List TyD} {ns : List Bt} {ks : List NoD} (h : NoG w F x (.mk k text n line col ts ns ks)) :
    ∃ A1 c1 A2 c2 A3 c3 xt xk, x = [.int .i64 k, sv text, .int .i64 n, .int .i64 line, .int .i64 col, .slice A1 ts.length c1, .slice A2 ns.length c2, .slice A3 ks.length c3] ∧ SlG w F 4 (.slice A1 ts.length c1) xt ∧ TysG w F xt ts ∧ SlG w F 1 (.slice A2 ns.length c2) (svs ns) ∧ SlG w F 8 (.slice A3 ks.length c3) xk ∧ NosG w F xk ks := by
  cases h with
  | mk h1 h1r h2 h3 h3r =>
    obtain ⟨A1, c1, rfl⟩ := t_sl_exact h1.all (by omega) (m := ts.length) h1r.all.length
    obtain ⟨A2, c2, rfl⟩ := t_sl_exact h2.all (by omega) (m := ns.length) (by rw [svs_length]; omega)
    obtain ⟨A3, c3, rfl⟩ := t_sl_exact h3.all (by omega) (m := ks.length) h3r.all.length
    exact ⟨A1, c1, A2, c2, A3, c3, _, _, rfl, h1, h1r, h2, h3, h3r⟩
theorem bare_round {F : Nat → Prop} {w wr U w2 : World} {g i m : Nat} {ys xk z2 : List Value} {ks : List NoD} {x : NoD} (hys : NosG wr (fun j => j ≠ g ∧ (F j ∨ w.heap.size + 2 ≤ j)) ys (bareNs (ks.take i))) (tU : Turn (fun j => j = g) wr U) (t2 : Turn (fun j => j = g) U w2) (hz : NoG w2 (fun j => F j ∨ U.drew.heap.size ≤ j) z2 (bareN x)) (hg : w2.rangeAt g 0 (ys ++ xk.drop (i * 8))) (hth : w2.there g 0 (m * 8))
    (hyl : ys.length = i * 8) (hxl : xk.length = m * 8) (hlt : i < m) (hx : ks[i]? = some x) (hF : ∀ j, F j → j < w.heap.size) (hwg : w.heap.size + 2 ≤ g) (hgl : g < wr.heap.size) (sU : U.heap.size = wr.heap.size + 1) :
    NosG (w2.setCells g (i * 8) z2.toArray.toList) (fun j => j ≠ g ∧ (F j ∨ w.heap.size + 2 ≤ j)) (ys ++ z2) (bareNs (ks.take (i + 1))) ∧ (w2.setCells g (i * 8) z2.toArray.toList).rangeAt g 0 ((ys ++ z2) ++ xk.drop ((i + 1) * 8)) := by
  have hl2 : z2.length = 8 := hz.all.len
  have ts := turn_sets g z2.toArray.toList (i * 8) w2
  obtain ⟨hil, hxe⟩ := List.getElem?_eq_some_iff.1 hx
  have e : bareNs (ks.take (i + 1)) = bareNs (ks.take i) ++ [bareN x] := by
    rw [List.take_succ_eq_append_getElem hil, bareNs_map, bareNs_map, List.map_append, hxe]; rfl
  refine ⟨?_, ?_⟩
  · rw [e]
    refine NosG.snoc ?_ ((hys.turn ((tU.trans t2 (fun _ _ h => h)).trans ts (fun _ _ h => h)) (fun j _ h => h.1)))
    have h3 : NoG w2 (fun j => j ≠ g ∧ (F j ∨ w.heap.size + 2 ≤ j)) z2 (bareN x) := hz.mono fun j hj h => by
      rcases h with h | h
      · have := hF j h; exact ⟨by omega, .inl h⟩
      · have h' : U.heap.size ≤ j := h
        exact ⟨by omega, .inr (by omega)⟩
    exact h3.turn ts fun j _ h => h.1
  · have h4 := range_put (cs := z2) (i := i * 8) hg (by
      have : (ys ++ xk.drop (i * 8)).length = m * 8 := by rw [List.length_append, List.length_drop, hyl, hxl]; omega
      rw [this]; exact hth) (by rw [List.length_append, List.length_drop, hyl, hxl, hl2]; omega)
    have e1 : (ys ++ xk.drop (i * 8)).take (i * 8) = ys := by rw [← hyl, List.take_left]
    have e2 : (ys ++ xk.drop (i * 8)).drop (i * 8 + z2.length) = xk.drop ((i + 1) * 8) := by
      rw [← List.drop_drop, ← hyl, List.drop_left, hyl, List.drop_drop, hl2]; congr 1; omega
    rw [e1, e2] at h4
    exact h4
def BareC (x : NoD) : Prop := ∀ (w : World) (z : List Value) (F : Nat → Prop), NoG w F z x → (∀ j, F j → j < w.heap.size) → cntN x ≤ 100000 →
  Calls Tryz.prog 58 #[.agg z.toArray] w fun e w' => ∃ z', e = .returned (.agg z'.toArray) ∧ NoG w' (fun j => F j ∨ w.heap.size ≤ j) z' (bareN x) ∧ Below w.heap.size w w'
set_option maxRecDepth 100000 in
set_option maxHeartbeats 8000000 in
theorem bare_step (k : Int) (text : Bt) (n line col : Int) (ts : List TyD) (ns : List Bt) (ks : List NoD) (H : ∀ t ∈ ks, BareC t) : BareC (.mk k text n line col ts ns ks) := by
  intro w z F h1 hF hc
  obtain ⟨A1, c1, A2, c2, A3, c3, xt, xk, rfl, s1, r1, s2, s3, r3⟩ := h1.parts
  obtain ⟨W, hW⟩ : ∃ W, (w.alloc (.cells #[.int .i64 k, sv text, .int .i64 n, .int .i64 line, .int .i64 col, .slice A1 ts.length c1, .slice A2 ns.length c2, .slice A3 ks.length c3] 26)).alloc (.cells #[.int .i64 0, .string ⟨#[]⟩, .int .i64 0, .int .i64 0, .int .i64 0, .slice none 0 0, .slice none 0 0, .slice none 0 0] 26) = W := ⟨_, rfl⟩
  have hb2 : Below w.heap.size w W := by rw [← hW]; exact ((Below.refl _ _).alloc (Nat.le_refl _) _).alloc (by simp) _
  have hbx := two_new w (.cells #[.int .i64 k, sv text, .int .i64 n, .int .i64 line, .int .i64 col, .slice A1 ts.length c1, .slice A2 ns.length c2, .slice A3 ks.length c3] 26) (.cells #[.int .i64 0, .string ⟨#[]⟩, .int .i64 0, .int .i64 0, .int .i64 0, .slice none 0 0, .slice none 0 0, .slice none 0 0] 26)
  rw [hW] at hbx
  have sW : W.heap.size = w.heap.size + 2 := by rw [← hW]; simp
  have HX := hid hbx.1
  have HY := hid hbx.2
  have HB2 := hid hb2
  have hkl := cntNs_len ks
  rw [cntN] at hc
  have HCL := hid (clone_nodes W _ xk ks.length (Sl.more (Sl.below s3.all hb2) hb2.size) r3.all.length (by omega) (nos_one r3))
  have HS1 := hid s1
  have HR1 := hid r1
  have HS2 := hid s2
  have HR3 := hid r3
  have HH := hid H
  have HF := hid hF
  have HC := hid hc
  have hxl := r3.all.length
  clear h1 s1 s2 s3 r1 r3 hbx hb2 H hF hc
  have x7 := (t_row8 HX.out).2.2.2.2.2.2.2
  go_enter Tryz.func58, Tryz.ntmps58
  go_wp2_with fail
  refine HCL.out.mono ?_
  rintro e w3 ⟨v', n', rfl, hown, hb⟩
  obtain rfl : n' = ks.length := by have := hown.1; omega
  clear x7
  have hx3 := (hb.block _ (block_lt HX.out)).trans HX.out
  have hy3 := (hb.block _ (block_lt HY.out)).trans HY.out
  obtain ⟨x0, x1, x2, x3, x4, x5, x6, x7⟩ := t_row8 hx3
  have z0 : ∀ i, w3.frozen? ⟨w.heap.size, i, none⟩ = false := fun i => frozen_of_row _ _ _ _ _ hx3
  obtain ⟨A9, c9, g, rfl, hc9, hm9, hbg, hA9, hrange, hthere⟩ := own_range hown hb.size
  have sw3 := hb.size
  obtain ⟨m, hm⟩ : ∃ m, ks.length = m := ⟨_, rfl⟩
  rw [hm] at hc9 hA9 hxl
  have HM := hid hm
  have hmb : m ≤ 100000 := by have := HC.out; omega
  obtain ⟨W4, hW4⟩ : ∃ W4, ((w3.setCell ⟨w.heap.size, 3, none⟩ (.int .i64 0)).setCell ⟨w.heap.size, 4, none⟩ (.int .i64 0)).setCell ⟨w.heap.size, 7, none⟩ (.slice A9 m c9) = W4 := ⟨_, rfl⟩
  have hx4 : W4.heap[w.heap.size]? = some (.cells #[.int .i64 k, sv text, .int .i64 n, .int .i64 0, .int .i64 0, .slice A1 ts.length c1, .slice A2 ns.length c2, .slice A9 m c9] 26 (0, 0)) := by
    rw [← hW4]; exact heap_setCell_same _ _ 7 _ _ _ (heap_setCell_same _ _ 4 _ _ _ (heap_setCell_same _ _ 3 _ _ _ hx3))
  have t34 : Turn (fun j => j = w.heap.size) w3 W4 := by
    rw [← hW4]; exact (turn_set _ _ _ _).trans ((turn_set _ _ _ _).trans (turn_set _ _ _ _) (fun _ _ h => h)) (fun _ _ h => h)
  have hy4 := (t34.block (block_lt hy3) (by omega)).trans hy3
  have sw4 := t34.size
  have hgn : g ≠ w.heap.size ∧ g ≠ w.heap.size + 1 := by omega
  have hrange4 := range_turn hrange t34 (by omega)
  have hthere4 := there_turn hthere t34 (by omega)
  have y7 := (t_row8 hx4).2.2.2.2.2.2.2
  -- the whole way from w to the loop
  have hw4 : Below w.heap.size w W4 := (HB2.out.trans (hb.mono HB2.out.size)).trans (t34.below (by have := hb.size; omega) (fun j hj => by omega))
  have HX4 := hid hx4
  have HY4 := hid hy4
  have HR4 := hid hrange4
  have HT4 := hid hthere4
  have HW4 := hid hw4
  rw [hm]
  clear hx3 hy3 hx4 hy4 t34 hb hown hrange hthere hrange4 hthere4 hw4 hm
  go_wp2_with fail
  clear x0 x1 x2 x3 x4 x5 x6 x7 y7 z0
  go_loopw [14] (fun v14 wr => ∃ (i : Nat) (ys : List Value), v14 = .int .i64 i ∧ i ≤ m ∧ NosG wr (fun j => j ≠ g ∧ (F j ∨ w.heap.size + 2 ≤ j)) ys (bareNs (ks.take i)) ∧ wr.rangeAt g 0 (ys ++ xk.drop (i * 8)) ∧ wr.there g 0 (m * 8) ∧ Turn (fun j => j = g) W4 wr) (fun v14 _ => m - (intOf v14).toNat)
  case atStart => exact ⟨0, [], rfl, by omega, .nil, by simpa using HR4.out, by have := HT4.out; rwa [hxl] at this, Turn.refl _ _⟩
  case round =>
    obtain ⟨i, ys, rfl, hi, hys, hrg, hth, htu⟩ := hrel
    have hx5 := (htu.block (block_lt HX4.out) (by omega)).trans HX4.out
    by_cases hlt : i < m
    · obtain ⟨rfl, hgl⟩ := hA9 (by omega)
      have hil : i < ks.length := by rw [HM.out]; exact hlt
      have hz := HR3.out.at i hil
      obtain ⟨k1, s1, a1, a2, a3, P1, m1, e1, P2, m2, e2, P3, m3, e3, hzz⟩ := hz.all.shape
      have hyl : ys.length = i * 8 := by rw [hys.all.length, bareNs_map, List.length_map, List.length_take]; omega
      have hcell : ∀ j v, (#[.int .i64 k1, .string s1, .int .i64 a1, .int .i64 a2, .int .i64 a3, .slice P1 m1 e1, .slice P2 m2 e2, .slice P3 m3 e3] : Array Value).toList[j]? = some v → wr.cell? ⟨g, i * 8 + j, none⟩ = some v := by
        intro j v hv
        have hj : j < 8 := (List.getElem?_eq_some_iff.1 hv).1
        have h2 : ((xk.drop (i * 8)).take 8)[j]? = some v := by rw [hzz]; exact hv
        rw [List.getElem?_take, if_pos hj] at h2
        have := hrg (i * 8 + j) v (by rw [List.getElem?_append_right (by omega), hyl, Nat.add_sub_cancel_left]; exact h2)
        rwa [Nat.zero_add] at this
      have d0 : wr.cell? ⟨g, i * 8, none⟩ = some (.int .i64 k1) := hcell 0 _ rfl
      have d1 := hcell 1 _ rfl
      have d2 := hcell 2 _ rfl
      have d3 := hcell 3 _ rfl
      have d4 := hcell 4 _ rfl
      have d5 := hcell 5 _ rfl
      have d6 := hcell 6 _ rfl
      have d7 := hcell 7 _ rfl
      clear hcell
      have htz := htu.size
      obtain ⟨U, hU⟩ : ∃ U, wr.alloc (.cells #[.int .i64 k1, .string s1, .int .i64 a1, .int .i64 a2, .int .i64 a3, .slice P1 m1 e1, .slice P2 m2 e2, .slice P3 m3 e3] 26) = U := ⟨_, rfl⟩
      have sU : U.heap.size = wr.heap.size + 1 := by rw [← hU]; simp
      have tU : Turn (fun j => j = g) wr U := by rw [← hU]; exact Turn.alloc _ _ _
      have hur : U.heap[wr.heap.size]? = some (.cells #[.int .i64 k1, .string s1, .int .i64 a1, .int .i64 a2, .int .i64 a3, .slice P1 m1 e1, .slice P2 m2 e2, .slice P3 m3 e3] 26 (0, 0)) := by rw [← hU]; exact heap_alloc_new _ _
      have hx6 := (tU.block (block_lt hx5) (by omega)).trans hx5
      have hwl := HW4.out.size
      have hn0 : ¬ w.heap.size = g := by omega
      have hn1 : ¬ wr.heap.size = g := by omega
      have HCC := hid (fun (w1 : World) (h : Turn (fun j => j = g) U w1) => HH.out _ (List.getElem_mem hil) w1 _ F ((((hzz ▸ hz).turn (Turn.of_below (F := fun _ => False) HW4.out) (fun _ _ _ h => h)).turn ((htu.trans tU (fun _ _ h => h)).trans h (fun _ _ h => h)) (fun j _ hj e => by have := HF.out j hj; omega))) (fun j hj => by have := HF.out j hj; have := h.size; omega) (by have := cntN_mem (List.getElem_mem hil); have := HC.out; omega))
      have HTH := hid (there_turn hth (show Turn (fun _ => False) wr U by rw [← hU]; exact Turn.alloc _ _ _) (fun h => h))
      have HRU := hid (range_turn hrg (show Turn (fun _ => False) wr U by rw [← hU]; exact Turn.alloc _ _ _) (fun h => h))
      have Y7 := hid (t_row8 hx6).2.2.2.2.2.2.2
      obtain ⟨p0, p1, p2, p3, p4, p5, p6, p7⟩ := t_row8 hur
      have HP := hid (fun (w1 : World) (h : Turn (fun j => j = g) U w1) => turn_cell8 p0 p1 p2 p3 p4 p5 p6 p7 h hn1)
      have HB0 : Hid (Turn (fun j => j = g) U U.drew) := hid ⟨rfl, rfl, rfl, Nat.le_refl _, fun _ _ _ => rfl⟩
      have HYS := hid hys
      have HRG := hid hrg
      have HTU := hid htu
      have HZ2 := hid tU
      clear p0 p1 p2 p3 p4 p5 p6 p7 hys hrg hth htu tU hur hx5 hx6 hz
      go_wp2_with fail
      refine wp_region_held_drew (S := fun w' => Turn (fun j => j = g) U w') (by kernel_rfl) HB0.out (fun _ => ?_)
      try simp only [Act.put, List.getElem_toArray, List.getElem_cons_zero, List.getElem_cons_succ, List.setIfInBounds_toArray, List.set_cons_zero, List.set_cons_succ]
      refine tk 0 (.pointer (some ⟨w.heap.size, 7, none⟩)) HB0.out ?_
      refine tkf 1 (.slice (some ⟨g, 0, none⟩) m c9) (fun w' h => turn_cell Y7.out h hn0) HB0.out ?_
      refine tk 2 (.int .i64 (i : Int)) HB0.out ?_
      refine tkf 3 (.agg #[.int .i64 k1, .string s1, .int .i64 a1, .int .i64 a2, .int .i64 a3, .slice P1 m1 e1, .slice P2 m2 e2, .slice P3 m3 e3]) (HP.out) HB0.out ?_
      refine wpAnyH_ready (rs := [4]) (by kernel_rfl) (by simp) ?_
      refine AllReadyH.cons rfl (fun K hK => ?_) (AllReadyH.nil)
      go_simp
      refine (HCC.out _ HB0.out).mono ?_
      rintro e w2 ⟨z2, rfl, hz2, hb⟩
      have HT2 : Hid (Turn (fun j => j = g) U w2) := hid (HB0.out.trans (Turn.of_below (F := fun j => j = g) hb) (fun _ _ h => h))
      have HN2 := hid hz2
      have tUF : Turn (fun _ => False) U w2 := (show Turn (fun _ => False) U U.drew from ⟨rfl, rfl, rfl, Nat.le_refl _, fun _ _ _ => rfl⟩).trans (Turn.of_below (F := fun _ => False) hb) (fun _ _ h => h)
      have HW0 := hid (there_turn HTH.out tUF (fun h => h))
      have HG2 := hid (range_turn HRU.out tUF (fun h => h))
      clear hz2 hb tUF
      refine hK.out _ _ HT2.out (fun _ => ?_)
      clear hK K
      try simp only [Act.put, List.getElem_toArray, List.getElem_cons_zero, List.getElem_cons_succ, List.setIfInBounds_toArray, List.set_cons_zero, List.set_cons_succ]
      refine tk 5 (.pointer (some ⟨g, i * 8, none⟩)) HT2.out ?_
      have hl2 : z2.toArray.size = 8 := by simpa using HN2.out.all.len
      refine wpAnyH_ready (rs := [6]) (by kernel_rfl) (by simp) ?_
      refine AllReadyH.cons rfl (fun K hK => ?_) (AllReadyH.nil)
      rw [if_pos (by kernel_rfl)]
      have HW2 := hid (there_off HW0.out hlt)
      have HT3 : Hid (Turn (fun j => j = g) U (w2.setCells g (i * 8) z2.toArray.toList)) := hid (HT2.out.trans (turn_sets g _ _ _) (fun _ _ h => h))
      refine wp_store_mid 26 _ _ rfl g (i * 8) z2.toArray rfl rfl (by rw [hl2]; exact HW2.out) (by rw [hl2]; kernel_rfl) (all_oneCell_toArray (no_one HN2.out)) ?_
      refine hK.out _ _ HT3.out (fun _ => ?_)
      clear hK K
      try simp only [Act.put, List.getElem_toArray, List.getElem_cons_zero, List.getElem_cons_succ, List.setIfInBounds_toArray, List.set_cons_zero, List.set_cons_succ]
      refine wpAnyH_done (by kernel_rfl) ?_ _
      have HTY := hid (World.there_setCells HW0.out g (i * 8) z2.toArray.toList)
      have HFIN := hid (bare_round HYS.out HZ2.out HT2.out HN2.out HG2.out HW0.out hyl hxl hlt (List.getElem?_eq_getElem hil) HF.out (by omega) (by omega) sU)
      have HTW := hid ((HTU.out.trans HZ2.out (fun _ _ h => h)).trans HT3.out (fun _ _ h => h))
      clear HB0 HT2 HN2 HW0 HG2 HT3
      go_wp2_with fail
      go_roundw
      case rel => exact ⟨i + 1, _, rfl, by omega, HFIN.out.1, HFIN.out.2, HTY.out, HTW.out⟩
      case measure => simp [intOf]; omega
    · obtain rfl : i = m := by omega
      have hy5 := (htu.block (block_lt HY4.out) (by omega)).trans HY4.out
      obtain ⟨x0, x1, x2, x3, x4, x5, x6, x7⟩ := t_row8 hx5
      obtain ⟨y0, y1, y2, y3, y4, y5, y6, y7⟩ := t_row8 hy5
      have z0 : ∀ j, wr.frozen? ⟨w.heap.size + 1, j, none⟩ = false := fun j => frozen_of_row _ _ _ _ _ hy5
      have hwl := HW4.out.size
      rw [List.drop_of_length_le (by omega), List.append_nil] at hrg
      rw [List.take_of_length_le (by rw [HM.out]; omega)] at hys
      have HYS := hid hys
      have HRG := hid hrg
      have HTU := hid htu
      have HY5 := hid hy5
      have htz := htu.size
      clear hys hrg htu hy5 hx5 hth
      go_wp2_with fail
      have ec := heap_setCell_same _ _ 7 _ _ (.slice A9 i c9) (heap_setCell_same _ _ 6 _ _ (.slice A2 ns.length c2) (heap_setCell_same _ _ 5 _ _ (.slice A1 ts.length c1) (heap_setCell_same _ _ 4 _ _ (.int .i64 0) (heap_setCell_same _ _ 3 _ _ (.int .i64 0) (heap_setCell_same _ _ 2 _ _ (.int .i64 n) (heap_setCell_same _ _ 1 _ _ (sv text) (heap_setCell_same _ _ 0 _ _ (.int .i64 k) HY5.out)))))))
      have tc := (turn_set wr (w.heap.size + 1) 0 (.int .i64 k)).trans ((turn_set _ (w.heap.size + 1) 1 (sv text)).trans ((turn_set _ (w.heap.size + 1) 2 (.int .i64 n)).trans ((turn_set _ (w.heap.size + 1) 3 (.int .i64 0)).trans ((turn_set _ (w.heap.size + 1) 4 (.int .i64 0)).trans ((turn_set _ (w.heap.size + 1) 5 (.slice A1 ts.length c1)).trans ((turn_set _ (w.heap.size + 1) 6 (.slice A2 ns.length c2)).trans (turn_set _ (w.heap.size + 1) 7 (.slice A9 i c9)) (fun _ _ h => h)) (fun _ _ h => h)) (fun _ _ h => h)) (fun _ _ h => h)) (fun _ _ h => h)) (fun _ _ h => h)) (fun _ _ h => h)
      refine bodyPost_ret (res_cell rfl rfl ec Tryz.underlying26 rfl (by kernel_rfl)) rfl ?_
      clear ec
      generalize hw9 : ((((((((wr.setCell _ _).setCell _ _).setCell _ _).setCell _ _).setCell _ _).setCell _ _).setCell _ _).setCell _ _) = w9 at tc ⊢
      have hwf : Below w.heap.size w w9 := (HW4.out.trans (HTU.out.below hwl (fun j hj e => by omega))).trans (tc.below (by omega) (fun j hj e => by omega))
      have tcs := tc.size
      refine ⟨[.int .i64 k, sv text, .int .i64 n, .int .i64 0, .int .i64 0, .slice A1 ts.length c1, .slice A2 ns.length c2, .slice A9 i c9], rfl, ?_, hwf⟩
      have tf : Turn (fun _ => False) w w9 := Turn.of_below hwf
      have hsub : ∀ j, j < w9.heap.size → F j → F j ∨ w.heap.size ≤ j := fun _ _ h => .inl h
      show NoG w9 (fun j => F j ∨ w.heap.size ≤ j) _ (.mk k text n 0 0 ts ns (bareNs ks))
      refine .mk ((HS1.out.turn tf (fun _ _ _ h => h)).mono hsub) ((HR1.out.turn tf (fun _ _ _ h => h)).mono hsub) ((HS2.out.turn tf (fun _ _ _ h => h)).mono hsub) (xk := ys) ?_ ?_
      · refine ⟨A9, i, c9, rfl, ?_, hc9, hm9, fun h0 => ⟨g, 0, (hA9 h0).1, .inr (by omega), by have := (hA9 h0).2; omega, range_turn HRG.out tc (by omega)⟩⟩
        rw [HYS.out.all.length, bareNs_map, List.length_map, HM.out]
      · exact (HYS.out.turn tc (fun j _ h e => by
          rcases h.2 with h2 | h2
          · have := HF.out j h2; omega
          · omega)).mono fun j _ h => by
            rcases h.2 with h2 | h2
            · exact .inl h2
            · exact .inr (by omega)
theorem bare_all (t : NoD) : BareC t := by
  have h : ∀ (n : Nat) (t : NoD), SizeOf.sizeOf t ≤ n → BareC t := by
    intro n
    induction n with
    | zero => intro t ht; cases t; simp at ht
    | succ n ih =>
      intro t ht
      obtain ⟨k, text, n1, line, col, ts, ns, ks⟩ := t
      refine bare_step k text n1 line col ts ns ks fun x hx => ih x ?_
      have := List.sizeOf_lt_of_mem hx
      simp at ht; omega
  exact h _ t (Nat.le_refl _)
end Go.Proofs.YtbpedjkebemhnaaGreatDoor
end
section
/- May a module be printed: tree.May. -/
set_option linter.unusedVariables false
namespace Go.Proofs.YtbpedjkebemhnaaGreatDoor
open Go.RowKit

/-- A module of not too many of anything. -/
structure SmM (m : MoD) : Prop where
  imps : m.imps.length ≤ 100
  decls : m.decls.length ≤ 100
  names : ∀ i ∈ m.imps, i.names.length ≤ 100
  vars : ∀ d ∈ m.decls, d.vars.length ≤ 100
  types : ∀ d ∈ m.decls, d.types.length ≤ 100
  bounds : ∀ d ∈ m.decls, ∀ v ∈ d.vars, cntT v.bound ≤ 100000
  sorts : ∀ d ∈ m.decls, cntTs d.types ≤ 100000
  body : ∀ d ∈ m.decls, cntN d.body ≤ 100000
/-- An import in a list: its cells. -/
theorem imp_at {w : World} {B : Nat} {A : Option Addr} {n c : Nat} {xs : List Value} {l : List ImD} (hs : Sl w B 4 (.slice A n c) xs) (hr : TRow (ImR w B) 4 xs l) {i : Nat} (hi : i < l.length) (hn : n = l.length) :
    ∃ b o A1 c1, A = some ⟨b, o, none⟩ ∧ Ss w B (.slice A1 l[i].names.length c1) l[i].names ∧ w.cell? ⟨b, o + i * 4, none⟩ = some (sv l[i].from_) ∧ w.cell? ⟨b, o + i * 4 + 1, none⟩ = some (.slice A1 l[i].names.length c1) ∧ w.cell? ⟨b, o + i * 4 + 2, none⟩ = some (.int .i64 l[i].line) ∧ w.cell? ⟨b, o + i * 4 + 3, none⟩ = some (.int .i64 l[i].col) := by
  obtain ⟨b, o, z, hA, hb, ⟨vn, rfl, hv⟩, hc⟩ := row_at hs hr (by omega) hi hn
  obtain ⟨A1, c1, rfl⟩ := t_sl_exact hv (by omega) (m := l[i].names.length) (by rw [svs_length]; omega)
  exact ⟨b, o, A1, c1, hA, hv, by simpa using hc 0 _ rfl, hc 1 _ rfl, hc 2 _ rfl, hc 3 _ rfl⟩
theorem t_row2 {w : World} {b : Nat} {x0 x1 : Value} {T : TypeId} (h : w.heap[b]? = some (.cells #[x0, x1] T (0, 0))) : w.cell? ⟨b, 0, none⟩ = some x0 ∧ w.cell? ⟨b, 1, none⟩ = some x1 :=
  ⟨(cell_of_row _ _ _ _ _ _ h).trans rfl, (cell_of_row _ _ _ _ _ _ h).trans rfl⟩
theorem impB_eq (i : ImD) : impB i = (nameL i.from_ && decide (0 < i.names.length) && i.names.all nameL) := by
  unfold impB
  cases i.names with
  | nil => rfl
  | cons x l => simp
set_option maxRecDepth 100000 in
set_option maxHeartbeats 8000000 in
theorem tmay_any (m : MoD) (w : World) (z : List Value) (hr : MoR w w.heap.size z m) (hok : okM m) (hX : LaidT w) (hS : SmM m) :
    Calls Tryz.prog 21 #[.agg z.toArray] w fun e w' => e = .returned (.bool (mayB m)) ∧ Below w.heap.size w w' := by
  obtain ⟨A1, c1, A2, c2, xi, xd, rfl, s1, r1, s2, r2⟩ := hr.parts
  have hres : mayB m = (m.imps.all impB && m.decls.all declB) := rfl
  obtain ⟨res, hre⟩ : ∃ res, mayB m = res := ⟨_, rfl⟩
  rw [hre] at hres ⊢
  have HRES := hid hres
  clear hres hre hr
  have l1 := (t_sl_len s1).2
  have l2 := (t_sl_len s2).2
  obtain ⟨W, hW⟩ : ∃ W, w.alloc (.cells #[.slice A1 m.imps.length c1, .slice A2 m.decls.length c2] 39) = W := ⟨_, rfl⟩
  have hb1 : Below w.heap.size w W := by rw [← hW]; exact (Below.refl _ _).alloc (Nat.le_refl _) _
  have HBX : Hid (W.heap[w.heap.size]? = some (.cells #[.slice A1 m.imps.length c1, .slice A2 m.decls.length c2] 39 (0, 0))) := hid (by rw [← hW]; exact heap_alloc_new w _)
  have HX := hid (fun (w1 : World) (h : Below W.heap.size W w1) => (hX.below hb1).below h)
  have HI := hid (And.intro (Sl.more (Sl.below s1 hb1) hb1.size) (r1.imp fun _ _ h => (h.keep hb1).more hb1.size))
  have HC := hid (fun (w1 : World) (h : Below W.heap.size W w1) => contains_decls 44 (fun _ _ => by kernel_rfl) #[] (fun d => !declB d) _ m.decls xd w1 (Sl.more (Sl.below s2 (hb1.trans (h.mono hb1.size))) (hb1.trans (h.mono hb1.size)).size) (r2.imp fun _ _ h2 => (h2.keep (hb1.trans (h.mono hb1.size))).more (hb1.trans (h.mono hb1.size)).size) (fun y hy w2 z2 hb hz => may1_any y w2 z2 hz (hok.2 y hy) (HX.out w2 (h.trans (hb.mono h.size))) (by have := hS.vars y hy; omega) (hS.body y hy)))
  have HOI := hid hok.1
  have HB1 := hid hb1
  have HWE := hid hW
  obtain ⟨is, his⟩ : ∃ x, m.imps = x := ⟨_, rfl⟩
  obtain ⟨a, hA⟩ : ∃ a, is.length = a := ⟨_, rfl⟩
  rw [any_not] at HC
  rw [his] at HI HRES HOI l1
  rw [his, hA] at HBX hW
  rw [hA] at HI l1
  rw [his, hA]
  have HA := hid hA
  generalize m.decls.all declB = q at *
  generalize m.decls.length = d at *
  clear s1 r1 s2 r2 hX hok hS hb1 his hA HWE
  clear m
  obtain ⟨g0, g1⟩ := t_row2 HBX.out
  go_enter Tryz.func21, Tryz.ntmps21
  go_wp2_with fail
  clear g0 g1
  go_loopw [8] (fun v8 wr => ∃ i : Nat, v8 = .int .i64 i ∧ i ≤ a ∧ (is.take i).all impB = true ∧ Below W.heap.size W wr) (fun v8 _ => a - (intOf v8).toNat)
  case atStart => exact ⟨0, rfl, by omega, rfl, Below.refl _ _⟩
  case round =>
    obtain ⟨i, rfl, hi, hall, hbr⟩ := hrel
    have HAL := hid hall
    have HBR := hid hbr
    clear hall
    by_cases hlt : i < a
    · have hil : i < is.length := by rw [HA.out]; exact hlt
      obtain ⟨b2, o2, A6, c6, hA6, hn6, d0, d1, d2, d3⟩ := imp_at (Sl.more (Sl.below HI.out.1 hbr) hbr.size) (HI.out.2.imp fun _ _ h => (h.keep hbr).more hbr.size) hil HA.out.symm
      obtain ⟨wA, hwA⟩ : ∃ wA, wr.alloc (.cells #[sv is[i].from_, .slice A6 is[i].names.length c6, .int .i64 is[i].line, .int .i64 is[i].col] 62) = wA := ⟨_, rfl⟩
      have hbA : Below wr.heap.size wr wA := by rw [← hwA]; exact (Below.refl _ _).alloc (Nat.le_refl _) _
      have HSA : Hid (wA.heap[wr.heap.size]? = some (.cells #[sv is[i].from_, .slice A6 is[i].names.length c6, .int .i64 is[i].line, .int .i64 is[i].col] 62 (0, 0))) := hid (by rw [← hwA]; exact heap_alloc_new wr _)
      have hoi := HOI.out _ (List.getElem_mem hil)
      have HN := hid (name_all wA is[i].from_ (HX.out wA (hbr.trans (hbA.mono hbr.size))) hoi.1)
      have HNS := hid (fun (w1 : World) (h : Below wA.heap.size wA w1) => tnamed_any _ is[i].names w1 (Ss.more (Ss.below hn6 (hbA.trans (h.mono hbA.size))) (hbA.trans (h.mono hbA.size)).size) hoi.2.1 (HX.out w1 (hbr.trans ((hbA.trans (h.mono hbA.size)).mono hbr.size))))
      have HBA := hid hbA
      have hst := t_take hil
      have hl6 := (t_sl_len hn6).2
      have HYES : Hid (impB is[i] = true → (is.take (i + 1)).all impB = true) := hid (fun h => by rw [hst, List.all_append, HAL.out]; simp [h])
      have HNO : Hid (impB is[i] = false → is.all impB = false) := hid (fun hq => by
        cases h : is.all impB with
        | false => rfl
        | true => rw [List.all_eq_true] at h; rw [h _ (List.getElem_mem hil)] at hq; cases hq)
      have himp := impB_eq is[i]
      rw [himp] at HYES HNO
      generalize nameL is[i].from_ = q1 at *
      generalize is[i].names.all nameL = q2 at *
      generalize is[i].names.length = k at *
      generalize is[i].from_ = X at *
      generalize is[i].line = li at *
      generalize is[i].col = co at *
      clear hoi hbA hbr hn6 hst himp
      subst hA6
      obtain ⟨f0, f1, f2, f3⟩ := t_row4 HSA.out
      go_wp2_with fail
      clear hwA d0 d1 d2 d3 f0 f1 f2 f3
      refine HN.out.mono ?_
      rintro e w6 ⟨rfl, hb⟩
      have HB6 := hid hb
      have HR6 := hid (HBR.out.trans ((HBA.out.trans (hb.mono HBA.out.size)).mono HBR.out.size))
      obtain ⟨f0, f1, f2, f3⟩ := t_row4 ((hb.block _ (block_lt HSA.out)).trans HSA.out)
      clear hb
      cases q1 with
      | false =>
        have HF : Hid (res = false) := hid (by rw [HRES.out, HNO.out rfl]; rfl)
        go_wp2_with fail
        go_ret
        exact ⟨by rw [HF.out]; rfl, HB1.out.trans (HR6.out.mono HB1.out.size)⟩
      | true =>
        by_cases hk : k = 0
        · have gk : ((k : Int) == 0) = true := by rw [beq_iff_eq]; omega
          have HF : Hid (res = false) := hid (by rw [HRES.out, HNO.out (by rw [hk]; rfl)]; rfl)
          clear hk
          go_wp2_with fail
          go_ret
          exact ⟨by rw [HF.out]; rfl, HB1.out.trans (HR6.out.mono HB1.out.size)⟩
        · have gk : ((k : Int) == 0) = false := by rw [beq_eq_false_iff_ne]; omega
          have HK : Hid (decide (0 < k) = true) := hid (decide_eq_true (by omega))
          clear hk
          go_wp2_with fail
          refine (HNS.out _ HB6.out).mono ?_
          rintro e w7 ⟨rfl, hb⟩
          have HR7 := hid (HR6.out.trans (hb.mono HR6.out.size))
          clear hb f0 f1 f2 f3
          cases q2 with
          | false =>
            have HF : Hid (res = false) := hid (by rw [HRES.out, HNO.out (by simp)]; rfl)
            go_wp2_with fail
            go_ret
            exact ⟨by rw [HF.out]; rfl, HB1.out.trans (HR7.out.mono HB1.out.size)⟩
          | true =>
            have HT := hid (HYES.out (by rw [HK.out]; rfl))
            go_wp2_with fail
            go_roundw
            case rel => exact ⟨i + 1, rfl, by omega, HT.out, HR7.out⟩
            case measure => simp [intOf]; omega
    · obtain rfl : i = a := by omega
      have HR9 : Hid (res = q) := hid (by
        have h := HAL.out
        rw [List.take_of_length_le (by rw [HA.out]; omega)] at h
        rw [HRES.out, h, Bool.true_and])
      obtain ⟨g0, g1⟩ := t_row2 ((hbr.block _ (block_lt HBX.out)).trans HBX.out)
      clear hbr hlt
      go_wp2_with fail
      refine (HC.out _ HBR.out).mono ?_
      rintro e w6 ⟨rfl, hb⟩
      go_wp2_with fail
      go_ret
      refine ⟨by rw [HR9.out]; simp, HB1.out.trans ((HBR.out.trans (hb.mono HBR.out.size)).mono HB1.out.size)⟩
end Go.Proofs.YtbpedjkebemhnaaGreatDoor
end
section
/- append of a text's bytes, onto bytes of the call's own. -/
set_option linter.unusedVariables false
namespace Go.Proofs.YtbpedjkebemhnaaGreatDoor
open Go.RowKit

theorem run_app_str {P : Program} (w : World) (base : Nat) (t u ty e : TypeId) (hE : ElemIs P t e (.int .u8 0) 1 1) (hu : P.underlying u = some .string)
    (v : Value) (n : Nat) (xs : List Value) (hown : w.ownsRow base e 1 v n xs) (s : ByteArray) (h63 : n + s.size ≤ maxLen) (hbytes : n + s.size ≤ 140737488355328) (hbase : base ≤ w.heap.size) :
    ∃ v' w', (Builtin.append_ #[t, u] ty #[v, .string s]).run P w = .ok v' w' ∧ w'.ownsRow base e 1 v' (n + s.size) (xs ++ Go.Lib.strCells s) ∧ w.grownBy w' v.ownBlock ∧ (v'.ownBlock = v.ownBlock ∨ v'.ownBlock = some w.heap.size) := by
  obtain ⟨ht, hinfo, _, _⟩ := hE
  obtain ⟨i, hi, hz, hsize, hby⟩ := info_parts hinfo
  obtain ⟨v', w', hr, h2, h3, h4⟩ := Go.Lib.run_append_own_string (P := P) w base t u ty e i ht hu hi hz hsize hby v n xs hown s h63 hbytes hbase
  refine ⟨v', w', hr, h2, h3, ?_⟩
  have hxl : xs.length = n := by simpa using hown.1
  unfold maxLen at h63
  rcases hown.2 with ⟨rfl, rfl⟩ | ⟨g, cap, cur, rfl, hbg, hg, hnc, hcm, hcs, htake⟩
  · by_cases hm : s.size = 0
    · exact .inl (by rw [h4.2 ⟨rfl, hm⟩])
    · have hr2 := run_append_nil_string (P := P) w t u ty e i (.int .u8 0) ht hu hi hz s (by omega) (by omega) (by rw [hby]; omega)
      rw [hr2] at hr
      injection hr with hr1 _
      subst hr1
      exact .inr rfl
  · by_cases hroom : n + s.size ≤ cap
    · have hcs' : cur.size = cap := by simpa using hcs
      have hr2 := Go.Lib.run_append_room_string (P := P) w t u ty e i ht hu hi hsize g n cap cur hg s hroom (by omega)
      rw [hr2] at hr
      injection hr with hr1 _
      subst hr1
      exact .inl rfl
    · have holds : ∀ j u, xs[j]? = some u → w.cell? ((⟨g, 0, none⟩ : Addr).add j) = some u := hown.cells (g := g) rfl
      have hr2 := Go.Lib.run_append_grow_string (P := P) w t u ty e i (.int .u8 0) ht hu hi hz ⟨g, 0, none⟩ n cap xs (by rw [hsize]; simpa using hxl) holds s (by omega) (by omega) (by rw [hby]; exact growslice_fits (by omega) (by omega))
      rw [hr2] at hr
      injection hr with hr1 _
      subst hr1
      exact .inr rfl
theorem wpList_appT {P : Program} {w : World} {ops : Array Oper} {rest : List Oper} {o : Oper} {a : Act} {Q : Exit → Act → World → Prop} (hgd : o.guard = none) (sl x : Operand) (t u : TypeId)
    (ho : o.op = .call { callee := .builtin .append, args := #[sl, x], argTypes := #[t, u] }) (base : Nat) {e : TypeId} (hE : ElemIs P t e (.int .u8 0) 1 1) (hu : P.underlying u = some .string)
    (v : Value) (l m : Bt) (hs : a.eval sl = v) (hown : OwnB w base e v l) (hx : a.eval x = sv m) (hlen : l.length + m.length ≤ 140737488355328) (hbase : base ≤ w.heap.size)
    (h : ∀ v' w', OwnB w' base e v' (l ++ m) → w.grownBy w' v.ownBlock → (v'.ownBlock = v.ownBlock ∨ v'.ownBlock = some w.heap.size) → wpList P ops Q rest (a.put o.dst v') w') : wpList P ops Q (o :: rest) a w := by
  refine wpList_plain hgd fun K hK => ?_
  obtain ⟨n, hown⟩ := hown
  have hn : n = l.length := by have := hown.1; rw [bv_length] at this; omega
  subst hn
  have hsz : (ByteArray.mk m.toArray).size = m.length := by
    have h : (ByteArray.mk m.toArray).data.toList.length = (ByteArray.mk m.toArray).size := Array.length_toList
    rw [← h]
  obtain ⟨v', w', hr, h2, h3, h4⟩ := run_app_str (P := P) w base t u o.type e hE hu v l.length (bv l) hown ⟨m.toArray⟩ (by rw [hsz]; unfold maxLen; omega) (by rw [hsz]; omega) hbase
  have hcs : Go.Lib.strCells ⟨m.toArray⟩ = bv m := rfl
  rw [hcs, ← bv_append] at h2
  unfold Oper.wp execOp
  simp only [ho, resolve, invoke, builtin, Sem.run_bind, Sem.run_pure, Result.andThen_ok, List.map_toArray, List.map_cons, List.map_nil, hs, hx, sv, hr]
  exact hK _ _ (h v' w' ⟨_, h2⟩ h3 h4)
end Go.Proofs.YtbpedjkebemhnaaGreatDoor
end
section
/- The contracts of library functions that this seat reaches, each an application of a theorem of the library at this translation. -/
namespace Go.Proofs
open Go.Shelf
def Tryz.lays169_ren : Go.Shelf.Ren := ⟨fun | 169 => 52 | n => n, fun | 70 => 73 | 9 => 9 | 0 => 0 | 72 => 76 | 37 => 74 | 127 => 129 | 3 => 3 | 5 => 5 | n => n, fun | n => n⟩
theorem Tryz.lays169 : Go.Proofs.Lays.n169 Tryz.prog Tryz.lays169_ren := {
  mixed := by kernel_rfl
  f169 := Tryz.func52.trans (congrArg some (by kernel_rfl))
  t0 := Tryz.underlying0
  a0 := Tryz.isAgg0
  z0 := Tryz.sizeOf0
  v0 := Tryz.zeroValue0
  t3 := Tryz.underlying3
  a3 := Tryz.isAgg3
  z3 := Tryz.sizeOf3
  v3 := Tryz.zeroValue3
  t9 := Tryz.underlying9
  a9 := Tryz.isAgg9
  z9 := Tryz.sizeOf9
  v9 := Tryz.zeroValue9
  t37 := Tryz.underlying74
  a37 := Tryz.isAgg74
  z37 := Tryz.sizeOf74
  v37 := Tryz.zeroValue74
  t70 := Tryz.underlying73
  a70 := Tryz.isAgg73
  z70 := Tryz.sizeOf73
  v70 := Tryz.zeroValue73
  t72 := Tryz.underlying76
  a72 := Tryz.isAgg76
  z72 := Tryz.sizeOf76
  v72 := Tryz.zeroValue76
  t127 := Tryz.underlying129
  a127 := Tryz.isAgg129
  z127 := Tryz.sizeOf129
  v127 := Tryz.zeroValue129 }
theorem Tryz.Builder_Extra_169 : Builder.Extra Tryz.prog Tryz.lays169_ren := {
  sizeBuilder := by kernel_rfl
  liesBuilder := by kernel_rfl
  t5 := Tryz.underlying5
  a5 := Tryz.isAgg5
  z5 := Tryz.sizeOf5
  v5 := Tryz.zeroValue5
  infoByte := by kernel_rfl
  cellsByte := by kernel_rfl
  sizeByte := by kernel_rfl
  neB5 := by decide }
open Go.RowKit in
theorem Tryz.Builder_String_any (B b : Nat) (l : List UInt8) (w : World) (h : Lib.IsBuilder 76 5 B b (Lib.byteCells l) w) (hBw : B ≤ w.heap.size) :
    Calls Tryz.prog 52 #[.pointer (some ⟨b, 0, none⟩)] w fun e w' => e = .returned (.string ⟨l.toArray⟩) ∧ Below B w w' := Any.Builder_String_any Tryz.lays169 Tryz.Builder_Extra_169 B b l w h hBw
end Go.Proofs
end
section
/- strings.Builder: texts written, one behind the other. -/
set_option linter.unusedVariables false
namespace Go.Proofs.YtbpedjkebemhnaaGreatDoor
open Go.RowKit

theorem bd_size : (Tryz.prog.info? 76).map (·.size) = some 2 := by kernel_rfl
theorem bd_lies : liesAt Tryz.prog Tryz.prog.depth 76 (2 / Tryz.prog.cellsOf 76) 0 76 1 = true := by kernel_rfl
theorem el_byte8 : ElemIs Tryz.prog 74 5 (.int .u8 0) 1 1 := ⟨Tryz.underlying74, by kernel_rfl, rfl, by omega⟩
theorem ownB_any {w : World} {base : Nat} {e : TypeId} {v : Value} {l : Bt} (h : OwnB w base e v l) : ∃ ao n' cap, v = .slice ao n' cap := by
  obtain ⟨n, h⟩ := h
  rcases h.2 with ⟨hv, _⟩ | ⟨g, cap, cur, hv, _⟩
  · exact ⟨_, _, _, hv⟩
  · exact ⟨_, _, _, hv⟩
set_option maxHeartbeats 1000000 in
set_option maxRecDepth 100000 in
theorem bd_used (b : Nat) (w : World) (h0 : w.cell? ⟨b, 0, none⟩ = some (.pointer (some ⟨b, 0, none⟩))) :
    Calls Tryz.prog 100 #[.pointer (some ⟨b, 0, none⟩)] w fun e w' => e = .returned (.tuple #[]) ∧ w' = w := by
  obtain ⟨j, hj, _⟩ := Option.map_eq_some_iff.1 bd_size
  go_enter Tryz.func100, Tryz.ntmps100
  go_wp2
  rw [Lib.run_neq_ptr_same w _ Tryz.underlying73 hj]
  go_wp2
  go_end0
  exact ⟨rfl, rfl⟩
set_option maxHeartbeats 1000000 in
set_option maxRecDepth 100000 in
theorem bd_fresh (b : Nat) (w : World) (h0 : w.cell? ⟨b, 0, none⟩ = some (.pointer none)) (hsh : w.shape? b = some (76, 2)) (hfz : w.frozen? ⟨b, 0, none⟩ = false) :
    Calls Tryz.prog 100 #[.pointer (some ⟨b, 0, none⟩)] w fun e w' => e = .returned (.tuple #[]) ∧ w' = w.setCell ⟨b, 0, none⟩ (.pointer (some ⟨b, 0, none⟩)) := by
  obtain ⟨j, hj, hjs⟩ := Option.map_eq_some_iff.1 bd_size
  go_enter Tryz.func100, Tryz.ntmps100
  go_wp2
  rw [Lib.run_to_unsafe w ⟨b, 0, none⟩ Tryz.underlying73 Tryz.underlying151 hj (by rw [hjs]; decide) hsh (Nat.zero_lt_succ 1)]
  simp only [Result.andThen]
  rw [Oper.upon_value]
  go_wp2
  rw [run_callFunc_extern Tryz.func132 (by kernel_rfl) (by kernel_rfl) (by kernel_rfl) (e := Extern.AbiNoEscape.same) (by kernel_rfl)]
  rw [Lib.run_noEscape]
  simp only [Result.andThen]
  rw [Oper.upon_value]
  go_wp2
  rw [Lib.run_from_unsafe w ⟨b, 0, none⟩ Tryz.underlying151 Tryz.underlying73 hj hsh bd_lies]
  simp only [Result.andThen]
  rw [Oper.upon_value]
  go_wp2
  go_end0
  exact ⟨rfl, rfl⟩
/-- Every block stays but those of bytes and of builders. -/
def KeepsR (w w' : World) : Prop := ∀ (k : Nat) (cs : Array Value) (T : TypeId) (fz : Nat × Nat), w.heap[k]? = some (.cells cs T fz) → T ≠ 5 → T ≠ 76 → w'.heap[k]? = some (.cells cs T fz)
theorem KeepsR.refl (w : World) : KeepsR w w := fun _ _ _ _ h _ _ => h
theorem KeepsR.trans {a b c : World} (h1 : KeepsR a b) (h2 : KeepsR b c) : KeepsR a c := fun k cs T fz h ha hb => h2 k cs T fz (h1 k cs T fz h ha hb) ha hb
theorem KeepsR.set {w : World} {b i : Nat} {v : Value} {cs : Array Value} {fz : Nat × Nat} (h : w.heap[b]? = some (.cells cs 76 fz)) : KeepsR w (w.setCell ⟨b, i, none⟩ v) := by
  intro k cs2 T fz2 hk h1 h2
  rw [heap_setCell_other w _ k v (by
    intro e
    have e : k = b := e
    subst e
    rw [h] at hk
    injection hk with hk
    injection hk with _ hk _
    exact h2 hk.symm)]
  exact hk
theorem KeepsR.grown {w w' : World} {base : Nat} {v : Value} {n : Nat} {xs : List Value} (hown : w.ownsRow base 5 1 v n xs) (hg : w.grownBy w' v.ownBlock) : KeepsR w w' := by
  intro k cs T fz hk h1 h2
  rw [hg.block k (block_lt hk) (fun e => by
    rcases hown.2 with ⟨rfl, _⟩ | ⟨g, cap, cur, rfl, _, hg2, _⟩
    · cases e
    · injection e with e
      subst e
      rw [hg2] at hk
      injection hk with hk
      injection hk with _ hk _
      exact h1 hk.symm)]
  exact hk
theorem bd_check (B b : Nat) (bs : List Value) (w : World) (h : Lib.IsBuilder 76 5 B b bs w) :
    Calls Tryz.prog 100 #[.pointer (some ⟨b, 0, none⟩)] w fun e w' => e = .returned (.tuple #[]) ∧ (Lib.BuilderAt 76 5 B b (.pointer (some ⟨b, 0, none⟩)) bs w' ∧ Below B w w' ∧ KeepsR w w') := by
  rcases h with h | h
  · refine (bd_fresh b w h.cell0 h.shape h.frozen0).mono ?_
    rintro e w' ⟨rfl, rfl⟩
    obtain ⟨v9, h9, _⟩ := h.2
    exact ⟨rfl, h.used _, (Below.refl B w).setCell (p := ⟨b, 0, none⟩) h.1 _, KeepsR.set h9⟩
  · refine (bd_used b w h.cell0).mono ?_
    rintro e w' ⟨rfl, rfl⟩
    exact ⟨rfl, h, Below.refl B _, KeepsR.refl _⟩
/-- A text written behind what was written. -/
def BdT (B b : Nat) (t : Bt) (w : World) : Prop := Lib.IsBuilder 76 5 B b (bv t) w
set_option maxHeartbeats 2000000 in
set_option maxRecDepth 100000 in
theorem bd_write (B b : Nat) (t x : Bt) (w : World) (h : BdT B b t w) (hlen : t.length + x.length ≤ 140737488355328) (hBw : B ≤ w.heap.size) :
    Calls Tryz.prog 48 #[.pointer (some ⟨b, 0, none⟩), sv x] w fun e w' => (∃ v, e = .returned v) ∧ BdT B b (t ++ x) w' ∧ Below B w w' ∧ KeepsR w w' := by
  have hsx := sv_size x
  unfold BdT at h
  go_enter Tryz.func48, Tryz.ntmps48
  go_wp2_with fail
  refine (bd_check B b _ _ h).mono ?_
  rintro e w1 ⟨rfl, h1, hb1, hk1⟩
  obtain ⟨hB, v, hbk, hown, hne⟩ := h1
  have c0 : w1.cell? ⟨b, 0, none⟩ = some (.pointer (some ⟨b, 0, none⟩)) := by rw [Lib.cell_of_heap hbk]; rfl
  have c1 : w1.cell? ⟨b, 1, none⟩ = some v := by rw [Lib.cell_of_heap hbk]; rfl
  have hownb : OwnB w1 B 5 v t := ⟨_, hown⟩
  have hbw : B ≤ w1.heap.size := Nat.le_trans hBw hb1.size
  have HNE := hid hne
  have HK1 := hid hk1
  have HOW1 := hid hown
  have HBK := hid hbk
  clear hown hne hbk hk1
  go_wp2_with (at_builtin; go_must (refine wpList_appT rfl (.tmp 12) (.tmp 13) _ _ rfl B el_byte8 Tryz.underlying9 v t x rfl hownb rfl hlen hbw (fun v' w2 hown' hgrow _ => ?_)); have hb2 := (hgrow.block b (block_lt HBK.out) (fun e => HNE.out e.symm)).trans HBK.out; have d0 : w2.cell? ⟨b, 0, none⟩ = some (.pointer (some ⟨b, 0, none⟩)) := (cell_of_row _ _ _ _ _ (0, 0) hb2).trans rfl; have d1 : w2.cell? ⟨b, 1, none⟩ = some v := (cell_of_row _ _ _ _ _ (0, 0) hb2).trans rfl; have f1 := block_free hb2 1; have HOWN := hid hown'; have HB2 := hid hb2; have HGR := hid hgrow; obtain ⟨ao, n', cap, rfl⟩ := ownB_any hown'; clear hown' hb2 hgrow)
  go_ret2
  refine ⟨⟨_, rfl⟩, ?_, ?_, ?_⟩
  · obtain ⟨n9, hown'⟩ := HOWN.out
    have h9 : n9 = (bv (t ++ x)).length := by have := hown'.1; omega
    subst h9
    exact .inr (Lib.BuilderAt.put (T := 76) (e := 5) hB HB2.out hown' (by decide))
  · exact (hb1.grown HGR.out hbw (fun k hk => (hownb.lt k hk).1)).setCell (p := ⟨b, 1, none⟩) hB _
  · exact (HK1.out.trans (KeepsR.grown HOW1.out HGR.out)).trans (KeepsR.set HB2.out)
theorem BdT.below {B b : Nat} {t : Bt} {w w' : World} (h : BdT B b t w) (hb : Below w.heap.size w w') : BdT B b t w' := by
  unfold BdT at h ⊢
  rcases h with ⟨h1, v, h2, h3, h4⟩ | ⟨h1, v, h2, h3, h4⟩
  · exact .inl ⟨h1, v, (hb.block _ (block_lt h2)).trans h2, own_below h3 hb, h4⟩
  · exact .inr ⟨h1, v, (hb.block _ (block_lt h2)).trans h2, own_below h3 hb, h4⟩
theorem BdT.new (w : World) (B : Nat) (hB : B ≤ w.heap.size) : BdT B w.heap.size [] (w.alloc (.cells #[.pointer none, .slice none 0 0] 76)) :=
  .inl ⟨hB, _, heap_alloc_new w _, World.ownsRow_nil _ _ _ _, by simp [Value.ownBlock]⟩
theorem bd_text (B b : Nat) (l : Bt) (w : World) (h : BdT B b l w) (hBw : B ≤ w.heap.size) : Calls Tryz.prog 52 #[.pointer (some ⟨b, 0, none⟩)] w fun e w' => e = .returned (sv l) ∧ Below B w w' :=
  Tryz.Builder_String_any B b l w h hBw
theorem row_cell {w : World} {b j : Nat} {cs : Array Value} {T : TypeId} {fz : Nat × Nat} {v : Value} (h : w.heap[b]? = some (.cells cs T fz)) (hj : cs[j]? = some v) : w.cell? ⟨b, j, none⟩ = some v := by
  rw [cell_of_row _ _ _ _ _ _ h]; exact hj
end Go.Proofs.YtbpedjkebemhnaaGreatDoor
end
