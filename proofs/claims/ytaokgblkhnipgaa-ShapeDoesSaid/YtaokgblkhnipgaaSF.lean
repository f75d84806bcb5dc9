/- The contract of shape's Of. -/
import Derived.Test.YtaokgblkhnipgaaSD
set_option linter.unusedVariables false
namespace Go.Proofs.Ytaokgblkhnipgaa
open Go.RowKit
open Go.Maps (has IsMap Keyed)

theorem ofT_snoc (r : List (List Nm) × Nat) (a : List Nm) (x : Nm) : ofT r (a ++ [x]) = addT (ofT r a).1 (ofT r a).2 x := by
  unfold ofT; rw [List.foldl_append]; rfl
theorem ofT_take {r : List (List Nm) × Nat} {l : List Nm} {k : Nat} (h : k < l.length) : ofT r (l.take (k + 1)) = addT (ofT r (l.take k)).1 (ofT r (l.take k)).2 l[k] := by
  rw [List.take_succ_eq_append_getElem h, ofT_snoc]
theorem ofT_good {L : List (List Nm)} {s : Nat} (hG : Good L) (hs : s < L.length) {l : List Nm} (hm : ∀ y ∈ l, y.length ≤ maxLen) (k : Nat) (hk : k ≤ l.length) :
    Good (ofT (L, s) (l.take k)).1 ∧ (ofT (L, s) (l.take k)).2 < (ofT (L, s) (l.take k)).1.length ∧ L.length ≤ (ofT (L, s) (l.take k)).1.length ∧ (ofT (L, s) (l.take k)).1.length ≤ L.length + k := by
  induction k with
  | zero => exact ⟨hG, hs, Nat.le_refl _, Nat.le_refl _⟩
  | succ k ih =>
    obtain ⟨a, b, c, d⟩ := ih (by omega)
    rw [ofT_take (by omega)]
    obtain ⟨p, q, r, t⟩ := addT_good a b (hm _ (List.getElem_mem (by omega : k < l.length)))
    exact ⟨p, q, by omega, by omega⟩
theorem addL_in {L : List (List Nm)} {s : Nat} (hs : s < L.length) (x : Nm) : addL L s x = ((addT L s x).1, ((addT L s x).2 : Int), 0) := by
  unfold addL; rw [if_pos (by omega)]; rfl

def OfRel (F : Nat → Prop) (bt : Nat) (L : List (List Nm)) (names : List Nm) (w : World) (k : Nat) (v6 : Value) (wr : World) : Prop :=
  v6 = .int .i64 ((ofT (L, 0) (names.take k)).2 : Nat) ∧ ∃ F' : Nat → Prop, TreeAt wr F' bt (ofT (L, 0) (names.take k)).1 ∧ Turn F w wr ∧ ∀ j, F' j → F j ∨ w.heap.size ≤ j

theorem ss_cell {w wr : World} {F : Nat → Prop} {b off : Nat} (t : Turn F w wr) (hb : b < w.heap.size) (hF : ¬ F b) {j : Nat} {u : Value} (h : w.cell? ⟨b, off, none⟩ = some u) : wr.cell? ⟨b, off, none⟩ = some u := by
  rw [← h]; simp only [World.cell?, t.block hb hF]

set_option maxHeartbeats 400000 in
theorem of_any (F : Nat → Prop) (bt : Nat) (L : List (List Nm)) (v : Value) (names : List Nm) (w : World) (hT : TreeAt w F bt L) (hv : Ss w w.heap.size v names) (hd : 0 < names.length → ∀ g, v.ownBlock = some g → ¬ F g)
    (hm : ∀ y ∈ names, y.length ≤ maxLen) (hL : L.length + names.length ≤ 1000000000) :
    Calls Try.prog 9 #[.pointer (some ⟨bt, 0, none⟩), v] w fun e w' =>
      ∃ F' : Nat → Prop, e = .returned (.tuple #[.int .i64 ((ofT (L, 0) names).2 : Nat), .int .i64 0]) ∧ TreeAt w' F' bt (ofT (L, 0) names).1 ∧ Turn F w w' ∧ ∀ k, F' k → F k ∨ w.heap.size ≤ k := by
  have hG := hT.good
  obtain ⟨A, c, rfl, hn, hc, hx⟩ := hv.open_
  unfold maxLen at hc
  go_enter Try.func9, Try.ntmps9
  go_wp2_with fail
  go_loopw [6, 13] (fun v6 v13 wr => ∃ k : Nat, v13 = .int .i64 k ∧ k ≤ names.length ∧ OfRel F bt L names w k v6 wr) (fun _ v13 _ => names.length - (intOf v13).toNat)
  case atStart => exact ⟨0, rfl, by omega, rfl, F, hT, Turn.refl _ _, fun _ h => .inl h⟩
  case round =>
    obtain ⟨k, rfl, hk, rfl, F1, hT1, ht1, hn1⟩ := hrel
    obtain ⟨a1, a2, a3, a4⟩ := ofT_good hG hG.pos hm k hk
    by_cases hlt : k < names.length
    · obtain ⟨b, o, rfl, hb, hcell⟩ := hx (by omega)
      have d1 := ss_cell ht1 hb (hd (by omega) b rfl) (j := 0) (hcell k hlt)
      have hadd := addL_in a2 names[k]
      have hsnoc := ofT_take (r := (L, 0)) hlt
      have hmk := hm _ (List.getElem_mem hlt)
      have HS := hid hsnoc
      have HA := hid hadd
      clear hsnoc hadd hcell hx
      have hstep : ∀ F2 w2, TreeAt w2 F2 bt (ofT (L, 0) (names.take (k + 1))).1 → Turn F1 wr w2 → (∀ j, F2 j → F1 j ∨ wr.heap.size ≤ j) → ∃ F' : Nat → Prop, TreeAt w2 F' bt (ofT (L, 0) (names.take (k + 1))).1 ∧ Turn F w w2 ∧ ∀ j, F' j → F j ∨ w.heap.size ≤ j := by
        intro F2 w2 h1 h2 h3
        refine ⟨F2, h1, ht1.trans h2 (fun j hj h => (hn1 j h).elim id (fun h => absurd h (by omega))), fun j h => ?_⟩
        rcases h3 j h with h | h
        · exact hn1 j h
        · have := ht1.size; exact .inr (by omega)
      have HSTEP := hid hstep
      clear hstep ht1 hn1
      generalize names[k] = X at *
      go_wp2_with fail
      refine (add_any F1 bt _ _ X _ hT1 hmk (by omega)).mono ?_
      rintro e w2 ⟨F2, rfl, hT2, ht2, hn2⟩
      rw [HA.out] at hT2 ⊢
      go_wp2_with fail
      go_roundw
      case rel => exact ⟨k + 1, rfl, by omega, by rw [HS.out], HSTEP.out F2 _ (by rw [HS.out]; exact hT2) ht2 hn2⟩
      case measure => simp [intOf]; omega
    · obtain rfl : k = names.length := by omega
      rw [List.take_length] at *
      go_wp2_with fail
      go_ret2
      exact ⟨F1, rfl, hT1, ht1, hn1⟩
end Go.Proofs.Ytaokgblkhnipgaa
