/- ShapeOwn and ShapeStays walked. -/
import Derived.Test.YtaokgblkhnipgaaSM
set_option linter.unusedVariables false
namespace Go.Proofs.Ytaokgblkhnipgaa
open Go.RowKit

/-- A store into texts of the call's own. -/
theorem OwnS.set_ {w : World} {base : Nat} {e : TypeId} {g c : Nat} {l : List Nm} (h : OwnS w base e (.slice (some ⟨g, 0, none⟩) l.length c) l) (j : Nat) (x : Nm) :
    OwnS (w.setCell ⟨g, j, none⟩ (sv x)) base e (.slice (some ⟨g, 0, none⟩) l.length c) (l.set j x) ∧ w.grownBy (w.setCell ⟨g, j, none⟩ (sv x)) (some g) := by
  have hs := h.row.stored j (sv x)
  refine ⟨⟨l.length, ?_⟩, hs.2⟩
  have e : svs (l.set j x) = (svs l).set j (sv x) := by unfold svs; rw [List.map_set]
  rw [e]; exact hs.1
theorem OwnS.cell {w : World} {base : Nat} {e : TypeId} {g c n : Nat} {l : List Nm} (h : OwnS w base e (.slice (some ⟨g, 0, none⟩) n c) l) (j : Nat) (hj : j < l.length) : w.cell? ⟨g, j, none⟩ = some (sv l[j]) := by
  have := h.row.cells (g := g) rfl j _ (svs_get l j hj)
  rwa [plain_add, Nat.zero_add] at this
theorem OwnS.free {w : World} {base : Nat} {e : TypeId} {g c : Nat} {l : List Nm} (h : OwnS w base e (.slice (some ⟨g, 0, none⟩) l.length c) l) (j : Nat) : w.frozen? ⟨g, j, none⟩ = false := h.row.frozenAt j

set_option maxHeartbeats 1000000 in
theorem shapeOwn_any (v : Value) (l : List Nm) (nm : ByteArray) (w : World) (hv : Ss w w.heap.size v l) (hm : ∀ y ∈ l, y.length ≤ maxLen) :
    Calls Try.prog 4 #[v, .string nm] w fun e w' => e = .returned (.bool true) ∧ Below w.heap.size w w' := by
  obtain ⟨x, hx0⟩ : ∃ x : Nm, Value.string nm = sv x := ⟨nm.data.toList, by show Value.string nm = Value.string ⟨nm.data.toList.toArray⟩; simp⟩
  rw [hx0]
  clear hx0
  obtain ⟨A, c, rfl, hn, hc, hx⟩ := hv.open_
  unfold maxLen at hc
  go_enter Try.func4, Try.ntmps4
  go_wp2_with fail
  refine (awake_any _).mono ?_
  rintro e w1 ⟨rfl, hb1⟩
  go_wp2_with fail
  refine (new_any _).mono ?_
  rintro e w2 ⟨F, bt, rfl, hT, hF, hb2⟩
  have hB2 := bthen hb1 hb2
  by_cases h60 : (30 : Int) < l.length
  · go_wp2_with fail
    go_ret
    exact ⟨rfl, hB2⟩
  · have hF0 : ∀ k, F k → w.heap.size ≤ k := fun k hk => Nat.le_trans hb1.size (hF k hk)
    have hv2 := (hv.below hB2).more hB2.size
    have hd : 0 < l.length → ∀ g, Value.ownBlock (.slice A l.length c) = some g → ¬ F g := by
      intro h0 g hg
      obtain ⟨b, o, rfl, hb, _⟩ := hx h0
      simp only [Value.ownBlock, Option.some.injEq] at hg
      subst hg
      exact fun h => by have := hF0 b h; omega
    have hlen1 := (ofT_len hm l.length (Nat.le_refl _)).1
    have a1 := (ofT_good (s := 0) good_new (by simp) hm l.length (Nat.le_refl _)).1
    have a2 := (ofT_good (s := 0) good_new (by simp) hm l.length (Nat.le_refl _)).2.1
    have b2 := (ofT_names (s := 0) good_new (by simp) hm l.length (Nat.le_refl _)).2
    rw [List.take_length] at hlen1 a1 a2 b2
    have b3 : (ofT ([[]], 0) l).1.getD (ofT ([[]], 0) l).2 [] = ext [] l := b2
    clear b2
    have hext := len_ext [] l
    simp only [List.length_nil] at hext
    go_wp2_with fail
    refine (of_any F bt [[]] _ l _ hT hv2 hd hm (by simp; omega)).mono ?_
    rintro e w3 ⟨F3, rfl, hT3, ht3, hn3⟩
    obtain ⟨hB3, hF3⟩ := step_base hB2 (Nat.le_refl _) hF0 ht3 hn3
    clear hT hv2 hd hb1 hb2 ht3 hn3
    generalize ofT ([[]], 0) l = T at *
    obtain ⟨T, s⟩ := T
    simp only at *
    have hnm := namesL_in a2
    rw [b3] at hnm
    clear b3 hx hF hF0
    generalize ext [] l = f at *
    go_wp2_with fail
    refine (names_any F3 bt T s _ hT3 (by omega)).mono ?_
    rintro e w4 ⟨v4, rfl, hown4, hb4⟩
    rw [hnm] at hown4
    have hT4 := hT3.turn (Turn.of_below (F := fun _ => False) hb4) (fun _ _ h => h)
    have hB4 : Below w.heap.size w w4 := hB3.trans (hb4.mono hB3.size)
    have hss4 := hown4.ss
    have hl4 := hT3.lt
    clear hT3
    go_wp2_with (at_builtin; refine wpList_appS rfl _ (.tmp 35) _ rfl w4.heap.size el_str _ _ rfl rfl (OwnS.nil w4 w4.heap.size 9) hss4 (by simp; omega) (Nat.le_refl _) (fun v5 w5 hown5 hg5 hbk5 => ?_); have hb5 := below_appS (Below.refl w4.heap.size w4) (OwnS.nil w4 w4.heap.size 9) hg5 (Nat.le_refl _) (Nat.le_refl _); clear hg5 hbk5)
    obtain ⟨A4, c4, rfl, hn4, hc4, _⟩ := hss4.open_
    unfold maxLen at hc4
    have hv4 := hown4.lt
    go_loopw [11] (fun v11 wr => ∃ (k : Nat) (m : List Nm), v11 = .int .i64 k ∧ k ≤ f.length ∧ m.length = f.length ∧ OwnS wr w3.heap.size 9 (.slice A4 f.length c4) m ∧ Turn (fun j => Value.ownBlock (.slice A4 f.length c4) = some j) w5 wr) (fun v11 _ => f.length - (intOf v11).toNat)
    case atStart => exact ⟨0, f, rfl, by omega, rfl, hown4.below hb5, Turn.refl _ _⟩
    case round =>
      obtain ⟨k, m, rfl, hk, hml, hom, htm⟩ := hrel
      by_cases hlt : k < f.length
      · rw [← hml] at hom
        obtain ⟨g, c9, hv, hg1, hg2, _, _⟩ := own_form hom.row (by omega)
        simp only [Value.slice.injEq, true_and] at hv
        obtain ⟨rfl, rfl⟩ := hv
        obtain ⟨Y, hcell⟩ : ∃ Y : Nm, wr.cell? ⟨g, k, none⟩ = some (sv Y) := ⟨_, hom.cell k (by omega)⟩
        have hfree := hom.free k
        have hset := (hom.set_ k x).1
        rw [hml] at hset
        have hts := turn_set wr g k (sv x)
        have HSET := hid hset
        have HTS := hid (htm.trans hts (fun _ _ h => by subst h; rfl))
        have HML := hid hml
        clear hset hts htm hom hml
        go_wp2_with fail
        go_roundw
        case rel => exact ⟨k + 1, m.set k x, rfl, by omega, by rw [List.length_set]; exact HML.out, HSET.out, HTS.out⟩
        case measure => simp [intOf]; omega
      · obtain rfl : k = f.length := by omega
        have hT6 := (hT4.turn (Turn.of_below (F := fun _ => False) hb5) (fun _ _ h => h)).turn htm (fun j hj h => by have := (hv4 j h).1; have := hl4 j hj; omega)
        have h5 := hown5.turn htm (fun j hj h => by have := (hv4 j h).2; have := (hown5.lt j hj).1; omega)
        have hB6 : Below w.heap.size w wr := (hB4.trans (hb5.mono hB4.size)).trans (htm.below (Nat.le_trans hB4.size hb5.size) (fun j hj h => by have := (hv4 j h).1; have := hB3.size; omega))
        clear htm hom hT4 hown4 hown5 hv4 hl4
        go_wp2_with fail
        refine (names_any F3 bt T s _ hT6 (by omega)).mono ?_
        rintro e w7 ⟨v7, rfl, hown7, hb7⟩
        rw [hnm] at hown7
        have h57 := h5.below hb7
        go_wp2_with fail
        refine (texts_any v7 v5 f _ _ hown7.ss h57.ss).mono ?_
        rintro e w8 ⟨rfl, hb8⟩
        rw [decide_eq_true (by simp)]
        go_wp2_with fail
        go_ret
        exact ⟨rfl, (hB6.trans (hb7.mono hB6.size)).trans (hb8.mono (Nat.le_trans hB6.size hb7.size))⟩
end Go.Proofs.Ytaokgblkhnipgaa
