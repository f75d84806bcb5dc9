/- The contracts of the reference's Add and Of. -/
import Derived.Test.YtaokgblkhnipgaaSR
import Derived.RegionTactic
import Derived.Deep.QuietTactic
set_option linter.unusedVariables false
namespace Go.Proofs.Ytaokgblkhnipgaa
open Go.RowKit

theorem same_any (v1 v2 : Value) (l m : List Nm) (w : World) (h1 : Ss w w.heap.size v1 l) (h2 : Ss w w.heap.size v2 m) :
    Calls Try.prog 21 #[v1, v2] w fun e w' => e = .returned (.bool (decide (l = m))) ∧ Below w.heap.size w w' := by
  obtain ⟨A1, c1, rfl, hn1, hc1, hx1⟩ := h1.open_
  obtain ⟨A2, c2, rfl, hn2, hc2, hx2⟩ := h2.open_
  unfold maxLen at hc1 hc2
  by_cases hlen : l.length = m.length
  · have ht : ((l.length : Int) != (m.length : Int)) = false := by rw [bne_eq_false_iff_eq]; omega
    have HL := hid hlen
    clear hlen
    go_enter Try.func21, Try.ntmps21
    go_wp2_with fail
    go_loopw [5] (fun v5 wr => ∃ k : Nat, v5 = .int .i64 k ∧ k ≤ l.length ∧ l.take k = m.take k ∧ Below w.heap.size w wr) (fun v5 _ => l.length - (intOf v5).toNat)
    case atStart => exact ⟨0, rfl, by omega, rfl, Below.refl _ _⟩
    case round =>
      obtain ⟨k, rfl, hk, hpre, hb⟩ := hrel
      by_cases hlt : k < l.length
      · have hlt2 : k < m.length := by have := HL.out; omega
        obtain ⟨b1, o1, rfl, hb1, hcell1⟩ := hx1 (by omega)
        obtain ⟨b2, o2, rfl, hb2, hcell2⟩ := hx2 (by omega)
        have d1 := (hb.cell (p := ⟨b1, o1 + k, none⟩) hb1).trans (hcell1 k hlt)
        have d2 := (hb.cell (p := ⟨b2, o2 + k, none⟩) hb2).trans (hcell2 k hlt2)
        have hsame := take_snoc_eq hlt hlt2 hpre
        have hdiff : l[k] ≠ m[k] → l ≠ m := fun h e => h (by subst e; rfl)
        clear hcell1 hcell2 hx1 hx2 h1 h2 hpre
        generalize hX : l[k] = X at d1 hsame hdiff
        generalize hY : m[k] = Y at d2 hsame hdiff
        clear hX hY
        by_cases hXY : X = Y
        · subst hXY
          go_wp2_with fail
          go_quiet (fail)
          go_wp2_with fail
          go_roundw
          case rel => exact ⟨k + 1, rfl, by omega, hsame trivial, hb.trans ((below_drawn wr _).mono hb.size)⟩
          case measure => simp [intOf]; omega
        · have hb3 := hdiff hXY
          have hq : (X == Y) = false := by rw [beq_eq_false_iff_ne]; exact hXY
          go_wp2_with fail
          go_quiet (fail)
          go_wp2_with fail
          go_ret
          exact ⟨by simp [hb3], hb.trans ((below_drawn wr _).mono hb.size)⟩
      · obtain rfl : k = l.length := by omega
        have heq : l = m := by
          have h := hpre
          rw [List.take_length, HL.out, List.take_length] at h; exact h
        subst heq
        go_wp2_with fail
        go_ret
        exact ⟨by simp, hb⟩
  · have ht : ((l.length : Int) != (m.length : Int)) = true := by rw [bne_iff_ne]; omega
    have hne : l ≠ m := fun h => hlen (by rw [h])
    go_enter Try.func21, Try.ntmps21
    go_wp2_with fail
    go_ret
    exact ⟨by simp [hne], Below.refl _ _⟩

theorem ref_grown {G R R3 : Nat → Prop} {br : Nat} {L : List (List Nm)} {va : Value} {rows : List Value} {w w3 w9 : World} {nx : List Nm} {v3 v' : Value}
    (hI : RefIs w G br L R va rows) (hb : Below w.heap.size w w3) (hsl : SlF w3 R3 1 v3 (svs nx)) (hR3 : ∀ k, R3 k → w.heap.size ≤ k ∧ k < w3.heap.size)
    (hrow : w9.ownsRow 0 22 1 v' (L.length + 1) (rows ++ [v3])) (hg : w3.grownBy w9 va.ownBlock) (hw : v'.ownBlock = va.ownBlock ∨ v'.ownBlock = some w3.heap.size) :
    ∃ G' : Nat → Prop, RefAt (w9.setCell ⟨br, 0, none⟩ v') G' br (L ++ [nx]) ∧ Turn G w (w9.setCell ⟨br, 0, none⟩ v') ∧ ∀ k, G' k → G k ∨ w.heap.size ≤ k := by
  have t9 : Turn (fun k => va.ownBlock = some k) w3 w9 := Turn.of_grown hg (fun k h => h)
  have tS := turn_set w9 br 0 v'
  have t3 : Turn (fun k => va.ownBlock = some k ∨ k = br) w3 (w9.setCell ⟨br, 0, none⟩ v') := (t9.mono (fun _ _ h => .inl h)).trans tS (fun _ _ h => .inr h)
  have tw : Turn (fun k => va.ownBlock = some k ∨ k = br) w (w9.setCell ⟨br, 0, none⟩ v') := (Turn.of_below hb).trans t3 (fun _ _ h => h)
  have tw9 : Turn (fun k => va.ownBlock = some k) w w9 := (Turn.of_below hb).trans t9 (fun _ _ h => h)
  have hbr := hI.lt br hI.fbr
  have hva : ∀ g, va.ownBlock = some g → g < w.heap.size := fun g h => hI.lt g (hI.fva g h).1
  have s3 := hb.size
  have s9 := t9.size
  have hrl : rows.length = L.length := by have := hI.row.1; omega
  have hlen : (L ++ [nx]).length = L.length + 1 := by simp
  have hRo : ∀ k, R k → ¬ (va.ownBlock = some k ∨ k = br) := by
    intro k hk h
    rcases h with h | h
    · exact (hI.fva k h).2.2 hk
    · subst h; exact hI.rbr hk
  have hRn : ∀ k, R3 k → ¬ (va.ownBlock = some k ∨ k = br) := by
    intro k hk h
    have := (hR3 k hk).1
    rcases h with h | h
    · have := hva k h; omega
    · omega
  refine ⟨fun k => G k ∨ (w.heap.size ≤ k ∧ k < w9.heap.size), ⟨fun k => R k ∨ R3 k, v', rows ++ [v3], ?_, ?_, ?_, .inl hI.fbr, ?_, ?_, ?_, ?_, by simp⟩, ?_, ?_⟩
  · have h9 := block_turn hI.cell tw9 (fun h => (hI.fva br h).2.1 rfl)
    exact heap_setCell_same w9 br 0 _ _ v' h9
  · rw [hlen]
    refine own_turn hrow tS (fun g hg' h => ?_)
    subst h
    rcases hw with h | h
    · exact (hI.fva g (h ▸ hg')).2.1 rfl
    · rw [h] at hg'; injection hg' with hg'; omega
  · intro i r l h1 h2
    rcases Nat.lt_or_ge i L.length with hi | hi
    · rw [List.getElem?_append_left (by rw [hrl]; exact hi)] at h1
      rw [List.getElem?_append_left hi] at h2
      exact ((hI.lists i r l h1 h2).turn tw hRo).mono (fun g h => .inl h)
    · rw [List.getElem?_append_right (by rw [hrl]; exact hi), hrl] at h1
      rw [List.getElem?_append_right hi] at h2
      rcases Nat.eq_zero_or_pos (i - L.length) with h0 | h0
      · rw [h0] at h1 h2
        simp at h1 h2
        subst h1 h2
        exact (hsl.turn t3 hRn).mono (fun g h => .inr h)
      · rw [List.getElem?_eq_none (by simp; omega)] at h2; cases h2
  · intro g hg'
    have hlt := (hrow.lt g hg').2
    rcases hw with h | h
    · rw [h] at hg'
      obtain ⟨a, b, d⟩ := hI.fva g hg'
      refine ⟨.inl a, b, fun hh => hh.elim d (fun h8 => ?_)⟩
      have := (hR3 g h8).1
      have := hva g hg'
      omega
    · rw [h] at hg'
      injection hg' with hg'
      refine ⟨.inr ⟨by omega, hlt⟩, by omega, fun hh => hh.elim (fun hR => ?_) (fun h8 => ?_)⟩
      · have := hI.lt g (hI.rf g hR); omega
      · have := (hR3 g h8).2; omega
  · intro hh
    rcases hh with h | h
    · exact hI.rbr h
    · have := (hR3 br h).1; omega
  · intro k hk
    rcases hk with h | h
    · exact .inl (hI.rf k h)
    · have := hR3 k h
      exact .inr ⟨this.1, by omega⟩
  · intro k hk
    rw [World.size_setCell]
    rcases hk with h | h
    · have := hI.lt k h; omega
    · exact h.2
  · refine tw.mono (fun k _ h => ?_)
    rcases h with h | h
    · exact (hI.fva k h).1
    · subst h; exact hI.fbr
  · intro k hk
    rcases hk with h | h
    · exact .inl h
    · exact .inr h.1

set_option maxHeartbeats 1000000 in
theorem refadd_in (G : Nat → Prop) (br : Nat) (L : List (List Nm)) (s : Nat) (x : Nm) (w : World) (hT : RefAt w G br L) (hG : Good L) (hs : s < L.length) (hL : L.length ≤ 1000000000) :
    Calls Try.prog 16 #[.pointer (some ⟨br, 0, none⟩), .int .i64 s, sv x] w fun e w' =>
      ∃ G' : Nat → Prop, e = .returned (.tuple #[.int .i64 ((addT L s x).2 : Nat), .int .i64 0]) ∧ RefAt w' G' br (addT L s x).1 ∧ Turn G w w' ∧ ∀ k, G' k → G k ∨ w.heap.size ≤ k := by
  have hT2 := hT
  obtain ⟨R, va, rows, hI⟩ := hT
  obtain ⟨g, c, rfl, hm, hc0, hsh⟩ := hI.read
  unfold maxLen at hm
  obtain ⟨i0, hslot⟩ : ∃ i : Int, slotL L (s : Nat) x = (i, decide (x ∈ L.getD s [])) := by
    unfold slotL
    by_cases h : x ∈ L.getD s []
    · rw [if_pos ⟨by omega, by omega, by simpa using h⟩, decide_eq_true h]; exact ⟨_, rfl⟩
    · rw [if_neg (fun hh => h (by simpa using hh.2.2)), decide_eq_false h]; exact ⟨_, rfl⟩
  have g0 : ¬ ((s : Int) < 0) := by omega
  have g1 : ¬ ((L.length : Int) ≤ (s : Int)) := by omega
  by_cases h1 : x ∈ L.getD s []
  · have hv : addT L s x = (L, s) := by unfold addT; rw [if_pos h1]
    rw [hv]
    rw [decide_eq_true h1] at hslot
    clear hv hsh hI
    go_enter Try.func16, Try.ntmps16
    go_wp2_with fail
    refine (refslot_any G br L s x _ hT2).mono ?_
    rintro e w1 ⟨rfl, rfl⟩
    rw [hslot]
    go_wp2_with fail
    go_ret2
    exact ⟨G, rfl, hT2, Turn.refl _ _, fun _ h => .inl h⟩
  · obtain ⟨v, hr, hcv, hsl⟩ := hsh s hs
    rw [decide_eq_false h1] at hslot
    have hlen := good_len hG hs
    have hss : Ss w w.heap.size v (L.getD s []) := hsl.1
    have hadd : addT L s x = if L.getD s [] ++ [x] ∈ L then (L, L.idxOf (L.getD s [] ++ [x])) else (L ++ [L.getD s [] ++ [x]], L.length) := by unfold addT; rw [if_neg h1]
    rw [hadd]
    clear hadd h1
    have HI := hid hI
    clear hI hsl hsh
    generalize L.getD s [] = l at *
    generalize hnx : l ++ [x] = nx at *
    have hnl : nx.length = l.length + 1 := by rw [← hnx]; simp
    generalize hans : (if nx ∈ L then (L, L.idxOf nx) else (L ++ [nx], L.length)) = ans
    go_enter Try.func16, Try.ntmps16
    go_wp2_with fail
    refine (refslot_any G br L s x _ hT2).mono ?_
    rintro e w1 ⟨rfl, rfl⟩
    rw [hslot]
    clear hslot
    go_wp2_with (first
      | (at_builtin; refine wpList_appS rfl _ (.tmp 39) _ rfl w1.heap.size el_str _ _ rfl rfl (OwnS.nil _ _ _) hss (by simp; omega) (Nat.le_refl _) (fun v2 w2 hown2 hg2 hbk2 => ?_); have hb2 := below_appS (Below.refl w1.heap.size w1) (OwnS.nil w1 w1.heap.size 9) hg2 (Nat.le_refl _) (Nat.le_refl _); clear hg2 hbk2)
      | (at_builtin; refine wpList_appS rfl _ (.tmp 42) _ rfl w1.heap.size el_str _ _ rfl rfl (hown2.alloc _) (ss_new w2 x _) (by simp; omega) (le_alloc hb2.size _) (fun v3 w3 hown3 hg3 hbk3 => ?_); have hb3 := below_appS (hb2.alloc hb2.size _) (hown2.alloc _) hg3 (Nat.le_refl _) (le_alloc hb2.size _); clear hown2 hb2 hg3 hbk3))
    rw [List.nil_append, hnx] at hown3
    obtain ⟨g3, c3, rfl, hg3b, hg3l, hg3n, hg3m⟩ := own_form hown3.row (by omega)
    have HOWN3 := hid hown3
    have HB3 := hid hb3
    have HL := hid hnl
    clear hown3 hb3 hss hcv hr hc0 hnx hlen hnl
    go_loopw [11] (fun v11 wr => ∃ k : Nat, v11 = .int .i64 k ∧ k ≤ L.length ∧ nx ∉ L.take k ∧ Below w3.heap.size w3 wr) (fun v11 _ => L.length - (intOf v11).toNat)
    case atStart => exact ⟨0, rfl, by omega, by simp, Below.refl _ _⟩
    case round =>
      obtain ⟨k, rfl, hk, hnot, hbr⟩ := hrel
      have hB1 : Below w1.heap.size w1 wr := HB3.out.trans (hbr.mono HB3.out.size)
      have hI2 := HI.out.turn (Turn.of_below (F := fun _ => False) hB1) (fun _ _ h => h)
      obtain ⟨g', c', hva, _, hc0, hsh⟩ := hI2.read
      obtain ⟨rfl, rfl⟩ : g = g' ∧ c = c' := by simpa using hva
      clear hva
      have hown3 := HOWN3.out.below hbr
      by_cases hlt : k < L.length
      · obtain ⟨vk, hr, hcv, hsl⟩ := hsh k hlt
        have hssk : Ss wr wr.heap.size vk (L.getD k []) := hsl.1
        have hget : L.getD k [] = L[k] := by simp [hlt]
        have e1 : L.getD k [] = nx → ans = (L, k) := by
          intro h
          rw [← hans]
          rw [hget] at h
          rw [if_pos (by rw [← h]; exact List.getElem_mem hlt), idxOf_first hlt hnot h]
        have e2 : ¬ L.getD k [] = nx → nx ∉ L.take (k + 1) := by
          intro h
          rw [hget] at h
          exact notin_snoc hlt hnot h
        clear hsh hI2 hsl hnot hget
        generalize L.getD k [] = lk at *
        have hT3 : RefAt wr G br L := hT2.turn (Turn.of_below (F := fun _ => False) hB1) (fun _ _ h => h)
        go_wp2_with fail
        refine (same_any vk _ lk nx wr hssk hown3.ss).mono ?_
        rintro e w4 ⟨rfl, hb4⟩
        by_cases hq : lk = nx
        · rw [decide_eq_true hq]
          have e3 := e1 hq
          clear e1 e2 hq hans
          subst e3
          go_wp2_with fail
          go_ret2
          exact ⟨rfl, G, hT3.turn (Turn.of_below (F := fun _ => False) hb4) (fun _ _ h => h), Turn.of_below (bthen hB1 hb4), fun _ h => .inl h⟩
        · rw [decide_eq_false hq]
          have e3 := e2 hq
          clear e1 e2 hq
          go_wp2_with fail
          go_roundw
          case rel => exact ⟨k + 1, rfl, by omega, e3, hbr.trans (hb4.mono hbr.size)⟩
          case measure => simp [intOf]; omega
      · obtain rfl : k = L.length := by omega
        rw [List.take_length] at hnot
        rw [if_neg hnot] at hans
        subst hans
        clear hsh hnot
        have hrow := hI2.row.alloc (.cells #[.slice (some ⟨g3, 0, none⟩) nx.length c3] 22)
        have hsl3 : Sl (wr.alloc (.cells #[.slice (some ⟨g3, 0, none⟩) nx.length c3] 22)) (wr.heap.size + 1) 1 (.slice (some ⟨wr.heap.size, 0, none⟩) 1 1) [.slice (some ⟨g3, 0, none⟩) nx.length c3] :=
          sl_new wr _ _ 1 1 rfl (by decide)
        have hone : ∀ u ∈ ([.slice (some ⟨g3, 0, none⟩) nx.length c3] : List Value), u.oneCell' = true := by
          intro u hu
          simp at hu
          subst hu; rfl
        have h63 : L.length * 1 + ([.slice (some ⟨g3, 0, none⟩) nx.length c3] : List Value).length ≤ maxLen := by simp [maxLen]; omega
        have hbytes : (L.length * 1 + ([.slice (some ⟨g3, 0, none⟩) nx.length c3] : List Value).length) * 24 ≤ 140737488355328 := by simp; omega
        have hB9 : Below w1.heap.size w1 (wr.alloc (.cells #[.slice (some ⟨g3, 0, none⟩) nx.length c3] 22)) := hB1.alloc hB1.size _
        have hfin := fun w9 v' hrow9 hg9 hw9 => ref_grown (w9 := w9) (v' := v') (v3 := .slice (some ⟨g3, 0, none⟩) nx.length c3) (nx := nx) (R3 := fun j => j = g3) HI.out hB9
          (SlF.of_own (hown3.alloc _).row (fun j hj => by simp only [Value.ownBlock, Option.some.injEq] at hj; exact hj.symm)) (fun j hj => by subst hj; refine ⟨hg3b, ?_⟩; have := hbr.size; simp; omega) hrow9 hg9 hw9
        have HFIN := hid hfin
        have hbtl := hI2.lt br hI2.fbr
        have hcell := block_turn hI2.cell (Turn.alloc (fun _ => False) wr (.cells #[.slice (some ⟨g3, 0, none⟩) nx.length c3] 22)) id
        have hne : ¬ (Value.ownBlock (.slice (some ⟨g, 0, none⟩) L.length c) = some br) := fun h => (hI2.fva br h).2.1 rfl
        clear hfin hI2 hown3 hB9
        go_wp2_with (at_builtin; refine wpList_app rfl (.tmp 68) (.tmp 70) _ rfl 0 el_list _ _ rfl rfl hrow hsl3 hone h63 hbytes (Nat.zero_le _) (fun v' w9 n' hown9 hg9 hbk9 => ?_); obtain rfl : n' = L.length + 1 := (by have := hown9.1; have := hrow.1; simp only [List.length_append, List.length_cons, List.length_nil] at *; omega); obtain ⟨g9, c9, rfl, _, _, _, _⟩ := own_form hown9 (by omega); have hb9 := block_turn hcell (Turn.of_grown (F := fun j => Value.ownBlock (.slice (some ⟨g, 0, none⟩) L.length c) = some j) hg9 (fun j h => h)) hne; have hc9 : w9.cell? ⟨br, 0, none⟩ = some (.slice (some ⟨g, 0, none⟩) L.length c) := (cell_of_row _ _ _ _ _ (0, 0) hb9).trans rfl; have hf9 := frozen_of_block hb9 0)
        go_ret2
        obtain ⟨G', k1, k2, k3⟩ := HFIN.out _ _ hown9 hg9 hbk9
        exact ⟨rfl, G', k1, k2, k3⟩

theorem refadd_any (G : Nat → Prop) (br : Nat) (L : List (List Nm)) (s : Int) (x : Nm) (w : World) (hT : RefAt w G br L) (hG : Good L) (hL : L.length ≤ 1000000000) :
    Calls Try.prog 16 #[.pointer (some ⟨br, 0, none⟩), .int .i64 s, sv x] w fun e w' =>
      ∃ G' : Nat → Prop, e = .returned (.tuple #[.int .i64 (addL L s x).2.1, .int .i64 (addL L s x).2.2]) ∧ RefAt w' G' br (addL L s x).1 ∧ Turn G w w' ∧ ∀ k, G' k → G k ∨ w.heap.size ≤ k := by
  by_cases hs : 0 ≤ s ∧ s < L.length
  · obtain ⟨k, rfl⟩ : ∃ k : Nat, s = k := ⟨s.toNat, by omega⟩
    rw [addL_in (by omega)]
    exact refadd_in G br L k x w hT hG (by omega) hL
  · have hv : addL L s x = (L, 0, 1) := by unfold addL; rw [if_neg hs]
    rw [hv]
    have hT2 := hT
    obtain ⟨R, va, rows, hI⟩ := hT
    obtain ⟨g, c, rfl, hm, hc0, hsh⟩ := hI.read
    unfold maxLen at hm
    clear hI hsh hv
    by_cases h0 : s < 0
    · go_enter Try.func16, Try.ntmps16
      go_wp2_with fail
      go_ret2
      first | exact ⟨G, rfl, hT2, Turn.refl _ _, fun _ h => .inl h⟩ | exact ⟨rfl, G, hT2, Turn.refl _ _, fun _ h => .inl h⟩
    · have h1 : ¬ (s < (L.length : Int)) := by omega
      go_enter Try.func16, Try.ntmps16
      go_wp2_with fail
      go_ret2
      first | exact ⟨G, rfl, hT2, Turn.refl _ _, fun _ h => .inl h⟩ | exact ⟨rfl, G, hT2, Turn.refl _ _, fun _ h => .inl h⟩

def RefOfRel (G : Nat → Prop) (br : Nat) (L : List (List Nm)) (names : List Nm) (w : World) (k : Nat) (v6 : Value) (wr : World) : Prop :=
  v6 = .int .i64 ((ofT (L, 0) (names.take k)).2 : Nat) ∧ ∃ G' : Nat → Prop, RefAt wr G' br (ofT (L, 0) (names.take k)).1 ∧ Turn G w wr ∧ ∀ j, G' j → G j ∨ w.heap.size ≤ j

set_option maxHeartbeats 400000 in
theorem refof_any (G : Nat → Prop) (br : Nat) (L : List (List Nm)) (v : Value) (names : List Nm) (w : World) (hT : RefAt w G br L) (hG : Good L) (hv : Ss w w.heap.size v names) (hd : 0 < names.length → ∀ g, v.ownBlock = some g → ¬ G g)
    (hm : ∀ y ∈ names, y.length ≤ maxLen) (hL : L.length + names.length ≤ 1000000000) :
    Calls Try.prog 14 #[.pointer (some ⟨br, 0, none⟩), v] w fun e w' =>
      ∃ G' : Nat → Prop, e = .returned (.tuple #[.int .i64 ((ofT (L, 0) names).2 : Nat), .int .i64 0]) ∧ RefAt w' G' br (ofT (L, 0) names).1 ∧ Turn G w w' ∧ ∀ k, G' k → G k ∨ w.heap.size ≤ k := by
  obtain ⟨A, c, rfl, hn, hc, hx⟩ := hv.open_
  unfold maxLen at hc
  go_enter Try.func14, Try.ntmps14
  go_wp2_with fail
  go_loopw [6, 7] (fun v6 v7 wr => ∃ k : Nat, v7 = .int .i64 k ∧ k ≤ names.length ∧ RefOfRel G br L names w k v6 wr) (fun _ v7 _ => names.length - (intOf v7).toNat)
  case atStart => exact ⟨0, rfl, by omega, rfl, G, hT, Turn.refl _ _, fun _ h => .inl h⟩
  case round =>
    obtain ⟨k, rfl, hk, rfl, G1, hT1, ht1, hn1⟩ := hrel
    obtain ⟨a1, a2, a3, a4⟩ := ofT_good hG hG.pos hm k hk
    by_cases hlt : k < names.length
    · obtain ⟨b, o, rfl, hb, hcell⟩ := hx (by omega)
      have d1 := ss_cell ht1 hb (hd (by omega) b rfl) (j := 0) (hcell k hlt)
      have hadd := addL_in a2 names[k]
      have hsnoc := ofT_take (r := (L, 0)) hlt
      have HS := hid hsnoc
      have HA := hid hadd
      clear hsnoc hadd hcell hx
      have hstep : ∀ F2 w2, RefAt w2 F2 br (ofT (L, 0) (names.take (k + 1))).1 → Turn G1 wr w2 → (∀ j, F2 j → G1 j ∨ wr.heap.size ≤ j) → ∃ G' : Nat → Prop, RefAt w2 G' br (ofT (L, 0) (names.take (k + 1))).1 ∧ Turn G w w2 ∧ ∀ j, G' j → G j ∨ w.heap.size ≤ j := by
        intro F2 w2 h1 h2 h3
        refine ⟨F2, h1, ht1.trans h2 (fun j hj h => (hn1 j h).elim id (fun h => absurd h (by omega))), fun j h => ?_⟩
        rcases h3 j h with h | h
        · exact hn1 j h
        · have := ht1.size; exact .inr (by omega)
      have HSTEP := hid hstep
      clear hstep ht1 hn1
      generalize names[k] = X at *
      go_wp2_with fail
      refine (refadd_any G1 br _ _ X _ hT1 a1 (by omega)).mono ?_
      rintro e w2 ⟨F2, rfl, hT2, ht2, hn2⟩
      rw [HA.out] at hT2 ⊢
      go_wp2_with fail
      go_roundw
      case rel => exact ⟨k + 1, rfl, by omega, by rw [HS.out], HSTEP.out F2 _ (by rw [HS.out]; exact hT2) ht2 hn2⟩
      case measure => simp [intOf]; omega
    · obtain rfl : k = names.length := by omega
      rw [List.take_length] at *
      go_wp2_with fail
      go_ret2
      exact ⟨G1, rfl, hT1, ht1, hn1⟩
end Go.Proofs.Ytaokgblkhnipgaa
