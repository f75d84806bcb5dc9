/- The contract of shape's Add. -/
import Derived.Test.YtaokgblkhnipgaaSE
import Derived.Test.YtaokgblkhnipgaaMR
import Derived.Deep.RegionLawGrows
set_option linter.unusedVariables false
namespace Go.Proofs.Ytaokgblkhnipgaa
open Go.RowKit
open Go.Maps (has IsMap Keyed)

/-- What Add leaves. -/
def AddPost (F : Nat → Prop) (bt : Nat) (L : List (List Nm)) (s : Int) (x : Nm) (w : World) (e : Ending) (w' : World) : Prop :=
  ∃ F' : Nat → Prop, e = .returned (.tuple #[.int .i64 (addL L s x).2.1, .int .i64 (addL L s x).2.2]) ∧ TreeAt w' F' bt (addL L s x).1 ∧ Turn F w w' ∧ ∀ k, F' k → F k ∨ w.heap.size ≤ k

theorem frozen_of_block {w : World} {b : Nat} {cs : Array Value} {t : TypeId} (h : w.heap[b]? = some (.cells cs t (0, 0))) (i : Nat) : w.frozen? ⟨b, i, none⟩ = false := by
  simp [World.frozen?, h]
theorem live_of_block {w : World} {b : Nat} {o : Obj} (h : w.heap[b]? = some o) : b < w.heap.size := block_lt h
/-- The loop that fills the map of slots. -/
def FillRel (w5 : World) (b k : Nat) (nx : List Nm) (wr : World) : Prop :=
  ∃ D : Dm, wr.ownsMap Try.prog 9 (plainElem Try.prog 3) b k D ∧ Slots D (nx.take k) ∧ Turn (fun i => i = b) w5 wr
theorem FillRel.step {w5 wr w' : World} {b k : Nat} {nx : List Nm} {D : Dm} (hD : IsMap D) (hs : Slots D (nx.take k)) (ht : Turn (fun i => i = b) w5 wr) (hk : k < nx.length) (hnd : nx.Nodup) 
    (hown : w'.ownsMap Try.prog 9 (plainElem Try.prog 3) b (k + 1) (D.put (.string nx[k]) (.lit (.int .i64 (k : Nat))))) (hg : wr.grownBy w' (some b)) : FillRel w5 b (k + 1) nx w' := by
  refine ⟨_, hown, ?_, ht.trans (Turn.of_grown (F := fun i => i = b) hg (fun j h => by injection h with h; exact h.symm)) (fun _ _ h => h)⟩
  have h1 : nx.take (k + 1) = nx.take k ++ [nx[k]] := List.take_succ_eq_append_getElem hk
  have h2 : (nx.take k).length = k := by simp; omega
  have h3 : nx[k] ∉ nx.take k := by
    intro h
    obtain ⟨j, hj, e⟩ := List.getElem_of_mem h
    rw [List.getElem_take] at e
    have hj' : j < k := by simp at hj; omega
    have := (List.getElem_inj (h₀ := by omega) (h₁ := hk) hnd).1 e
    omega
  have := slots_put hD hs h3
  rw [h2] at this
  rw [h1]; exact this

set_option maxHeartbeats 1000000 in
theorem add_new (F : Nat → Prop) (bt : Nat) (L : List (List Nm)) (s : Nat) (x : Nm) (w : World) (hT : TreeAt w F bt L) (hs : s < L.length) (hx : x.length ≤ maxLen) (hL : L.length ≤ 1000000000) (h1 : x ∉ L.getD s []) (h2 : L.getD s [] ++ [x] ∉ L) :
    Calls Try.prog 15 #[.pointer (some ⟨bt, 0, none⟩), .int .i64 s, sv x] w fun e w' =>
      ∃ F' : Nat → Prop, e = .returned (.tuple #[.int .i64 (L.length : Nat), .int .i64 0]) ∧ TreeAt w' F' bt (L ++ [L.getD s [] ++ [x]]) ∧ Turn F w w' ∧ ∀ k, F' k → F k ∨ w.heap.size ≤ k := by
  have hgood := hT.good
  obtain ⟨R, bs, va, D, rows, hI⟩ := hT
  obtain ⟨g, c, rfl, hm, hc0, hc1, hsh⟩ := hI.read
  obtain ⟨v, m, hr, hcv, hcm, hat⟩ := hsh s hs
  have hlook1 := shape_look hat hx
  have hlook2 := steps_look hI hs (by omega) hx
  rw [if_neg h1, decide_eq_false h1] at hlook1
  rw [if_neg h2, decide_eq_false h2] at hlook2
  have hlen := good_len hgood hs
  have hsl : Ss w w.heap.size v (L.getD s []) := hat.1.1
  have hlnd := (hgood.2.2.2 _ (getD_mem hs)).1
  have hlmx := (hgood.2.2.2 _ (getD_mem hs)).2.2
  have hgoodn := good_snoc hgood (getD_mem hs) h1 hx h2
  have hput := fun (kl : Lit) (hk : keyOf Try.prog 57 (stepV s x) = some kl) => steps_put law_step hI.steps.isMap hgood hI.holds (getD_get hs) h2 hk
  have HI := hid hI
  have Hsh := hid hsh
  clear hI hsh hat
  generalize L.getD s [] = l at *
  generalize hnx : l ++ [x] = nx at *
  have HPUT := hid hput
  clear hput
  have hmm := @run_makeMap Try.prog
  go_enter Try.func15, Try.ntmps15
  go_wp2_with fail
  refine (at_in w bt g _ _ s hc0 hm hs).mono ?_
  rintro e w1 ⟨rfl, rfl⟩
  go_wp2_with (first | (at_lookup; refine wpList_look rfl _ _ _ _ rfl rfl rfl hlook1 ?_) | (at_lookup; refine wpList_look rfl _ _ _ _ rfl rfl rfl hlook2 ?_))
  refine (clone_s v l _ hsl (by omega)).mono ?_
  rintro e w2 ⟨v2, rfl, hown2, hb2⟩
  clear hlook1 hlook2
  have hb2' := (hb2.alloc hb2.size (.cells #[sv x] 9))
  have hnx1 : nx.length = l.length + 1 := by rw [← hnx]; simp
  go_wp2_with (at_builtin; refine wpList_appS rfl (.tmp 49) (.tmp 51) _ rfl w1.heap.size el_str _ _ rfl rfl (hown2.alloc _) (ss_new w2 x _) (by simp; omega) (le_alloc hb2.size _) (fun v3 w3 hown3 hg3 hbk3 => ?_); rw [hnx] at hown3; have hb3 := below_appS hb2' (hown2.alloc _) hg3 (Nat.le_refl _) (le_alloc hb2.size _); obtain ⟨g3, c3, rfl, hg3b, hg3l, hg3n, hg3m⟩ := own_form hown3.row (by omega); have HOWN3 := hid hown3; have HB3 := hid hb3; clear hown3 hb3 hg3 hbk3 hb2 hb2' hown2 hsl)
  have hnxn : nx.Nodup := by
    rw [← hnx, List.nodup_append]
    refine ⟨hlnd, by simp, fun a ha b hb e => h1 ?_⟩
    simp at hb; subst hb; subst e; exact ha
  have hmx : ∀ y ∈ nx, y.length ≤ maxLen := by
    intro y hy
    rw [← hnx, List.mem_append] at hy
    rcases hy with hy | hy
    · exact hlmx y hy
    · simp at hy; subst hy; exact hx
  have s4 : (w3.alloc (.map #[] 0)).heap.size = w3.heap.size + 1 := by simp
  generalize hw5 : ((w3.alloc (.map #[] 0)).alloc (.cells #[.slice (some ⟨g3, 0, none⟩) (l.length + 1) c3, .map (some w3.heap.size)] 48)) = w5
  have hown5 : w5.ownsMap Try.prog 9 (plainElem Try.prog 3) w3.heap.size 0 (.map [] : Dm) := by
    rw [← hw5]; exact (World.ownsMap_made w3 _ _ _).alloc _
  have hp5 : w5.heap[w3.heap.size + 1]? = some (.cells #[.slice (some ⟨g3, 0, none⟩) (l.length + 1) c3, .map (some w3.heap.size)] 48 (0, 0)) := by
    rw [← hw5, ← s4]; exact heap_alloc_new _ _
  have hB5 : Below w1.heap.size w1 w5 := by
    rw [← hw5]; exact ((HB3.out.alloc HB3.out.size _).alloc (by rw [s4]; have := HB3.out.size; omega) _)
  have hs5 : w5.heap.size = w3.heap.size + 2 := by rw [← hw5]; simp
  have hown35 : OwnS w5 w1.heap.size 9 (.slice (some ⟨g3, 0, none⟩) (l.length + 1) c3) nx := by
    rw [← hw5]; have := HOWN3.out; rw [hnx1] at this; exact (this.alloc _).alloc _
  clear hw5
  go_loopw [58] (fun v58 wr => ∃ k : Nat, v58 = .int .i64 k ∧ k ≤ l.length + 1 ∧ FillRel w5 w3.heap.size k nx wr) (fun v58 _ => l.length + 1 - (intOf v58).toNat)
  case atStart => exact ⟨0, rfl, by omega, _, hown5, slots_nil, Turn.refl _ _⟩
  case round =>
    obtain ⟨k, rfl, hk, D5, hmap, hsl5, ht5⟩ := hrel
    have hp := block_turn hp5 ht5 (by omega)
    have c0p : wr.cell? ⟨w3.heap.size + 1, 0, none⟩ = some (.slice (some ⟨g3, 0, none⟩) (l.length + 1) c3) := by rw [cell_of_row _ _ _ _ _ (0, 0) hp]; rfl
    have c1p : wr.cell? ⟨w3.heap.size + 1, 1, none⟩ = some (.map (some w3.heap.size)) := by rw [cell_of_row _ _ _ _ _ (0, 0) hp]; rfl
    have hown3r := hown35.turn ht5 (fun g hg => by
      simp only [Value.ownBlock, Option.some.injEq] at hg
      omega)
    by_cases hlt : k < nx.length
    · have c3p : wr.cell? ⟨g3, k, none⟩ = some (sv nx[k]) := by
        have := hown3r.row.cells (g := g3) rfl k _ (svs_get nx k hlt)
        rwa [plain_add, Nat.zero_add] at this
      have hkey := key_nm (hmx _ (List.getElem_mem hlt))
      have hstep := fun w' => @FillRel.step w5 wr w' w3.heap.size k nx D5 hmap.isMap hsl5 ht5 hlt hnxn
      generalize nx[k] = X at c3p hkey hstep
      have HSTEP := hid hstep
      clear hstep hsl5 hp5 hp hown35 hown3r hown5 hnxn hmx hlmx hlnd hgood
      go_wp2_with (at_mapUpdate; refine wpList_mapUpdate_own _ rfl _ _ _ 46 rfl 9 3 law_str Try.underlying46 _ w3.heap.size k D5 rfl hmap (by unfold maxLen; omega) _ _ (.string X) rfl rfl hkey (.lit (.int .i64 (k : Nat))) [] (plainElem_int Try.underlying3 (wf_nat (by omega))) ?_; intro w6 hown6 hgrow6)
      go_roundw
      case rel => exact ⟨k + 1, rfl, by omega, HSTEP.out _ hown6 hgrow6⟩
      case measure => simp [intOf]; omega
    · obtain rfl : k = nx.length := by omega
      rw [List.take_length] at hsl5
      have hBr : Below w1.heap.size w1 wr := hB5.trans (ht5.below hB5.size (fun j hj e => by have := HB3.out.size; omega))
      have hbtl := HI.out.lt bt HI.out.fbt
      have b0 := (hBr.cell (p := ⟨bt, 0, none⟩) hbtl).trans hc0
      have b1 := (hBr.cell (p := ⟨bt, 1, none⟩) hbtl).trans hc1
      have hst := map_turn HI.out.steps (Turn.of_below (F := fun _ => False) hBr) id
      obtain ⟨kl, hkl⟩ := key_step s x (wf_nat (by omega)) hx
      have hkl' : keyOf Try.prog 57 (.agg #[.int .i64 s, sv x]) = some kl := hkl
      go_wp2_with (at_mapUpdate; refine wpList_mapUpdate_own _ rfl _ _ _ 50 rfl 57 3 law_step Try.underlying50 _ bs L.length D rfl hst (by unfold maxLen; omega) _ _ kl rfl rfl hkl' (.lit (.int .i64 (L.length : Nat))) [] (plainElem_int Try.underlying3 (wf_nat (by omega))) ?_; intro w7 hown7 hgrow7)
      have hT7 : Turn (fun k => k = bs) w1 w7 := (Turn.of_below (F := fun k => k = bs) hBr).trans (Turn.of_grown (F := fun k => k = bs) hgrow7 (fun j h => by injection h with h; exact h.symm)) (fun _ _ h => h)
      have hgt := HI.out.lt bs HI.out.fbs
      have h3s := HB3.out.size
      have hrs := hBr.size
      have t7 : Turn (fun k => k = bs) wr w7 := Turn.of_grown (F := fun k => k = bs) hgrow7 (fun j h => by injection h with h; exact h.symm)
      have hp7 := block_turn hp t7 (by omega)
      have hbt7 : w7.heap[bt]? = some (.cells #[.slice (some ⟨g, 0, none⟩) L.length c, .map (some bs)] 52 (0, 0)) := block_turn HI.out.cell hT7 HI.out.ne
      have hrow7 := own_turn HI.out.row hT7 (fun j hj => (HI.out.fva j hj).2.2.1)
      have hsh7 : ShapeAt w7 (fun k => w1.heap.size ≤ k ∧ k < w3.heap.size + 2) (.slice (some ⟨g3, 0, none⟩) (l.length + 1) c3) (.map (some w3.heap.size)) nx := by
        refine ⟨SlF.of_own (hown3r.turn t7 (fun j hj e => ?_)).row (fun j hj => ?_), .inr ⟨w3.heap.size, nx.length, D5, rfl, ⟨h3s, by omega⟩, map_turn hmap t7 (by omega), hsl5⟩⟩
        · simp only [Value.ownBlock, Option.some.injEq] at hj; omega
        · simp only [Value.ownBlock, Option.some.injEq] at hj; omega
      clear hp hown3r hmap hsl5 hst b0 b1 c0p c1p t7
      have hsteps7 := HPUT.out kl hkl
      have hLn : L.length ≤ 1000000000 := hL
      have hwsz := hT7.size
      have h7p : w3.heap.size + 1 < w7.heap.size := block_lt hp7
      have hScells : ∀ w : World, w.heap[w3.heap.size + 1]? = some (.cells #[.slice (some ⟨g3, 0, none⟩) (l.length + 1) c3, .map (some w3.heap.size)] 48 (0, 0)) →
          w.cell? ⟨w3.heap.size + 1, 0, none⟩ = some (.slice (some ⟨g3, 0, none⟩) (l.length + 1) c3) ∧ w.cell? ⟨w3.heap.size + 1, 1, none⟩ = some (.map (some w3.heap.size)) :=
        fun w h => ⟨(cell_of_row w _ _ _ _ (0, 0) h).trans rfl, (cell_of_row w _ _ _ _ (0, 0) h).trans rfl⟩
      have hS8 := hScells w7.drew hp7
      have e8 : w7.drew.heap.size = w7.heap.size := rfl
      have hB8 : Below w7.heap.size w7 (w7.drew.alloc (.cells #[.slice (some ⟨g3, 0, none⟩) (l.length + 1) c3, .map (some w3.heap.size)] 48)) :=
        (below_drawn w7 1).alloc (Nat.le_refl _) _
      have hp8 : (w7.drew.alloc (.cells #[.slice (some ⟨g3, 0, none⟩) (l.length + 1) c3, .map (some w3.heap.size)] 48)).heap[w3.heap.size + 1]? = _ := (hB8.block _ h7p).trans hp7
      have hS8a := hScells _ hp8
      have hbt8 : (w7.drew.alloc (.cells #[.slice (some ⟨g3, 0, none⟩) (l.length + 1) c3, .map (some w3.heap.size)] 48)).heap[bt]? = _ := (hB8.block _ (by omega)).trans hbt7
      have hrow8 := own_below hrow7 hB8
      have hcb : w7.drew.cell? ⟨bt, 0, none⟩ = some (.slice (some ⟨g, 0, none⟩) L.length c) := (cell_of_row w7 _ _ _ _ (0, 0) hbt7).trans rfl
      have hcb2 : (w7.drew.alloc (.cells #[.slice (some ⟨g3, 0, none⟩) (l.length + 1) c3, .map (some w3.heap.size)] 48)).cell? ⟨bt, 0, none⟩ = some (.slice (some ⟨g, 0, none⟩) L.length c) := (cell_of_row _ _ _ _ _ (0, 0) hbt8).trans rfl
      have hsl8 : Sl (w7.drew.alloc (.cells #[.slice (some ⟨g3, 0, none⟩) (l.length + 1) c3, .map (some w3.heap.size)] 48)) (w7.heap.size + 1) 2 (.slice (some ⟨w7.heap.size, 0, none⟩) 1 1) [.slice (some ⟨g3, 0, none⟩) (l.length + 1) c3, .map (some w3.heap.size)] :=
        sl_new w7.drew _ _ 2 1 rfl (by decide)
      have hone : ∀ u ∈ ([.slice (some ⟨g3, 0, none⟩) (l.length + 1) c3, .map (some w3.heap.size)] : List Value), u.oneCell' = true := by
        intro u hu
        simp at hu
        rcases hu with rfl | rfl <;> rfl
      have h63 : L.length * 2 + ([.slice (some ⟨g3, 0, none⟩) (l.length + 1) c3, .map (some w3.heap.size)] : List Value).length ≤ maxLen := by simp [maxLen]; omega
      have hbytes : (L.length * 2 + ([.slice (some ⟨g3, 0, none⟩) (l.length + 1) c3, .map (some w3.heap.size)] : List Value).length) * 32 ≤ 140737488355328 := by simp; omega
      have hgl := HI.out.lt g (HI.out.fva g rfl).1
      have hbtl2 := HI.out.lt bt HI.out.fbt
      have hpg : ¬ (Value.ownBlock (.slice (some ⟨g, 0, none⟩) L.length c) = some (w3.heap.size + 1)) := fun h => by simp only [Value.ownBlock, Option.some.injEq] at h; omega
      have hbtg : ¬ (Value.ownBlock (.slice (some ⟨g, 0, none⟩) L.length c) = some bt) := fun h => (HI.out.fva bt h).2.1 rfl
      have hpbt : ¬ (w3.heap.size + 1 = bt) := by omega
      generalize hw8 : w7.drew.alloc (.cells #[.slice (some ⟨g3, 0, none⟩) (l.length + 1) c3, .map (some w3.heap.size)] 48) = w8 at *
      refine wp_region_held_drew (S := fun w => w.cell? ⟨w3.heap.size + 1, 0, none⟩ = some (.slice (some ⟨g3, 0, none⟩) (l.length + 1) c3) ∧ w.cell? ⟨w3.heap.size + 1, 1, none⟩ = some (.map (some w3.heap.size))) (by kernel_rfl) hS8 (fun _ => ?_)
      simp only [Act.put, List.setIfInBounds_toArray, List.set_cons_zero, List.set_cons_succ]
      refine wpAnyH_take (i := 0) (v := (.pointer (some ⟨bt, 0, none⟩))) rfl (by kernel_rfl) (by kernel_rfl) (by kernel_rfl) (fun _ _ _ h => h) (Or.inl ⟨by rfl, by intro w hSw; go_simp⟩) hS8 ?_
      try simp only [Act.put, List.getElem_toArray, List.getElem_cons_zero, List.getElem_cons_succ, List.setIfInBounds_toArray, List.set_cons_zero, List.set_cons_succ]
      refine wpAnyH_take (i := 1) (v := (.pointer (some ⟨bt, 0, none⟩))) rfl (by kernel_rfl) (by kernel_rfl) (by kernel_rfl) (fun _ _ _ h => h) (Or.inl ⟨by rfl, by intro w hSw; go_simp⟩) hS8 ?_
      try simp only [Act.put, List.getElem_toArray, List.getElem_cons_zero, List.getElem_cons_succ, List.setIfInBounds_toArray, List.set_cons_zero, List.set_cons_succ]
      refine wpAnyH_take (i := 2) (v := (.pointer (some ⟨bt, 0, none⟩))) rfl (by kernel_rfl) (by kernel_rfl) (by kernel_rfl) (fun _ _ _ h => h) (Or.inl ⟨by rfl, by intro w hSw; go_simp⟩) hS8 ?_
      try simp only [Act.put, List.getElem_toArray, List.getElem_cons_zero, List.getElem_cons_succ, List.setIfInBounds_toArray, List.set_cons_zero, List.set_cons_succ]
      refine wpAnyH_take (i := 3) (v := (.pointer (some ⟨bt, 0, none⟩))) rfl (by kernel_rfl) (by kernel_rfl) (by kernel_rfl) (fun _ _ _ h => h) (Or.inl ⟨by rfl, by intro w hSw; go_simp⟩) hS8 ?_
      try simp only [Act.put, List.getElem_toArray, List.getElem_cons_zero, List.getElem_cons_succ, List.setIfInBounds_toArray, List.set_cons_zero, List.set_cons_succ]
      refine wpAnyH_ready (rs := [4, 5]) (by kernel_rfl) (by simp) ?_
      refine AllReadyH.cons rfl (fun K hK => ?_) (AllReadyH.cons rfl (fun K hK => ?_) AllReadyH.nil)
      · go_simp
        refine hK.out _ _ hS8 (fun _ => ?_)
        clear hK K
        try simp only [Act.put, List.getElem_toArray, List.getElem_cons_zero, List.getElem_cons_succ, List.setIfInBounds_toArray, List.set_cons_zero, List.set_cons_succ]
        refine wpAnyH_ready (rs := [5]) (by kernel_rfl) (by simp) ?_
        refine AllReadyH.cons rfl (fun K hK => ?_) AllReadyH.nil
        go_simp
        refine hK.out _ _ hS8 (fun _ => ?_)
        clear hK K
        try simp only [Act.put, List.getElem_toArray, List.getElem_cons_zero, List.getElem_cons_succ, List.setIfInBounds_toArray, List.set_cons_zero, List.set_cons_succ]
        refine wpAnyH_ready (rs := [6]) (by kernel_rfl) (by simp) ?_
        refine AllReadyH.cons rfl (fun K hK => ?_) AllReadyH.nil
        go_simp
        try rw [hw8]
        refine hK.out _ _ hS8a (fun _ => ?_)
        clear hK K
        try simp only [Act.put, List.getElem_toArray, List.getElem_cons_zero, List.getElem_cons_succ, List.setIfInBounds_toArray, List.set_cons_zero, List.set_cons_succ]
        refine wpAnyH_ready (rs := [7]) (by kernel_rfl) (by simp) ?_
        refine AllReadyH.cons rfl (fun K hK => ?_) AllReadyH.nil
        refine step_app rfl (.tmp 85) (.tmp 87) _ rfl 0 el_shape _ _ rfl rfl hrow8 hsl8 hone h63 hbytes (Nat.zero_le _) (fun v' w9 n' hown9 hg9 hbk9 => ?_)
        obtain rfl : n' = L.length + 1 := by have := hown9.1; have := hrow8.1; simp only [List.length_append, List.length_cons, List.length_nil] at *; omega
        obtain ⟨g9, c9, rfl, _, _, _, _⟩ := own_form hown9 (by omega)
        have hp9 := block_turn hp8 (Turn.of_grown (F := fun j => Value.ownBlock (.slice (some ⟨g, 0, none⟩) L.length c) = some j) hg9 (fun j h => h)) hpg
        have hbt9 := block_turn hbt8 (Turn.of_grown (F := fun j => Value.ownBlock (.slice (some ⟨g, 0, none⟩) L.length c) = some j) hg9 (fun j h => h)) hbtg
        have hS9 := hScells w9 hp9
        have hf9 := frozen_of_block hbt9 0
        have hl9 : w9.cell? ⟨bt, 0, none⟩ = some (.slice (some ⟨g, 0, none⟩) L.length c) := (cell_of_row _ _ _ _ _ (0, 0) hbt9).trans rfl
        refine hK.out _ _ hS9 (fun _ => ?_)
        clear hK K
        try simp only [Act.put, List.getElem_toArray, List.getElem_cons_zero, List.getElem_cons_succ, List.setIfInBounds_toArray, List.set_cons_zero, List.set_cons_succ]
        refine wpAnyH_ready (rs := [8]) (by kernel_rfl) (by simp) ?_
        refine AllReadyH.cons rfl (fun K hK => ?_) AllReadyH.nil
        go_simp
        refine hK.out _ _ hS9 (fun _ => ?_)
        clear hK K
        try simp only [Act.put, List.getElem_toArray, List.getElem_cons_zero, List.getElem_cons_succ, List.setIfInBounds_toArray, List.set_cons_zero, List.set_cons_succ]
        refine wpAnyH_ready (rs := [9]) (by kernel_rfl) (by simp) ?_
        refine AllReadyH.cons rfl (fun K hK => ?_) AllReadyH.nil
        go_simp
        refine hK.out _ _ hS9 (fun _ => ?_)
        clear hK K
        try simp only [Act.put, List.getElem_toArray, List.getElem_cons_zero, List.getElem_cons_succ, List.setIfInBounds_toArray, List.set_cons_zero, List.set_cons_succ]
        refine wpAnyH_ready (rs := [10]) (by kernel_rfl) (by simp) ?_
        refine AllReadyH.cons rfl (fun K hK => ?_) AllReadyH.nil
        go_simp
        refine hK.out _ _ (hScells _ (block_turn hp9 (turn_set w9 bt 0 _) hpbt)) (fun _ => ?_)
        clear hK K
        try simp only [Act.put, List.getElem_toArray, List.getElem_cons_zero, List.getElem_cons_succ, List.setIfInBounds_toArray, List.set_cons_zero, List.set_cons_succ]
        refine wpAnyH_done (by kernel_rfl) ?_ _
        go_wp2_with fail
        go_ret2
        obtain ⟨F', k1, k2, k3⟩ := tree_grown HI.out hT7 hown7 hsteps7 hgoodn hsh7 (fun k hk => ⟨hk.1, Nat.lt_of_lt_of_le hk.2 (by omega)⟩) hB8 hown9 hg9 hbk9
        exact ⟨F', rfl, k1, k2, k3⟩
      · go_simp
        refine hK.out _ _ hS8 (fun _ => ?_)
        clear hK K
        try simp only [Act.put, List.getElem_toArray, List.getElem_cons_zero, List.getElem_cons_succ, List.setIfInBounds_toArray, List.set_cons_zero, List.set_cons_succ]
        refine wpAnyH_ready (rs := [4, 6]) (by kernel_rfl) (by simp) ?_
        refine AllReadyH.cons rfl (fun K hK => ?_) (AllReadyH.cons rfl (fun K hK => ?_) AllReadyH.nil)
        · go_simp
          refine hK.out _ _ hS8 (fun _ => ?_)
          clear hK K
          try simp only [Act.put, List.getElem_toArray, List.getElem_cons_zero, List.getElem_cons_succ, List.setIfInBounds_toArray, List.set_cons_zero, List.set_cons_succ]
          refine wpAnyH_ready (rs := [6]) (by kernel_rfl) (by simp) ?_
          refine AllReadyH.cons rfl (fun K hK => ?_) AllReadyH.nil
          go_simp
          try rw [hw8]
          refine hK.out _ _ hS8a (fun _ => ?_)
          clear hK K
          try simp only [Act.put, List.getElem_toArray, List.getElem_cons_zero, List.getElem_cons_succ, List.setIfInBounds_toArray, List.set_cons_zero, List.set_cons_succ]
          refine wpAnyH_ready (rs := [7]) (by kernel_rfl) (by simp) ?_
          refine AllReadyH.cons rfl (fun K hK => ?_) AllReadyH.nil
          refine step_app rfl (.tmp 85) (.tmp 87) _ rfl 0 el_shape _ _ rfl rfl hrow8 hsl8 hone h63 hbytes (Nat.zero_le _) (fun v' w9 n' hown9 hg9 hbk9 => ?_)
          obtain rfl : n' = L.length + 1 := by have := hown9.1; have := hrow8.1; simp only [List.length_append, List.length_cons, List.length_nil] at *; omega
          obtain ⟨g9, c9, rfl, _, _, _, _⟩ := own_form hown9 (by omega)
          have hp9 := block_turn hp8 (Turn.of_grown (F := fun j => Value.ownBlock (.slice (some ⟨g, 0, none⟩) L.length c) = some j) hg9 (fun j h => h)) hpg
          have hbt9 := block_turn hbt8 (Turn.of_grown (F := fun j => Value.ownBlock (.slice (some ⟨g, 0, none⟩) L.length c) = some j) hg9 (fun j h => h)) hbtg
          have hS9 := hScells w9 hp9
          have hf9 := frozen_of_block hbt9 0
          have hl9 : w9.cell? ⟨bt, 0, none⟩ = some (.slice (some ⟨g, 0, none⟩) L.length c) := (cell_of_row _ _ _ _ _ (0, 0) hbt9).trans rfl
          refine hK.out _ _ hS9 (fun _ => ?_)
          clear hK K
          try simp only [Act.put, List.getElem_toArray, List.getElem_cons_zero, List.getElem_cons_succ, List.setIfInBounds_toArray, List.set_cons_zero, List.set_cons_succ]
          refine wpAnyH_ready (rs := [8]) (by kernel_rfl) (by simp) ?_
          refine AllReadyH.cons rfl (fun K hK => ?_) AllReadyH.nil
          go_simp
          refine hK.out _ _ hS9 (fun _ => ?_)
          clear hK K
          try simp only [Act.put, List.getElem_toArray, List.getElem_cons_zero, List.getElem_cons_succ, List.setIfInBounds_toArray, List.set_cons_zero, List.set_cons_succ]
          refine wpAnyH_ready (rs := [9]) (by kernel_rfl) (by simp) ?_
          refine AllReadyH.cons rfl (fun K hK => ?_) AllReadyH.nil
          go_simp
          refine hK.out _ _ hS9 (fun _ => ?_)
          clear hK K
          try simp only [Act.put, List.getElem_toArray, List.getElem_cons_zero, List.getElem_cons_succ, List.setIfInBounds_toArray, List.set_cons_zero, List.set_cons_succ]
          refine wpAnyH_ready (rs := [10]) (by kernel_rfl) (by simp) ?_
          refine AllReadyH.cons rfl (fun K hK => ?_) AllReadyH.nil
          go_simp
          refine hK.out _ _ (hScells _ (block_turn hp9 (turn_set w9 bt 0 _) hpbt)) (fun _ => ?_)
          clear hK K
          try simp only [Act.put, List.getElem_toArray, List.getElem_cons_zero, List.getElem_cons_succ, List.setIfInBounds_toArray, List.set_cons_zero, List.set_cons_succ]
          refine wpAnyH_done (by kernel_rfl) ?_ _
          go_wp2_with fail
          go_ret2
          obtain ⟨F', k1, k2, k3⟩ := tree_grown HI.out hT7 hown7 hsteps7 hgoodn hsh7 (fun k hk => ⟨hk.1, Nat.lt_of_lt_of_le hk.2 (by omega)⟩) hB8 hown9 hg9 hbk9
          exact ⟨F', rfl, k1, k2, k3⟩
        · go_simp
          try rw [hw8]
          refine hK.out _ _ hS8a (fun _ => ?_)
          clear hK K
          try simp only [Act.put, List.getElem_toArray, List.getElem_cons_zero, List.getElem_cons_succ, List.setIfInBounds_toArray, List.set_cons_zero, List.set_cons_succ]
          refine wpAnyH_ready (rs := [4]) (by kernel_rfl) (by simp) ?_
          refine AllReadyH.cons rfl (fun K hK => ?_) AllReadyH.nil
          go_simp
          refine hK.out _ _ hS8a (fun _ => ?_)
          clear hK K
          try simp only [Act.put, List.getElem_toArray, List.getElem_cons_zero, List.getElem_cons_succ, List.setIfInBounds_toArray, List.set_cons_zero, List.set_cons_succ]
          refine wpAnyH_ready (rs := [7]) (by kernel_rfl) (by simp) ?_
          refine AllReadyH.cons rfl (fun K hK => ?_) AllReadyH.nil
          refine step_app rfl (.tmp 85) (.tmp 87) _ rfl 0 el_shape _ _ rfl rfl hrow8 hsl8 hone h63 hbytes (Nat.zero_le _) (fun v' w9 n' hown9 hg9 hbk9 => ?_)
          obtain rfl : n' = L.length + 1 := by have := hown9.1; have := hrow8.1; simp only [List.length_append, List.length_cons, List.length_nil] at *; omega
          obtain ⟨g9, c9, rfl, _, _, _, _⟩ := own_form hown9 (by omega)
          have hp9 := block_turn hp8 (Turn.of_grown (F := fun j => Value.ownBlock (.slice (some ⟨g, 0, none⟩) L.length c) = some j) hg9 (fun j h => h)) hpg
          have hbt9 := block_turn hbt8 (Turn.of_grown (F := fun j => Value.ownBlock (.slice (some ⟨g, 0, none⟩) L.length c) = some j) hg9 (fun j h => h)) hbtg
          have hS9 := hScells w9 hp9
          have hf9 := frozen_of_block hbt9 0
          have hl9 : w9.cell? ⟨bt, 0, none⟩ = some (.slice (some ⟨g, 0, none⟩) L.length c) := (cell_of_row _ _ _ _ _ (0, 0) hbt9).trans rfl
          refine hK.out _ _ hS9 (fun _ => ?_)
          clear hK K
          try simp only [Act.put, List.getElem_toArray, List.getElem_cons_zero, List.getElem_cons_succ, List.setIfInBounds_toArray, List.set_cons_zero, List.set_cons_succ]
          refine wpAnyH_ready (rs := [8]) (by kernel_rfl) (by simp) ?_
          refine AllReadyH.cons rfl (fun K hK => ?_) AllReadyH.nil
          go_simp
          refine hK.out _ _ hS9 (fun _ => ?_)
          clear hK K
          try simp only [Act.put, List.getElem_toArray, List.getElem_cons_zero, List.getElem_cons_succ, List.setIfInBounds_toArray, List.set_cons_zero, List.set_cons_succ]
          refine wpAnyH_ready (rs := [9]) (by kernel_rfl) (by simp) ?_
          refine AllReadyH.cons rfl (fun K hK => ?_) AllReadyH.nil
          go_simp
          refine hK.out _ _ hS9 (fun _ => ?_)
          clear hK K
          try simp only [Act.put, List.getElem_toArray, List.getElem_cons_zero, List.getElem_cons_succ, List.setIfInBounds_toArray, List.set_cons_zero, List.set_cons_succ]
          refine wpAnyH_ready (rs := [10]) (by kernel_rfl) (by simp) ?_
          refine AllReadyH.cons rfl (fun K hK => ?_) AllReadyH.nil
          go_simp
          refine hK.out _ _ (hScells _ (block_turn hp9 (turn_set w9 bt 0 _) hpbt)) (fun _ => ?_)
          clear hK K
          try simp only [Act.put, List.getElem_toArray, List.getElem_cons_zero, List.getElem_cons_succ, List.setIfInBounds_toArray, List.set_cons_zero, List.set_cons_succ]
          refine wpAnyH_done (by kernel_rfl) ?_ _
          go_wp2_with fail
          go_ret2
          obtain ⟨F', k1, k2, k3⟩ := tree_grown HI.out hT7 hown7 hsteps7 hgoodn hsh7 (fun k hk => ⟨hk.1, Nat.lt_of_lt_of_le hk.2 (by omega)⟩) hB8 hown9 hg9 hbk9
          exact ⟨F', rfl, k1, k2, k3⟩

set_option maxHeartbeats 400000 in
theorem add_any (F : Nat → Prop) (bt : Nat) (L : List (List Nm)) (s : Int) (x : Nm) (w : World) (hT : TreeAt w F bt L) (hx : x.length ≤ maxLen) (hL : L.length ≤ 1000000000) :
    Calls Try.prog 15 #[.pointer (some ⟨bt, 0, none⟩), .int .i64 s, sv x] w fun e w' =>
      ∃ F' : Nat → Prop, e = .returned (.tuple #[.int .i64 (addL L s x).2.1, .int .i64 (addL L s x).2.2]) ∧ TreeAt w' F' bt (addL L s x).1 ∧ Turn F w w' ∧ ∀ k, F' k → F k ∨ w.heap.size ≤ k := by
  by_cases hs : 0 ≤ s ∧ s < L.length
  · obtain ⟨k, rfl⟩ : ∃ k : Nat, s = k := ⟨s.toNat, by omega⟩
    have hk : k < L.length := by omega
    have hv : addL L k x = ((addT L k x).1, ((addT L k x).2 : Int), 0) := by unfold addL; rw [if_pos hs]; rfl
    rw [hv]
    clear hv
    by_cases h1 : x ∈ L.getD k []
    · have hv : addT L k x = (L, k) := by unfold addT; rw [if_pos h1]
      rw [hv]
      clear hv
      have hT2 := hT
      obtain ⟨R, bs, va, D, rows, hI⟩ := hT
      obtain ⟨g, c, rfl, hm, hc0, hc1, hsh⟩ := hI.read
      obtain ⟨v, m, hr, hcv, hcm, hat⟩ := hsh k hk
      have hlook1 := shape_look hat hx
      rw [if_pos h1, decide_eq_true h1] at hlook1
      clear hI hsh hat
      go_enter Try.func15, Try.ntmps15
      go_wp2_with fail
      refine (at_in w bt g _ _ k hc0 hm hk).mono ?_
      rintro e w1 ⟨rfl, rfl⟩
      go_wp2_with (at_lookup; refine wpList_look rfl _ _ _ _ rfl rfl rfl hlook1 ?_)
      go_ret2
      exact ⟨F, rfl, hT2, Turn.refl _ _, fun _ h => .inl h⟩
    · by_cases h2 : L.getD k [] ++ [x] ∈ L
      · have hv : addT L k x = (L, L.idxOf (L.getD k [] ++ [x])) := by unfold addT; rw [if_neg h1, if_pos h2]
        rw [hv]
        clear hv
        have hT2 := hT
        obtain ⟨R, bs, va, D, rows, hI⟩ := hT
        obtain ⟨g, c, rfl, hm, hc0, hc1, hsh⟩ := hI.read
        obtain ⟨v, m, hr, hcv, hcm, hat⟩ := hsh k hk
        have hlook1 := shape_look hat hx
        have hlook2 := steps_look hI hk (by omega) hx
        rw [if_neg h1, decide_eq_false h1] at hlook1
        rw [if_pos h2, decide_eq_true h2] at hlook2
        clear hI hsh hat h1 h2
        generalize L.getD k [] ++ [x] = nx at *
        go_enter Try.func15, Try.ntmps15
        go_wp2_with fail
        refine (at_in w bt g _ _ k hc0 hm hk).mono ?_
        rintro e w1 ⟨rfl, rfl⟩
        go_wp2_with (first | (at_lookup; refine wpList_look rfl _ _ _ _ rfl rfl rfl hlook1 ?_) | (at_lookup; refine wpList_look rfl _ _ _ _ rfl rfl rfl hlook2 ?_))
        go_ret2
        exact ⟨F, rfl, hT2, Turn.refl _ _, fun _ h => .inl h⟩
      · have hv : addT L k x = (L ++ [L.getD k [] ++ [x]], L.length) := by unfold addT; rw [if_neg h1, if_neg h2]
        rw [hv]
        exact add_new F bt L k x w hT hk hx hL h1 h2
  · have hv : addL L s x = (L, 0, 1) := by unfold addL; rw [if_neg hs]
    rw [hv]
    have hT2 := hT
    obtain ⟨R, bs, va, D, rows, hI⟩ := hT
    obtain ⟨g, c, rfl, hm, hc0, hc1, hsh⟩ := hI.read
    clear hI hsh hv
    go_enter Try.func15, Try.ntmps15
    go_wp2_with fail
    refine (at_out w bt _ _ _ s hc0 hm hs).mono ?_
    rintro e w1 ⟨rfl, rfl⟩
    go_wp2_with fail
    go_ret2
    exact ⟨F, rfl, hT2, Turn.refl _ _, fun _ h => .inl h⟩
end Go.Proofs.Ytaokgblkhnipgaa
