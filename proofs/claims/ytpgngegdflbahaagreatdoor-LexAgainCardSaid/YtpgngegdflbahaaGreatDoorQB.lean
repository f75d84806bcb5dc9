/- What strings.Replacer builds at texts of one byte each that are replaced by texts: a table by the byte. -/
import Derived.Test.YtpgngegdflbahaaGreatDoorQA
import Derived.Test.YtpgngegdflbahaaGreatDoorXK
import Derived.Laws.MakeOwn
import Derived.Lib.ConvBytes
import Derived.Lib.AtoiErrMem
set_option linter.unusedVariables false
namespace Go.Proofs.YtpgngegdflbahaaGreatDoor
open Go.RowKit

/-- A replacer's cells. -/
def repW (w : World) (b : Nat) (d st : Int) (rv ov : Value) : Prop := w.heap[b]? = some (.cells #[.int .u32 d, .int .i32 st, .int .u32 0, rv, ov] 63 (0, 0))
def oldL : List Bt := [[92], [92, 92], [34], [92, 34], [10], [92, 110], [9], [92, 116]]
/-- What is replaced, in the order of the table's making. -/
def escP : List (UInt8 × Bt) := [(9, [92, 116]), (10, [92, 110]), (34, [92, 34]), (92, [92, 92])]
def nilV : Value := .slice none 0 0
/-- The table by the byte (l), and the texts that are replaced (m). -/
def TabM (w : World) (base bs : Nat) (m : List Bt) (l : List (UInt8 × Bt)) : Prop :=
  ∃ (cs : Array Value) (tr : Value), w.heap[bs]? = some (.cells cs 91 (0, 0)) ∧ cs.size = 257 ∧ cs[256]? = some tr ∧ OwnS w base 9 tr m ∧ base ≤ bs ∧ tr.ownBlock ≠ some bs ∧
    ∀ c : UInt8, (l.lookup c = none → cs[c.toNat]? = some nilV) ∧ (∀ u, l.lookup c = some u → ∃ g k, cs[c.toNat]? = some (.slice (some ⟨g, 0, none⟩) u.length k) ∧ base ≤ g ∧ g < w.heap.size ∧ g ≠ bs ∧ tr.ownBlock ≠ some g ∧ ∀ (j : Nat) (hj : j < u.length), w.cell? ⟨g, j, none⟩ = some (.int .u8 (u[j].toNat : Int)))
theorem TabM.below {w w' : World} {base bs : Nat} {m : List Bt} {l : List (UInt8 × Bt)} (h : TabM w base bs m l) (hb : Below w.heap.size w w') : TabM w' base bs m l := by
  obtain ⟨cs, tr, h1, h2, h3, h4, h5, h6, h7⟩ := h
  refine ⟨cs, tr, (hb.block bs (block_lt h1)).trans h1, h2, h3, h4.below hb, h5, h6, fun c => ⟨(h7 c).1, fun u hu => ?_⟩⟩
  obtain ⟨g, k, a1, a0, a2, a3, a4, a7⟩ := (h7 c).2 u hu
  exact ⟨g, k, a1, a0, Nat.lt_of_lt_of_le a2 hb.size, a3, a4, fun j hj => (hb.cell (p := ⟨g, j, none⟩) a2).trans (a7 j hj)⟩
theorem TabM.grow {w w9 : World} {base bs : Nat} {m m' : List Bt} {l : List (UInt8 × Bt)} {cs : Array Value} {tr tr' : Value} (h : TabM w base bs m l) (hcs : w.heap[bs]? = some (.cells cs 91 (0, 0))) (htr : cs[256]? = some tr)
    (hg : w.grownBy w9 tr.ownBlock) (ho : OwnS w9 base 9 tr' m') (hb : tr'.ownBlock = tr.ownBlock ∨ tr'.ownBlock = some w.heap.size) : TabM (w9.setCell ⟨bs, 256, none⟩ tr') base bs m' l := by
  obtain ⟨cs0, tr0, h1, h2, h3, h4, h5, h6, h7⟩ := h
  rw [hcs] at h1
  simp only [Option.some.injEq, Obj.cells.injEq] at h1
  obtain ⟨rfl, _⟩ := h1
  rw [htr] at h3
  injection h3 with h3
  subst h3
  have hbs : bs < w.heap.size := block_lt hcs
  have hg9 : w9.heap[bs]? = some (.cells cs 91 (0, 0)) := (hg.block bs hbs h6.symm).trans hcs
  have hne : tr'.ownBlock ≠ some bs := by
    rcases hb with hb | hb
    · rw [hb]; exact h6
    · rw [hb]; intro h; injection h with h; omega
  have ht := turn_set w9 bs 256 tr'
  refine ⟨cs.setIfInBounds 256 tr', tr', heap_setCell_same w9 bs 256 _ _ tr' hg9, by simp [h2], ?_, ho.turn ht (fun g hg h => hne (by rw [hg, h])), h5, hne, fun c => ?_⟩
  · rw [Array.getElem?_setIfInBounds_self]; simp [h2]
  · have hc := c.toNat_lt
    have hcs' : (cs.setIfInBounds 256 tr')[c.toNat]? = cs[c.toNat]? := by rw [Array.getElem?_setIfInBounds_ne (by omega)]
    rw [hcs']
    refine ⟨(h7 c).1, fun u hu => ?_⟩
    obtain ⟨g, k, a1, a0, a2, a3, a4, a7⟩ := (h7 c).2 u hu
    refine ⟨g, k, a1, a0, by simp only [World.size_setCell]; exact Nat.lt_of_lt_of_le a2 hg.size, a3, ?_, fun j hj => ?_⟩
    · rcases hb with hb | hb
      · rw [hb]; exact a4
      · rw [hb]; intro h; injection h with h; omega
    · rw [World.cell?_setCell_other _ _ _ _ (by intro h; have := congrArg Addr.block h; simp at this; omega)]
      have : w9.cell? ⟨g, j, none⟩ = w.cell? ⟨g, j, none⟩ := by simp only [World.cell?, hg.block g a2 a4.symm]
      rw [this]; exact a7 j hj
theorem TabM.put {w : World} {base bs : Nat} {m : List Bt} {l : List (UInt8 × Bt)} (h : TabM w base bs m l) (c : UInt8) (u : Bt) (hl : l.lookup c = none) {w' : World} (hb : Below w.heap.size w w') {k : Nat}
    (hlt : w.heap.size < w'.heap.size) (hc : ∀ (j : Nat) (hj : j < u.length), w'.cell? ⟨w.heap.size, j, none⟩ = some (.int .u8 (u[j].toNat : Int))) :
    TabM (w'.setCell ⟨bs, c.toNat, none⟩ (.slice (some ⟨w.heap.size, 0, none⟩) u.length k)) base bs m (l ++ [(c, u)]) := by
  have h' := h.below hb
  obtain ⟨cs0, tr0, g1, _, g3, g4, _, _, _⟩ := h
  have hbs : bs < w.heap.size := block_lt g1
  obtain ⟨cs, tr, h1, h2, h3, h4, h5, h6, h7⟩ := h'
  have hsame : some (Obj.cells cs 91 (0, 0)) = some (Obj.cells cs0 91 (0, 0)) := by rw [← h1, ← g1, hb.block bs hbs]
  injection hsame with hsame
  injection hsame with hsame
  subst hsame
  rw [h3] at g3
  injection g3 with g3
  subst g3
  have hcl := c.toNat_lt
  have ht := turn_set w' bs c.toNat (.slice (some ⟨w.heap.size, 0, none⟩) u.length k)
  refine ⟨cs.setIfInBounds c.toNat (.slice (some ⟨w.heap.size, 0, none⟩) u.length k), tr, heap_setCell_same w' bs c.toNat _ _ _ h1, by simp [h2], ?_, h4.turn ht (fun g hg h => h6 (by rw [hg, h])), h5, h6, fun d => ?_⟩
  · rw [Array.getElem?_setIfInBounds_ne (by omega)]; exact h3
  · have hd := d.toNat_lt
    rw [List.lookup_append]
    by_cases hcd : d = c
    · subst hcd
      rw [hl]
      have : List.lookup d [(d, u)] = some u := by simp [List.lookup]
      rw [this]
      constructor
      · intro h
        simp at h
      intro u' hu'
      simp at hu'
      subst hu'
      refine ⟨w.heap.size, k, ?_, by omega, by simp only [World.size_setCell]; exact hlt, by omega, fun h => ?_, fun j hj => ?_⟩
      · rw [Array.getElem?_setIfInBounds_self]; simp [h2]; omega
      · have := (g4.lt _ h).2; omega
      · rw [World.cell?_setCell_other _ _ _ _ (by intro h; have := congrArg Addr.block h; simp at this; omega)]
        exact hc j hj
    · have hdc : (d == c) = false := by rw [beq_eq_false_iff_ne]; exact hcd
      have hno : List.lookup d [(c, u)] = none := by simp [List.lookup, hdc]
      rw [hno, Option.or_none]
      have hcs' : (cs.setIfInBounds c.toNat (.slice (some ⟨w.heap.size, 0, none⟩) u.length k))[d.toNat]? = cs[d.toNat]? := by
        rw [Array.getElem?_setIfInBounds_ne (by intro h; exact hcd (UInt8.toNat_inj.1 h.symm))]
      rw [hcs']
      refine ⟨(h7 d).1, fun u' hu' => ?_⟩
      obtain ⟨g, k', a1, a0, a2, a3, a4, a7⟩ := (h7 d).2 u' hu'
      refine ⟨g, k', a1, a0, by simp only [World.size_setCell]; exact a2, a3, a4, fun j hj => ?_⟩
      rw [World.cell?_setCell_other _ _ _ _ (by intro h; have := congrArg Addr.block h; simp at this; omega)]
      exact a7 j hj
theorem tab_cell {w : World} {base bs : Nat} {m : List Bt} {l : List (UInt8 × Bt)} (h : TabM w base bs m l) (c : UInt8) (hl : l.lookup c = none) : w.cell? ⟨bs, c.toNat, none⟩ = some (.slice none 0 0) ∧ w.frozen? ⟨bs, c.toNat, none⟩ = false := by
  obtain ⟨cs, tr, h1, h2, h3, h4, h5, h6, h7⟩ := h
  exact ⟨(cell_of_row _ _ _ _ _ (0, 0) h1).trans ((h7 c).1 hl), block_free h1 _⟩
theorem tab_rep {w : World} {base bs : Nat} {m : List Bt} {l : List (UInt8 × Bt)} (h : TabM w base bs m l) : ∃ cs tr, w.heap[bs]? = some (.cells cs 91 (0, 0)) ∧ cs[256]? = some tr ∧ w.cell? ⟨bs, 256, none⟩ = some tr ∧ w.frozen? ⟨bs, 256, none⟩ = false ∧ OwnS w base 9 tr m ∧ tr.ownBlock ≠ some bs := by
  obtain ⟨cs, tr, h1, h2, h3, h4, h5, h6, h7⟩ := h
  exact ⟨cs, tr, h1, h3, (cell_of_row _ _ _ _ _ (0, 0) h1).trans h3, block_free h1 _, h4, h6⟩
theorem zero_tab : Tryz.zeroCells91 = (List.replicate 257 nilV).toArray := by kernel_rfl
theorem tab_new (w1 : World) (base : Nat) (v : Value) (h1 : v.oneCell' = true) (hown : OwnS w1 base 9 v []) (hbase : base ≤ w1.heap.size) :
    ∃ W2, (storeCells ⟨w1.heap.size, 0, none⟩ (Tryz.zeroCells91.toList.set 256 v)).run Tryz.prog (w1.alloc (.cells Tryz.zeroCells91 91)) = .ok () W2 ∧ TabM W2 base w1.heap.size [] [] ∧ Below w1.heap.size w1 W2 := by
  rw [zero_tab]
  obtain ⟨N, hN⟩ : ∃ N, N = 257 := ⟨_, rfl⟩
  rw [← hN]
  have hg := heap_alloc_new w1 (.cells (List.replicate N nilV).toArray 91)
  have hrun := run_storeCells_from (P := Tryz.prog) w1.heap.size 91 ((List.replicate N nilV).set 256 v) 0 _ _ hg (by simp) (by
    intro x hx
    rcases List.mem_or_eq_of_mem_set hx with hx | hx
    · rw [List.mem_replicate] at hx; rw [hx.2]; rfl
    · rw [hx]; exact h1)
  have hal : Below w1.heap.size w1 (w1.alloc (.cells (List.replicate N nilV).toArray 91)) := (Below.refl _ _).alloc (Nat.le_refl _) _
  rw [List.take_zero, List.nil_append] at hrun
  have hbel : Below w1.heap.size w1 ((w1.alloc (.cells (List.replicate N nilV).toArray 91)).setRow w1.heap.size ((List.replicate N nilV).set 256 v).toArray) := by
    refine ⟨hal.os, hal.tape, hal.output, by simp, fun k hk => ?_⟩
    rw [setRow_other _ _ _ _ (by omega)]
    exact hal.block k hk
  refine ⟨_, hrun, ?_, hbel⟩
  refine ⟨((List.replicate N nilV).set 256 v).toArray, v, setRow_heap _ _ _ _ _ _ hg, by rw [List.size_toArray, List.length_set, List.length_replicate, hN], ?_, hown.below hbel, hbase, fun h => ?_, fun c => ⟨fun _ => ?_, fun u hu => by simp at hu⟩⟩
  · rw [List.getElem?_toArray, List.getElem?_set_self (by simp; omega)]
  · have := (hown.lt _ h).2; omega
  · have hc := c.toNat_lt
    rw [List.getElem?_toArray, List.getElem?_set_ne (by omega), List.getElem?_replicate, if_pos (by omega)]

theorem esc_at (k i : Nat) (hk : k < 4) (hi : i + 2 * k = 6) : ∃ (c : UInt8) (u : Bt), (∀ h : i < oldL.length, oldL[i] = [c]) ∧ (∀ h : i + 1 < oldL.length, oldL[i + 1] = u) ∧ (escP.take k).lookup c = none ∧ escP.take (k + 1) = escP.take k ++ [(c, u)] ∧ u.length ≤ 2 := by
  have : (k = 0 ∧ i = 6) ∨ (k = 1 ∧ i = 4) ∨ (k = 2 ∧ i = 2) ∨ (k = 3 ∧ i = 0) := by omega
  rcases this with ⟨rfl, rfl⟩ | ⟨rfl, rfl⟩ | ⟨rfl, rfl⟩ | ⟨rfl, rfl⟩
  · exact ⟨9, [92, 116], fun _ => rfl, fun _ => rfl, rfl, rfl, by decide⟩
  · exact ⟨10, [92, 110], fun _ => rfl, fun _ => rfl, rfl, rfl, by decide⟩
  · exact ⟨34, [92, 34], fun _ => rfl, fun _ => rfl, rfl, rfl, by decide⟩
  · exact ⟨92, [92, 92], fun _ => rfl, fun _ => rfl, rfl, rfl, by decide⟩
theorem own_shape {w : World} {base : Nat} {e : TypeId} {v : Value} {m : List Bt} (h : OwnS w base e v m) (hm : 0 < m.length) : ∃ g c n, v = .slice (some ⟨g, 0, none⟩) n c := by
  obtain ⟨g, c, hv, _⟩ := own_form h.row hm
  exact ⟨g, c, _, hv⟩
theorem make_str (w : World) (c : Nat) (hc : c ≤ 1000000) : ∃ w1, (Instr.makeSlice 46 (.int .i64 0) (.int .i64 (c : Nat))).run Tryz.prog w = .ok (.slice (some ⟨w.heap.size, 0, none⟩) 0 c) w1 ∧
    OwnS w1 w.heap.size 9 (.slice (some ⟨w.heap.size, 0, none⟩) 0 c) [] ∧ Below w.heap.size w w1 := by
  obtain ⟨ht, hinfo, _, _⟩ := el_str
  obtain ⟨i, hi, hz, hs, hb⟩ := info_parts hinfo
  obtain ⟨w1, hmk, hown0, hg0⟩ := run_make_own (P := Tryz.prog) (w := w) w.heap.size 46 9 i _ 1 ht hi hz hs .i64 .i64 c (by rw [hb]; omega) (by unfold maxLen; omega) (Nat.le_refl _)
  exact ⟨w1, hmk, ⟨0, hown0⟩, below_of_grown hg0⟩

set_option maxRecDepth 100000 in
set_option maxHeartbeats 4000000 in
theorem build_any (w : World) (b : Nat) (ov : Value) (hR : repW w b 0 1 .nilIface ov) (hv : Ss w w.heap.size ov oldL) :
    Calls Tryz.prog 34 #[.pointer (some ⟨b, 0, none⟩)] w fun e w' => ∃ bs, e = .returned (.iface 92 (.pointer (some ⟨bs, 0, none⟩))) ∧ TabM w' w.heap.size bs (escP.map fun p => [p.1]) escP ∧ Below w.heap.size w w' := by
  have c4 : w.cell? ⟨b, 4, none⟩ = some ov := (cell_of_row _ _ _ _ _ (0, 0) hR).trans rfl
  obtain ⟨A, c, rfl, hn, hc, hx⟩ := hv.open_
  have hol : oldL.length = 8 := rfl
  rw [hol] at hn c4
  unfold maxLen at hc
  obtain ⟨g, o, rfl, hg, hcell⟩ := hx (by rw [hol]; omega)
  have d0 : w.cell? ⟨g, o, none⟩ = some (sv [92]) := hcell 0 (by rw [hol]; omega)
  have d1 : w.cell? ⟨g, o + 1, none⟩ = some (sv [92, 92]) := hcell 1 (by rw [hol]; omega)
  have d2 : w.cell? ⟨g, o + 2, none⟩ = some (sv [34]) := hcell 2 (by rw [hol]; omega)
  have d3 : w.cell? ⟨g, o + 3, none⟩ = some (sv [92, 34]) := hcell 3 (by rw [hol]; omega)
  have d4 : w.cell? ⟨g, o + 4, none⟩ = some (sv [10]) := hcell 4 (by rw [hol]; omega)
  have d5 : w.cell? ⟨g, o + 5, none⟩ = some (sv [92, 110]) := hcell 5 (by rw [hol]; omega)
  have d6 : w.cell? ⟨g, o + 6, none⟩ = some (sv [9]) := hcell 6 (by rw [hol]; omega)
  have d7 : w.cell? ⟨g, o + 7, none⟩ = some (sv [92, 116]) := hcell 7 (by rw [hol]; omega)
  have HC := hid hcell
  obtain ⟨w1, hmk, hown1, hb1⟩ := make_str w 4 (by omega)
  have HMK := hid hmk
  have HOWN := hid hown1
  clear hmk hown1
  clear hx hcell hv
  go_enter Tryz.func34, Tryz.ntmps34
  go_wp2_with fail
  go_loop [4, 5] (fun v4 v5 => (v5 = .int .i64 0 ∧ v4 = .bool true) ∨ (v4 = .bool false ∧ (v5 = .int .i64 2 ∨ v5 = .int .i64 4 ∨ v5 = .int .i64 6 ∨ v5 = .int .i64 8))) (fun _ v5 => 8 - (intOf v5).toNat)
  case atStart => exact .inl ⟨rfl, rfl⟩
  case round =>
    rcases hrel with ⟨rfl, rfl⟩ | ⟨rfl, hv5⟩
    · go_wp2_with fail
      go_round
      case rel => exact .inr ⟨rfl, .inl rfl⟩
      case measure => simp [intOf]
    · rcases hv5 with rfl | rfl | rfl | rfl
      · go_wp2_with fail
        go_round
        case rel => exact .inr ⟨rfl, .inr (.inl rfl)⟩
        case measure => simp [intOf]
      · go_wp2_with fail
        go_round
        case rel => exact .inr ⟨rfl, .inr (.inr (.inl rfl))⟩
        case measure => simp [intOf]
      · go_wp2_with fail
        go_round
        case rel => exact .inr ⟨rfl, .inr (.inr (.inr rfl))⟩
        case measure => simp [intOf]
      · clear d0 d1 d2 d3 d4 d5 d6 d7
        have hmk : (Instr.makeSlice 46 (.int .i64 0) (.int .i64 4)).run Tryz.prog w = .ok (.slice (some ⟨w.heap.size, 0, none⟩) 0 4) w1 := HMK.out
        obtain ⟨W2, hst, hT2, hb2⟩ := tab_new w1 w.heap.size (.slice (some ⟨w.heap.size, 0, none⟩) 0 4) rfl HOWN.out hb1.size
        have HT2 := hid hT2
        have hB2 := bthen hb1 hb2
        clear hT2 HOWN
        go_wp2_with fail
        generalize hbs : w1.heap.size = bs at *
        have HD := hid HC.out
        have hTn := hid (show w.heap.size ≤ bs by rw [← hbs]; exact hb1.size)
        clear hst hmk HMK HC hbs hb1 hb2
        go_loopw [12, 13, 14] (fun v12 v13 v14 wr => Below w.heap.size w wr ∧ ((∃ k i : Nat, k < 4 ∧ i + 2 * k = 6 ∧ v12 = .int .i64 i ∧ TabM wr w.heap.size bs ((escP.take k).map fun p => [p.1]) (escP.take k)) ∨ (v12 = .int .i64 (-2) ∧ TabM wr w.heap.size bs (escP.map fun p => [p.1]) escP))) (fun v12 _ _ _ => (intOf v12 + 2).toNat)
        case atStart => exact ⟨hB2, .inl ⟨0, 6, by omega, rfl, rfl, HT2.out⟩⟩
        case round =>
          obtain ⟨hbr, hrel⟩ := hrel
          rcases hrel with ⟨k, i, hk, hik, rfl, hT⟩ | ⟨rfl, hT⟩
          · obtain ⟨c0, u0, hc0, hu0, hlk, htk, hul⟩ := esc_at k i hk hik
            have hi8 : i + 1 < 8 := by omega
            have hc256 : (c0.toNat : Int) < 256 := by have := c0.toNat_lt; omega
            have hp : ∀ j (hj : j < oldL.length), wr.cell? ⟨g, o + j, none⟩ = some (sv oldL[j]) := fun j hj => (hbr.cell (p := ⟨g, o + j, none⟩) hg).trans (HD.out j hj)
            have p0 : wr.cell? ⟨g, o + i, none⟩ = some (sv [c0]) := by rw [hp i (by rw [hol]; omega), hc0]
            have p1 : wr.cell? ⟨g, o + (i + 1), none⟩ = some (sv u0) := by rw [hp (i + 1) (by rw [hol]; omega), hu0]
            have hix : (ByteArray.mk [c0].toArray)[0]'(by rw [sv_size]; simp) = c0 := sv_index [c0] 0 (by simp)
            obtain ⟨x1, x2⟩ := tab_cell hT c0 hlk
            obtain ⟨cs, tr, t1, t3, t4, t5, t6, t7⟩ := tab_rep hT
            have hbA : Below wr.heap.size wr ((wr.alloc (.cells #[.int .u8 (c0.toNat : Int)] 5)).alloc (.cells #[sv [c0]] 9)) := ((Below.refl _ _).alloc (Nat.le_refl _) _).alloc (by simp) _
            have hcv : (convert 66 9 (.slice (some ⟨wr.heap.size, 0, none⟩) 1 1)).run Tryz.prog (wr.alloc (.cells #[.int .u8 (c0.toNat : Int)] 5)) = .ok (sv [c0]) (wr.alloc (.cells #[.int .u8 (c0.toNat : Int)] 5)) := by
              have h := run_string_of (P := Tryz.prog) (bs_new wr (c0.toNat : Int) 5 (by have := c0.toNat_lt; omega)) 66 5 9 Tryz.underlying66 Tryz.underlying5 Tryz.underlying9
              simpa using h
            have hTB := hT.below hbA
            have t6B := t6.below hbA
            have t1B := (hbA.block bs (block_lt t1)).trans t1
            have hsB := ss_new (wr.alloc (.cells #[.int .u8 (c0.toNat : Int)] 5)) [c0] 9
            have s6 : (wr.alloc (.cells #[.int .u8 (c0.toNat : Int)] 5)).heap.size = wr.heap.size + 1 := by simp
            rw [s6] at hsB
            have hszB : w.heap.size ≤ ((wr.alloc (.cells #[.int .u8 (c0.toNat : Int)] 5)).alloc (.cells #[sv [c0]] 9)).heap.size := Nat.le_trans hbr.size hbA.size
            have hlen : ((escP.take k).map fun p => [p.1]).length + [[c0]].length ≤ 8796093022208 := by simp [escP]; omega
            have HTB := hid hTB
            have HTK := hid htk
            clear hp hc0 hu0 hTB htk
            have HLK := hid hlk
            have hnil : ∀ u : World, (binOp .eql 66 (.slice none 0 0) (.slice none 0 0)).run Tryz.prog u = .ok (.bool true) u := fun _ => by kernel_rfl
            have hBB := hbr.trans (hbA.mono hbr.size)
            clear hlk
            go_wp2_with (at_builtin; refine wpList_appS rfl (.tmp 119) (.tmp 123) _ rfl w.heap.size el_str _ _ rfl rfl t6B hsB hlen hszB (fun v9 w9 hown9 hg9 hbk9 => ?_); obtain ⟨g9, c9, n9, rfl⟩ := own_shape hown9 (by simp); have hT9 := HTB.out.grow t1B t3 hg9 hown9 hbk9; have hb9 := below_appS hBB t6B hg9 (Nat.le_refl _) hszB; have hg9b := (hg9.block bs (block_lt t1B) t7.symm).trans t1B; have q1 : w9.cell? ⟨bs, 256, none⟩ = some tr := (cell_of_row _ _ _ _ _ (0, 0) hg9b).trans t3; have q2 : w9.frozen? ⟨bs, 256, none⟩ = false := block_free hg9b 256; obtain ⟨w10, hw10⟩ : ∃ w10, w9.setCell ⟨bs, 256, none⟩ (.slice (some ⟨g9, 0, none⟩) n9 c9) = w10 := ⟨_, rfl⟩; have hb10 : Below w.heap.size w w10 := hw10 ▸ hb9.trans ((turn_set w9 bs 256 (.slice (some ⟨g9, 0, none⟩) n9 c9)).below hb9.size (fun k hk h => by have := hTn.out; omega)); rw [hw10] at hT9; have HT9 := hid hT9; have hcv2 := Lib.run_convert_string_bytes (P := Tryz.prog) w10 9 66 5 ⟨u0.toArray⟩ Tryz.underlying9 Tryz.underlying66 Tryz.underlying5; rw [sv_size u0] at hcv2; have hbw := Lib.bytesWorld_below w10 5 ⟨u0.toArray⟩; obtain ⟨y1, y2⟩ := tab_cell (hT9.below hbw) c0 HLK.out; have hcells := fun j hj => Lib.bytesWorld_cell w10 5 ⟨u0.toArray⟩ j hj; have hsz2 := Lib.bytesWorld_size w10 5 ⟨u0.toArray⟩; have HCELLS := hid hcells; have HSZ2 := hid hsz2; clear hT9 hg9 hown9 hbk9 hb9 hg9b hcells hsz2; generalize grownCap w10 u0.length 0 5 = kc at *; generalize hbwn : Lib.bytesWorld w10 5 ⟨u0.toArray⟩ = w11 at *)
            go_wp2_with fail
            have hput := HT9.out.put c0 u0 HLK.out hbw (k := kc) (by rw [HSZ2.out]; omega) (fun j hj => by
              rw [HCELLS.out j (by rw [sv_size]; exact hj)]
              simp [hj])
            have hfin : Below w.heap.size w (w11.setCell ⟨bs, c0.toNat, none⟩ (.slice (some ⟨w10.heap.size, 0, none⟩) u0.length kc)) :=
              (hb10.trans (hbw.mono hb10.size)).trans ((turn_set w11 bs c0.toNat _).below (Nat.le_trans hb10.size hbw.size) (fun k hk h => by have := hTn.out; omega))
            have hmap : ((escP.take k).map fun p => [p.1]) ++ [[c0]] = (escP.take (k + 1)).map fun p => [p.1] := by rw [HTK.out, List.map_append]; rfl
            rw [← HTK.out, hmap] at hput
            refine ⟨⟨hfin, ?_⟩, ?_⟩
            · by_cases hk3 : k = 3
              · subst hk3
                obtain rfl : i = 0 := by omega
                exact .inr ⟨rfl, hput⟩
              · exact .inl ⟨k + 1, i - 2, by omega, by omega, by congr 1; omega, hput⟩
            · simp [intOf]; omega
          · go_wp2_with fail
            go_ret
            exact ⟨bs, rfl, hT, hbr⟩
end Go.Proofs.YtpgngegdflbahaaGreatDoor
