/- GI -/
import Derived.Test.YtbpedjkebemhnaaGreatDoorRows
import Derived.Test.YtbpedjkebemhnaaGreatDoorSD03
import Derived.Tactics
import Derived.Tactics2
import Derived.Defers
import Derived.Laws.Pointers
import Derived.Laws.LoneSync
import Derived.Laws.Tables
import Derived.RegionTactic
import Derived.RegionCalls
import Derived.Laws.MakeOwn
import Derived.Lib.ConvBytes
import Derived.Lib.AtoiErrMem
import Derived.Test.YtbpedjkebemhnaaGreatDoorSD01
import Derived.Laws.CopyOwn
import Derived.Laws.OwnMore
set_option linter.unusedSimpArgs false
set_option linter.unusedVariables false
/- Texts that belong together: QA, QB, PE, QC, QD, QE, QF. -/
/- sync.Once in one goroutine: its parts, each a contract of its own. -/
set_option linter.unusedVariables false
namespace Go.Proofs.YtbpedjkebemhnaaGreatDoor
open Go.RowKit

theorem sync_disable (w : World) : (callFunc 217 #[]).run Tryz.prog w = .ok (.value (.tuple #[])) w := run_call_mark0 Tryz.func217 (by kernel_rfl) (by kernel_rfl) (by kernel_rfl) .disable (by kernel_rfl) w
theorem sync_enable (w : World) : (callFunc 219 #[]).run Tryz.prog w = .ok (.value (.tuple #[])) w := run_call_mark0 Tryz.func219 (by kernel_rfl) (by kernel_rfl) (by kernel_rfl) .enable (by kernel_rfl) w
theorem sync_acquire (a : Addr) (w : World) : (callFunc 220 #[.pointer (some a)]).run Tryz.prog w = .ok (.value (.tuple #[])) w := run_call_marked Tryz.func220 (by kernel_rfl) (by kernel_rfl) (by kernel_rfl) .acquire (by kernel_rfl) a w
theorem sync_releaseMerge (a : Addr) (w : World) : (callFunc 222 #[.pointer (some a)]).run Tryz.prog w = .ok (.value (.tuple #[])) w := run_call_marked Tryz.func222 (by kernel_rfl) (by kernel_rfl) (by kernel_rfl) .releaseMerge (by kernel_rfl) a w

set_option maxRecDepth 100000 in
theorem store_deferred (a : Addr) (x : Value) (u : FrameMode) (w : World) (hc : w.cell? a = some x) (hz : w.frozen? a = false) :
    CallsD Tryz.prog 196 #[.pointer (some a), .bool true] u w fun e u' w' => u' = u ∧ (e = .returned (.tuple #[]) ∧ w' = w.drew.setCell a (.int .u32 1)) := by
  have hc' : w.drew.cell? a = some x := by go_simp
  have hz' : w.drew.frozen? a = false := by go_simp
  have hst := run_call_store (P := Tryz.prog) Tryz.func209 (by kernel_rfl) (by kernel_rfl) (by kernel_rfl) (by kernel_rfl) (k := .u32) (y := 1) hc' hz'
  go_enter_d Tryz.func196, Tryz.ntmps196
  go_wp2
  go_region_calls
  all_goals (go_end0; exact ⟨rfl, rfl⟩)

set_option maxRecDepth 100000 in
theorem unlock_deferred (a : Addr) (u : FrameMode) (w : World) (hc : w.cell? a = some (.int .i32 1)) (hz : w.frozen? a = false) :
    CallsD Tryz.prog 195 #[.pointer (some a)] u w fun e u' w' => u' = u ∧ (e = .returned (.tuple #[]) ∧ w' = w.setCell a (.int .i32 0)) := by
  have hd := sync_disable
  have he := sync_enable
  have hr := sync_releaseMerge
  have hadd := run_call_add (P := Tryz.prog) Tryz.func223 (by kernel_rfl) (by kernel_rfl) (by kernel_rfl) .i32 (by kernel_rfl) (y := -1) (s := 0) hc hz (by simp [go_sem]; rfl)
  have hcv := run_convert_to_unsafe (P := Tryz.prog) (src := 279) (dst := 151) Tryz.underlying279 Tryz.underlying151 (by kernel_rfl) hc
  go_enter_d Tryz.func195, Tryz.ntmps195
  go_wp2
  go_end0
  go_wp2
  go_end0
  exact ⟨rfl, rfl⟩

set_option maxRecDepth 100000 in
theorem lock_free (a : Addr) (w : World) (hc : w.cell? a = some (.int .i32 0)) (hz : w.frozen? a = false) :
    Calls Tryz.prog 194 #[.pointer (some a)] w fun e w' => e = .returned (.tuple #[]) ∧ w' = w.setCell a (.int .i32 1) := by
  have hd := sync_disable
  have he := sync_enable
  have ha := sync_acquire
  have hcas := run_call_cas_hit (P := Tryz.prog) Tryz.func218 (by kernel_rfl) (by kernel_rfl) (by kernel_rfl) .i32 (by kernel_rfl) (y := 1) hc hz
  have hc' : (w.setCell a (.int .i32 1)).cell? a = some (.int .i32 1) := World.cell?_setCell_same w a _ hc
  have hcv := run_convert_to_unsafe (P := Tryz.prog) (src := 279) (dst := 151) Tryz.underlying279 Tryz.underlying151 (by kernel_rfl) hc'
  go_enter Tryz.func194, Tryz.ntmps194
  go_wp2
  first | go_end0 | (simp only [Exit.inBlock, Exit.then]; refine bodyPost_ret (results_none rfl _ _ _) rfl ?_) | refine bodyPost_ret (results_none rfl _ _ _) rfl ?_
  go_wp2
  go_end0
  exact ⟨rfl, rfl⟩
end Go.Proofs.YtbpedjkebemhnaaGreatDoor

/- What strings.Replacer builds at texts of one byte each that are replaced by texts: a table by the byte. -/
set_option linter.unusedVariables false
namespace Go.Proofs.YtbpedjkebemhnaaGreatDoor
open Go.RowKit

/-- A replacer's cells. -/
def repW (w : World) (b : Nat) (d st : Int) (rv ov : Value) : Prop := w.heap[b]? = some (.cells #[.int .u32 d, .int .i32 st, .int .u32 0, rv, ov] 199 (0, 0))
def oldL : List Bt := [[92], [92, 92], [34], [92, 34], [10], [92, 110], [9], [92, 116]]
/-- What is replaced, in the order of the table's making. -/
def escP : List (UInt8 × Bt) := [(9, [92, 116]), (10, [92, 110]), (34, [92, 34]), (92, [92, 92])]
def nilV : Value := .slice none 0 0
/-- The table by the byte (l), and the texts that are replaced (m). -/
def TabM (w : World) (base bs : Nat) (m : List Bt) (l : List (UInt8 × Bt)) : Prop :=
  ∃ (cs : Array Value) (tr : Value), w.heap[bs]? = some (.cells cs 246 (0, 0)) ∧ cs.size = 257 ∧ cs[256]? = some tr ∧ OwnS w base 9 tr m ∧ base ≤ bs ∧ tr.ownBlock ≠ some bs ∧
    ∀ c : UInt8, (l.lookup c = none → cs[c.toNat]? = some nilV) ∧ (∀ u, l.lookup c = some u → ∃ g k, cs[c.toNat]? = some (.slice (some ⟨g, 0, none⟩) u.length k) ∧ base ≤ g ∧ g < w.heap.size ∧ g ≠ bs ∧ tr.ownBlock ≠ some g ∧ ∀ (j : Nat) (hj : j < u.length), w.cell? ⟨g, j, none⟩ = some (.int .u8 (u[j].toNat : Int)))
theorem TabM.below {w w' : World} {base bs : Nat} {m : List Bt} {l : List (UInt8 × Bt)} (h : TabM w base bs m l) (hb : Below w.heap.size w w') : TabM w' base bs m l := by
  obtain ⟨cs, tr, h1, h2, h3, h4, h5, h6, h7⟩ := h
  refine ⟨cs, tr, (hb.block bs (block_lt h1)).trans h1, h2, h3, h4.below hb, h5, h6, fun c => ⟨(h7 c).1, fun u hu => ?_⟩⟩
  obtain ⟨g, k, a1, a0, a2, a3, a4, a7⟩ := (h7 c).2 u hu
  exact ⟨g, k, a1, a0, Nat.lt_of_lt_of_le a2 hb.size, a3, a4, fun j hj => (hb.cell (p := ⟨g, j, none⟩) a2).trans (a7 j hj)⟩
theorem TabM.grow {w w9 : World} {base bs : Nat} {m m' : List Bt} {l : List (UInt8 × Bt)} {cs : Array Value} {tr tr' : Value} (h : TabM w base bs m l) (hcs : w.heap[bs]? = some (.cells cs 246 (0, 0))) (htr : cs[256]? = some tr)
    (hg : w.grownBy w9 tr.ownBlock) (ho : OwnS w9 base 9 tr' m') (hb : tr'.ownBlock = tr.ownBlock ∨ tr'.ownBlock = some w.heap.size) : TabM (w9.setCell ⟨bs, 256, none⟩ tr') base bs m' l := by
  obtain ⟨cs0, tr0, h1, h2, h3, h4, h5, h6, h7⟩ := h
  rw [hcs] at h1
  simp only [Option.some.injEq, Obj.cells.injEq] at h1
  obtain ⟨rfl, _⟩ := h1
  rw [htr] at h3
  injection h3 with h3
  subst h3
  have hbs : bs < w.heap.size := block_lt hcs
  have hg9 : w9.heap[bs]? = some (.cells cs 246 (0, 0)) := (hg.block bs hbs h6.symm).trans hcs
  have hne : tr'.ownBlock ≠ some bs := by
    rcases hb with hb | hb
    · rw [hb]; exact h6
    · rw [hb]; intro h; injection h with h; omega
  have ht := turn_set w9 bs 256 tr'
  refine ⟨cs.setIfInBounds 256 tr', tr', heap_setCell_same w9 bs 256 _ _ tr' hg9, by simp [h2], ?_, ho.turn ht (fun g hg h => hne (by rw [hg, h])), h5, hne, fun c => ?_⟩
  · rw [Array.getElem?_setIfInBounds_self]; simp [h2]
  · have hc := c.toNat_lt
    have hcs' : (cs.setIfInBounds 256 tr')[c.toNat]? = cs[c.toNat]? := by rw [Array.getElem?_setIfInBounds_ne (by omega)]
    rw [hcs']
    refine ⟨(h7 c).1, fun u hu => ?_⟩
    obtain ⟨g, k, a1, a0, a2, a3, a4, a7⟩ := (h7 c).2 u hu
    refine ⟨g, k, a1, a0, by simp only [World.size_setCell]; exact Nat.lt_of_lt_of_le a2 hg.size, a3, ?_, fun j hj => ?_⟩
    · rcases hb with hb | hb
      · rw [hb]; exact a4
      · rw [hb]; intro h; injection h with h; omega
    · rw [World.cell?_setCell_other _ _ _ _ (by intro h; have := congrArg Addr.block h; simp at this; omega)]
      have : w9.cell? ⟨g, j, none⟩ = w.cell? ⟨g, j, none⟩ := by simp only [World.cell?, hg.block g a2 a4.symm]
      rw [this]; exact a7 j hj
theorem TabM.put {w : World} {base bs : Nat} {m : List Bt} {l : List (UInt8 × Bt)} (h : TabM w base bs m l) (c : UInt8) (u : Bt) (hl : l.lookup c = none) {w' : World} (hb : Below w.heap.size w w') {k : Nat}
    (hlt : w.heap.size < w'.heap.size) (hc : ∀ (j : Nat) (hj : j < u.length), w'.cell? ⟨w.heap.size, j, none⟩ = some (.int .u8 (u[j].toNat : Int))) :
    TabM (w'.setCell ⟨bs, c.toNat, none⟩ (.slice (some ⟨w.heap.size, 0, none⟩) u.length k)) base bs m (l ++ [(c, u)]) := by
  have h' := h.below hb
  obtain ⟨cs0, tr0, g1, _, g3, g4, _, _, _⟩ := h
  have hbs : bs < w.heap.size := block_lt g1
  obtain ⟨cs, tr, h1, h2, h3, h4, h5, h6, h7⟩ := h'
  have hsame : some (Obj.cells cs 246 (0, 0)) = some (Obj.cells cs0 246 (0, 0)) := by rw [← h1, ← g1, hb.block bs hbs]
  injection hsame with hsame
  injection hsame with hsame
  subst hsame
  rw [h3] at g3
  injection g3 with g3
  subst g3
  have hcl := c.toNat_lt
  have ht := turn_set w' bs c.toNat (.slice (some ⟨w.heap.size, 0, none⟩) u.length k)
  refine ⟨cs.setIfInBounds c.toNat (.slice (some ⟨w.heap.size, 0, none⟩) u.length k), tr, heap_setCell_same w' bs c.toNat _ _ _ h1, by simp [h2], ?_, h4.turn ht (fun g hg h => h6 (by rw [hg, h])), h5, h6, fun d => ?_⟩
  · rw [Array.getElem?_setIfInBounds_ne (by omega)]; exact h3
  · have hd := d.toNat_lt
    rw [List.lookup_append]
    by_cases hcd : d = c
    · subst hcd
      rw [hl]
      have : List.lookup d [(d, u)] = some u := by simp [List.lookup]
      rw [this]
      constructor
      · intro h
        simp at h
      intro u' hu'
      simp at hu'
      subst hu'
      refine ⟨w.heap.size, k, ?_, by omega, by simp only [World.size_setCell]; exact hlt, by omega, fun h => ?_, fun j hj => ?_⟩
      · rw [Array.getElem?_setIfInBounds_self]; simp [h2]; omega
      · have := (g4.lt _ h).2; omega
      · rw [World.cell?_setCell_other _ _ _ _ (by intro h; have := congrArg Addr.block h; simp at this; omega)]
        exact hc j hj
    · have hdc : (d == c) = false := by rw [beq_eq_false_iff_ne]; exact hcd
      have hno : List.lookup d [(c, u)] = none := by simp [List.lookup, hdc]
      rw [hno, Option.or_none]
      have hcs' : (cs.setIfInBounds c.toNat (.slice (some ⟨w.heap.size, 0, none⟩) u.length k))[d.toNat]? = cs[d.toNat]? := by
        rw [Array.getElem?_setIfInBounds_ne (by intro h; exact hcd (UInt8.toNat_inj.1 h.symm))]
      rw [hcs']
      refine ⟨(h7 d).1, fun u' hu' => ?_⟩
      obtain ⟨g, k', a1, a0, a2, a3, a4, a7⟩ := (h7 d).2 u' hu'
      refine ⟨g, k', a1, a0, by simp only [World.size_setCell]; exact a2, a3, a4, fun j hj => ?_⟩
      rw [World.cell?_setCell_other _ _ _ _ (by intro h; have := congrArg Addr.block h; simp at this; omega)]
      exact a7 j hj
theorem tab_cell {w : World} {base bs : Nat} {m : List Bt} {l : List (UInt8 × Bt)} (h : TabM w base bs m l) (c : UInt8) (hl : l.lookup c = none) : w.cell? ⟨bs, c.toNat, none⟩ = some (.slice none 0 0) ∧ w.frozen? ⟨bs, c.toNat, none⟩ = false := by
  obtain ⟨cs, tr, h1, h2, h3, h4, h5, h6, h7⟩ := h
  exact ⟨(cell_of_row _ _ _ _ _ (0, 0) h1).trans ((h7 c).1 hl), block_free h1 _⟩
theorem tab_rep {w : World} {base bs : Nat} {m : List Bt} {l : List (UInt8 × Bt)} (h : TabM w base bs m l) : ∃ cs tr, w.heap[bs]? = some (.cells cs 246 (0, 0)) ∧ cs[256]? = some tr ∧ w.cell? ⟨bs, 256, none⟩ = some tr ∧ w.frozen? ⟨bs, 256, none⟩ = false ∧ OwnS w base 9 tr m ∧ tr.ownBlock ≠ some bs := by
  obtain ⟨cs, tr, h1, h2, h3, h4, h5, h6, h7⟩ := h
  exact ⟨cs, tr, h1, h3, (cell_of_row _ _ _ _ _ (0, 0) h1).trans h3, block_free h1 _, h4, h6⟩
theorem zero_tab : Tryz.zeroCells246 = (List.replicate 257 nilV).toArray := by kernel_rfl
theorem tab_new (w1 : World) (base : Nat) (v : Value) (h1 : v.oneCell' = true) (hown : OwnS w1 base 9 v []) (hbase : base ≤ w1.heap.size) :
    ∃ W2, (storeCells ⟨w1.heap.size, 0, none⟩ (Tryz.zeroCells246.toList.set 256 v)).run Tryz.prog (w1.alloc (.cells Tryz.zeroCells246 246)) = .ok () W2 ∧ TabM W2 base w1.heap.size [] [] ∧ Below w1.heap.size w1 W2 := by
  rw [zero_tab]
  obtain ⟨N, hN⟩ : ∃ N, N = 257 := ⟨_, rfl⟩
  rw [← hN]
  have hg := heap_alloc_new w1 (.cells (List.replicate N nilV).toArray 246)
  have hrun := run_storeCells_from (P := Tryz.prog) w1.heap.size 246 ((List.replicate N nilV).set 256 v) 0 _ _ hg (by simp) (by
    intro x hx
    rcases List.mem_or_eq_of_mem_set hx with hx | hx
    · rw [List.mem_replicate] at hx; rw [hx.2]; rfl
    · rw [hx]; exact h1)
  have hal : Below w1.heap.size w1 (w1.alloc (.cells (List.replicate N nilV).toArray 246)) := (Below.refl _ _).alloc (Nat.le_refl _) _
  rw [List.take_zero, List.nil_append] at hrun
  have hbel : Below w1.heap.size w1 ((w1.alloc (.cells (List.replicate N nilV).toArray 246)).setRow w1.heap.size ((List.replicate N nilV).set 256 v).toArray) := by
    refine ⟨hal.os, hal.tape, hal.output, by simp, fun k hk => ?_⟩
    rw [setRow_other _ _ _ _ (by omega)]
    exact hal.block k hk
  refine ⟨_, hrun, ?_, hbel⟩
  refine ⟨((List.replicate N nilV).set 256 v).toArray, v, setRow_heap _ _ _ _ _ _ hg, by rw [List.size_toArray, List.length_set, List.length_replicate, hN], ?_, hown.below hbel, hbase, fun h => ?_, fun c => ⟨fun _ => ?_, fun u hu => by simp at hu⟩⟩
  · rw [List.getElem?_toArray, List.getElem?_set_self (by simp; omega)]
  · have := (hown.lt _ h).2; omega
  · have hc := c.toNat_lt
    rw [List.getElem?_toArray, List.getElem?_set_ne (by omega), List.getElem?_replicate, if_pos (by omega)]

theorem esc_at (k i : Nat) (hk : k < 4) (hi : i + 2 * k = 6) : ∃ (c : UInt8) (u : Bt), (∀ h : i < oldL.length, oldL[i] = [c]) ∧ (∀ h : i + 1 < oldL.length, oldL[i + 1] = u) ∧ (escP.take k).lookup c = none ∧ escP.take (k + 1) = escP.take k ++ [(c, u)] ∧ u.length ≤ 2 := by
  have : (k = 0 ∧ i = 6) ∨ (k = 1 ∧ i = 4) ∨ (k = 2 ∧ i = 2) ∨ (k = 3 ∧ i = 0) := by omega
  rcases this with ⟨rfl, rfl⟩ | ⟨rfl, rfl⟩ | ⟨rfl, rfl⟩ | ⟨rfl, rfl⟩
  · exact ⟨9, [92, 116], fun _ => rfl, fun _ => rfl, rfl, rfl, by decide⟩
  · exact ⟨10, [92, 110], fun _ => rfl, fun _ => rfl, rfl, rfl, by decide⟩
  · exact ⟨34, [92, 34], fun _ => rfl, fun _ => rfl, rfl, rfl, by decide⟩
  · exact ⟨92, [92, 92], fun _ => rfl, fun _ => rfl, rfl, rfl, by decide⟩
theorem own_shape {w : World} {base : Nat} {e : TypeId} {v : Value} {m : List Bt} (h : OwnS w base e v m) (hm : 0 < m.length) : ∃ g c n, v = .slice (some ⟨g, 0, none⟩) n c := by
  obtain ⟨g, c, hv, _⟩ := own_form h.row hm
  exact ⟨g, c, _, hv⟩
theorem make_str (w : World) (c : Nat) (hc : c ≤ 1000000) : ∃ w1, (Instr.makeSlice 23 (.int .i64 0) (.int .i64 (c : Nat))).run Tryz.prog w = .ok (.slice (some ⟨w.heap.size, 0, none⟩) 0 c) w1 ∧
    OwnS w1 w.heap.size 9 (.slice (some ⟨w.heap.size, 0, none⟩) 0 c) [] ∧ Below w.heap.size w w1 := by
  obtain ⟨ht, hinfo, _, _⟩ := el_str
  obtain ⟨i, hi, hz, hs, hb⟩ := info_parts hinfo
  obtain ⟨w1, hmk, hown0, hg0⟩ := run_make_own (P := Tryz.prog) (w := w) w.heap.size 23 9 i _ 1 ht hi hz hs .i64 .i64 c (by rw [hb]; omega) (by unfold maxLen; omega) (Nat.le_refl _)
  exact ⟨w1, hmk, ⟨0, hown0⟩, below_of_grown hg0⟩

set_option maxRecDepth 100000 in
set_option maxHeartbeats 4000000 in
theorem build_any (w : World) (b : Nat) (ov : Value) (hR : repW w b 0 1 .nilIface ov) (hv : Ss w w.heap.size ov oldL) :
    Calls Tryz.prog 178 #[.pointer (some ⟨b, 0, none⟩)] w fun e w' => ∃ bs, e = .returned (.iface 247 (.pointer (some ⟨bs, 0, none⟩))) ∧ TabM w' w.heap.size bs (escP.map fun p => [p.1]) escP ∧ Below w.heap.size w w' := by
  have c4 : w.cell? ⟨b, 4, none⟩ = some ov := (cell_of_row _ _ _ _ _ (0, 0) hR).trans rfl
  obtain ⟨A, c, rfl, hn, hc, hx⟩ := hv.open_
  have hol : oldL.length = 8 := rfl
  rw [hol] at hn c4
  unfold maxLen at hc
  obtain ⟨g, o, rfl, hg, hcell⟩ := hx (by rw [hol]; omega)
  have d0 : w.cell? ⟨g, o, none⟩ = some (sv [92]) := hcell 0 (by rw [hol]; omega)
  have d1 : w.cell? ⟨g, o + 1, none⟩ = some (sv [92, 92]) := hcell 1 (by rw [hol]; omega)
  have d2 : w.cell? ⟨g, o + 2, none⟩ = some (sv [34]) := hcell 2 (by rw [hol]; omega)
  have d3 : w.cell? ⟨g, o + 3, none⟩ = some (sv [92, 34]) := hcell 3 (by rw [hol]; omega)
  have d4 : w.cell? ⟨g, o + 4, none⟩ = some (sv [10]) := hcell 4 (by rw [hol]; omega)
  have d5 : w.cell? ⟨g, o + 5, none⟩ = some (sv [92, 110]) := hcell 5 (by rw [hol]; omega)
  have d6 : w.cell? ⟨g, o + 6, none⟩ = some (sv [9]) := hcell 6 (by rw [hol]; omega)
  have d7 : w.cell? ⟨g, o + 7, none⟩ = some (sv [92, 116]) := hcell 7 (by rw [hol]; omega)
  have HC := hid hcell
  obtain ⟨w1, hmk, hown1, hb1⟩ := make_str w 4 (by omega)
  have HMK := hid hmk
  have HOWN := hid hown1
  clear hmk hown1
  clear hx hcell hv
  go_enter Tryz.func178, Tryz.ntmps178
  go_wp2_with fail
  go_loop [4, 5] (fun v4 v5 => (v5 = .int .i64 0 ∧ v4 = .bool true) ∨ (v4 = .bool false ∧ (v5 = .int .i64 2 ∨ v5 = .int .i64 4 ∨ v5 = .int .i64 6 ∨ v5 = .int .i64 8))) (fun _ v5 => 8 - (intOf v5).toNat)
  case atStart => exact .inl ⟨rfl, rfl⟩
  case round =>
    rcases hrel with ⟨rfl, rfl⟩ | ⟨rfl, hv5⟩
    · go_wp2_with fail
      go_round
      case rel => exact .inr ⟨rfl, .inl rfl⟩
      case measure => simp [intOf]
    · rcases hv5 with rfl | rfl | rfl | rfl
      · go_wp2_with fail
        go_round
        case rel => exact .inr ⟨rfl, .inr (.inl rfl)⟩
        case measure => simp [intOf]
      · go_wp2_with fail
        go_round
        case rel => exact .inr ⟨rfl, .inr (.inr (.inl rfl))⟩
        case measure => simp [intOf]
      · go_wp2_with fail
        go_round
        case rel => exact .inr ⟨rfl, .inr (.inr (.inr rfl))⟩
        case measure => simp [intOf]
      · clear d0 d1 d2 d3 d4 d5 d6 d7
        have hmk : (Instr.makeSlice 23 (.int .i64 0) (.int .i64 4)).run Tryz.prog w = .ok (.slice (some ⟨w.heap.size, 0, none⟩) 0 4) w1 := HMK.out
        obtain ⟨W2, hst, hT2, hb2⟩ := tab_new w1 w.heap.size (.slice (some ⟨w.heap.size, 0, none⟩) 0 4) rfl HOWN.out hb1.size
        have HT2 := hid hT2
        have hB2 := bthen hb1 hb2
        clear hT2 HOWN
        go_wp2_with fail
        generalize hbs : w1.heap.size = bs at *
        have HD := hid HC.out
        have hTn := hid (show w.heap.size ≤ bs by rw [← hbs]; exact hb1.size)
        clear hst hmk HMK HC hbs hb1 hb2
        go_loopw [12, 13, 14] (fun v12 v13 v14 wr => Below w.heap.size w wr ∧ ((∃ k i : Nat, k < 4 ∧ i + 2 * k = 6 ∧ v12 = .int .i64 i ∧ TabM wr w.heap.size bs ((escP.take k).map fun p => [p.1]) (escP.take k)) ∨ (v12 = .int .i64 (-2) ∧ TabM wr w.heap.size bs (escP.map fun p => [p.1]) escP))) (fun v12 _ _ _ => (intOf v12 + 2).toNat)
        case atStart => exact ⟨hB2, .inl ⟨0, 6, by omega, rfl, rfl, HT2.out⟩⟩
        case round =>
          obtain ⟨hbr, hrel⟩ := hrel
          rcases hrel with ⟨k, i, hk, hik, rfl, hT⟩ | ⟨rfl, hT⟩
          · obtain ⟨c0, u0, hc0, hu0, hlk, htk, hul⟩ := esc_at k i hk hik
            have hi8 : i + 1 < 8 := by omega
            have hc256 : (c0.toNat : Int) < 256 := by have := c0.toNat_lt; omega
            have hp : ∀ j (hj : j < oldL.length), wr.cell? ⟨g, o + j, none⟩ = some (sv oldL[j]) := fun j hj => (hbr.cell (p := ⟨g, o + j, none⟩) hg).trans (HD.out j hj)
            have p0 : wr.cell? ⟨g, o + i, none⟩ = some (sv [c0]) := by rw [hp i (by rw [hol]; omega), hc0]
            have p1 : wr.cell? ⟨g, o + (i + 1), none⟩ = some (sv u0) := by rw [hp (i + 1) (by rw [hol]; omega), hu0]
            have hix : (ByteArray.mk [c0].toArray)[0]'(by rw [sv_size]; simp) = c0 := sv_index [c0] 0 (by simp)
            obtain ⟨x1, x2⟩ := tab_cell hT c0 hlk
            obtain ⟨cs, tr, t1, t3, t4, t5, t6, t7⟩ := tab_rep hT
            have hbA : Below wr.heap.size wr ((wr.alloc (.cells #[.int .u8 (c0.toNat : Int)] 5)).alloc (.cells #[sv [c0]] 9)) := ((Below.refl _ _).alloc (Nat.le_refl _) _).alloc (by simp) _
            have hcv : (convert 74 9 (.slice (some ⟨wr.heap.size, 0, none⟩) 1 1)).run Tryz.prog (wr.alloc (.cells #[.int .u8 (c0.toNat : Int)] 5)) = .ok (sv [c0]) (wr.alloc (.cells #[.int .u8 (c0.toNat : Int)] 5)) := by
              have h := run_string_of (P := Tryz.prog) (bs_new wr (c0.toNat : Int) 5 (by have := c0.toNat_lt; omega)) 74 5 9 Tryz.underlying74 Tryz.underlying5 Tryz.underlying9
              simpa using h
            have hTB := hT.below hbA
            have t6B := t6.below hbA
            have t1B := (hbA.block bs (block_lt t1)).trans t1
            have hsB := ss_new (wr.alloc (.cells #[.int .u8 (c0.toNat : Int)] 5)) [c0] 9
            have s6 : (wr.alloc (.cells #[.int .u8 (c0.toNat : Int)] 5)).heap.size = wr.heap.size + 1 := by simp
            rw [s6] at hsB
            have hszB : w.heap.size ≤ ((wr.alloc (.cells #[.int .u8 (c0.toNat : Int)] 5)).alloc (.cells #[sv [c0]] 9)).heap.size := Nat.le_trans hbr.size hbA.size
            have hlen : ((escP.take k).map fun p => [p.1]).length + [[c0]].length ≤ 8796093022208 := by simp [escP]; omega
            have HTB := hid hTB
            have HTK := hid htk
            clear hp hc0 hu0 hTB htk
            have HLK := hid hlk
            have hnil : ∀ u : World, (binOp .eql 74 (.slice none 0 0) (.slice none 0 0)).run Tryz.prog u = .ok (.bool true) u := fun _ => by kernel_rfl
            have hBB := hbr.trans (hbA.mono hbr.size)
            clear hlk
            go_wp2_with (at_builtin; refine wpList_appS rfl (.tmp 119) (.tmp 123) _ rfl w.heap.size el_str _ _ rfl rfl t6B hsB hlen hszB (fun v9 w9 hown9 hg9 hbk9 => ?_); obtain ⟨g9, c9, n9, rfl⟩ := own_shape hown9 (by simp); have hT9 := HTB.out.grow t1B t3 hg9 hown9 hbk9; have hb9 := below_appS hBB t6B hg9 (Nat.le_refl _) hszB; have hg9b := (hg9.block bs (block_lt t1B) t7.symm).trans t1B; have q1 : w9.cell? ⟨bs, 256, none⟩ = some tr := (cell_of_row _ _ _ _ _ (0, 0) hg9b).trans t3; have q2 : w9.frozen? ⟨bs, 256, none⟩ = false := block_free hg9b 256; obtain ⟨w10, hw10⟩ : ∃ w10, w9.setCell ⟨bs, 256, none⟩ (.slice (some ⟨g9, 0, none⟩) n9 c9) = w10 := ⟨_, rfl⟩; have hb10 : Below w.heap.size w w10 := hw10 ▸ hb9.trans ((turn_set w9 bs 256 (.slice (some ⟨g9, 0, none⟩) n9 c9)).below hb9.size (fun k hk h => by have := hTn.out; omega)); rw [hw10] at hT9; have HT9 := hid hT9; have hcv2 := Lib.run_convert_string_bytes (P := Tryz.prog) w10 9 74 5 ⟨u0.toArray⟩ Tryz.underlying9 Tryz.underlying74 Tryz.underlying5; rw [sv_size u0] at hcv2; have hbw := Lib.bytesWorld_below w10 5 ⟨u0.toArray⟩; obtain ⟨y1, y2⟩ := tab_cell (hT9.below hbw) c0 HLK.out; have hcells := fun j hj => Lib.bytesWorld_cell w10 5 ⟨u0.toArray⟩ j hj; have hsz2 := Lib.bytesWorld_size w10 5 ⟨u0.toArray⟩; have HCELLS := hid hcells; have HSZ2 := hid hsz2; clear hT9 hg9 hown9 hbk9 hb9 hg9b hcells hsz2; generalize grownCap w10 u0.length 0 5 = kc at *; generalize hbwn : Lib.bytesWorld w10 5 ⟨u0.toArray⟩ = w11 at *)
            go_wp2_with fail
            have hput := HT9.out.put c0 u0 HLK.out hbw (k := kc) (by rw [HSZ2.out]; omega) (fun j hj => by
              rw [HCELLS.out j (by rw [sv_size]; exact hj)]
              simp [hj])
            have hfin : Below w.heap.size w (w11.setCell ⟨bs, c0.toNat, none⟩ (.slice (some ⟨w10.heap.size, 0, none⟩) u0.length kc)) :=
              (hb10.trans (hbw.mono hb10.size)).trans ((turn_set w11 bs c0.toNat _).below (Nat.le_trans hb10.size hbw.size) (fun k hk h => by have := hTn.out; omega))
            have hmap : ((escP.take k).map fun p => [p.1]) ++ [[c0]] = (escP.take (k + 1)).map fun p => [p.1] := by rw [HTK.out, List.map_append]; rfl
            rw [← HTK.out, hmap] at hput
            refine ⟨⟨hfin, ?_⟩, ?_⟩
            · by_cases hk3 : k = 3
              · subst hk3
                obtain rfl : i = 0 := by omega
                exact .inr ⟨rfl, hput⟩
              · exact .inl ⟨k + 1, i - 2, by omega, by omega, by congr 1; omega, hput⟩
            · simp [intOf]; omega
          · go_wp2_with fail
            go_ret
            exact ⟨bs, rfl, hT, hbr⟩
end Go.Proofs.YtbpedjkebemhnaaGreatDoor

/- How much longer a string is, written, than what it says. -/
set_option linter.unusedVariables false
namespace Go.Proofs.YtbpedjkebemhnaaGreatDoor

theorem escP_at (c : UInt8) : (escP.lookup c = none ∧ escW c = [c] ∧ c.toNat ≠ 9 ∧ c.toNat ≠ 10 ∧ c.toNat ≠ 34 ∧ c.toNat ≠ 92) ∨ (∃ a b, escP.lookup c = some [a, b] ∧ escW c = [a, b] ∧ (c = 9 ∨ c = 10 ∨ c = 34 ∨ c = 92)) := by
  by_cases h1 : c = 9
  · subst h1; exact .inr ⟨92, 116, rfl, rfl, .inl rfl⟩
  · by_cases h2 : c = 10
    · subst h2; exact .inr ⟨92, 110, rfl, rfl, .inr (.inl rfl)⟩
    · by_cases h3 : c = 34
      · subst h3; exact .inr ⟨92, 34, rfl, rfl, .inr (.inr (.inl rfl))⟩
      · by_cases h4 : c = 92
        · subst h4; exact .inr ⟨92, 92, rfl, rfl, .inr (.inr (.inr rfl))⟩
        · have e1 : c.toNat ≠ 9 := fun h => h1 (UInt8.toNat_inj.1 h)
          have e2 : c.toNat ≠ 10 := fun h => h2 (UInt8.toNat_inj.1 h)
          have e3 : c.toNat ≠ 34 := fun h => h3 (UInt8.toNat_inj.1 h)
          have e4 : c.toNat ≠ 92 := fun h => h4 (UInt8.toNat_inj.1 h)
          refine .inl ⟨?_, ?_, e1, e2, e3, e4⟩
          · simp [escP, List.lookup, beq_eq_false_iff_ne.2 h1, beq_eq_false_iff_ne.2 h2, beq_eq_false_iff_ne.2 h3, beq_eq_false_iff_ne.2 h4]
          · unfold escW; rw [if_neg e4, if_neg e3, if_neg e2, if_neg e1]
/-- How many bytes of a text are written as two. -/
def escN (s : Bt) : Nat := (s.map fun c => if (escP.lookup c).isSome then 1 else 0).sum
theorem escN_cons (c : UInt8) (s : Bt) : escN (c :: s) = (if (escP.lookup c).isSome then 1 else 0) + escN s := rfl
theorem escN_snoc (c : UInt8) (s : Bt) : escN (s ++ [c]) = escN s + (if (escP.lookup c).isSome then 1 else 0) := by
  unfold escN; rw [List.map_append, List.sum_append]; simp
theorem escN_le (s : Bt) : escN s ≤ s.length := by
  induction s with
  | nil => simp [escN]
  | cons c s ih => rw [escN_cons, List.length_cons]; split <;> omega
theorem esc_len (s : Bt) : (s.flatMap escW).length = s.length + escN s := by
  induction s with
  | nil => rfl
  | cons c s ih =>
    rw [List.flatMap_cons, List.length_append, ih, escN_cons, List.length_cons]
    rcases escP_at c with ⟨h1, h2, _⟩ | ⟨a, b, h1, h2, _⟩
    · rw [h1, h2]; simp; omega
    · rw [h1, h2]; simp; omega
theorem esc_same (s : Bt) (h : escN s = 0) : s.flatMap escW = s := by
  induction s with
  | nil => rfl
  | cons c s ih =>
    rw [escN_cons] at h
    rw [List.flatMap_cons, ih (by omega)]
    rcases escP_at c with ⟨h1, h2, _⟩ | ⟨a, b, h1, h2, _⟩
    · rw [h2]; rfl
    · rw [h1] at h; simp at h
def escK (s : Bt) (k : Nat) : Nat := ((escP.take k).map fun p => Lib.countByte s p.1).sum
theorem escK_four (s : Bt) : escK s 4 = escN s := by
  induction s with
  | nil => rfl
  | cons c s ih =>
    rw [escN_cons, ← ih]
    have hc : ∀ d : UInt8, Lib.countByte (c :: s) d = Lib.countByte s d + (if c = d then 1 else 0) := by
      intro d
      unfold Lib.countByte
      rw [List.count_cons]
      by_cases h : c = d
      · rw [if_pos h, if_pos (by rw [beq_iff_eq]; exact h)]
      · rw [if_neg h, if_neg (by rw [beq_iff_eq]; exact h)]
    have h4 : ∀ x, escK x 4 = Lib.countByte x 9 + (Lib.countByte x 10 + (Lib.countByte x 34 + Lib.countByte x 92)) := fun x => rfl
    rw [h4, h4, hc, hc, hc, hc]
    rcases escP_at c with ⟨h1, h2, e1, e2, e3, e4⟩ | ⟨a, b, h1, h2, h3⟩
    · have q1 : ¬ c = 9 := fun h => e1 (by rw [h]; rfl)
      have q2 : ¬ c = 10 := fun h => e2 (by rw [h]; rfl)
      have q3 : ¬ c = 34 := fun h => e3 (by rw [h]; rfl)
      have q4 : ¬ c = 92 := fun h => e4 (by rw [h]; rfl)
      rw [h1, if_neg q1, if_neg q2, if_neg q3, if_neg q4]; simp
    · rw [h1]
      rcases h3 with rfl | rfl | rfl | rfl <;> simp <;> omega
theorem escK_le (s : Bt) (k : Nat) (hk : k ≤ 4) : escK s k ≤ s.length := by
  have h4 := escK_four s
  have hle := escN_le s
  have h : ∀ k, k < 4 → escK s k ≤ escK s (k + 1) := by
    intro k hk
    unfold escK
    rw [List.take_succ_eq_append_getElem (show k < escP.length from hk), List.map_append, List.sum_append]
    omega
  have h0 : escK s 0 ≤ escK s 1 := h 0 (by omega)
  have h1 : escK s 1 ≤ escK s 2 := h 1 (by omega)
  have h2 : escK s 2 ≤ escK s 3 := h 2 (by omega)
  have h3 : escK s 3 ≤ escK s 4 := h 3 (by omega)
  have : k = 0 ∨ k = 1 ∨ k = 2 ∨ k = 3 ∨ k = 4 := by omega
  rcases this with rfl | rfl | rfl | rfl | rfl <;> omega
end Go.Proofs.YtbpedjkebemhnaaGreatDoor

/- A replacer made, and built once. -/
set_option linter.unusedVariables false
namespace Go.Proofs.YtbpedjkebemhnaaGreatDoor
open Go.RowKit

theorem rep_cells {w : World} {b : Nat} {d st : Int} {rv ov : Value} (h : repW w b d st rv ov) :
    (w.cell? ⟨b, 0, none⟩ = some (.int .u32 d) ∧ w.cell? ⟨b, 1, none⟩ = some (.int .i32 st) ∧ w.cell? ⟨b, 3, none⟩ = some rv ∧ w.cell? ⟨b, 4, none⟩ = some ov) ∧ ∀ i, w.frozen? ⟨b, i, none⟩ = false :=
  ⟨⟨(cell_of_row _ _ _ _ _ (0, 0) h).trans rfl, (cell_of_row _ _ _ _ _ (0, 0) h).trans rfl, (cell_of_row _ _ _ _ _ (0, 0) h).trans rfl, (cell_of_row _ _ _ _ _ (0, 0) h).trans rfl⟩, fun i => block_free h i⟩
theorem rep_set {w : World} {b : Nat} {d st : Int} {rv ov : Value} (h : repW w b d st rv ov) :
    (∀ x, repW (w.setCell ⟨b, 0, none⟩ (.int .u32 x)) b x st rv ov) ∧ (∀ x, repW (w.setCell ⟨b, 1, none⟩ (.int .i32 x)) b d x rv ov) ∧ (∀ x, repW (w.setCell ⟨b, 3, none⟩ x) b d st x ov) ∧ (∀ x, repW (w.setCell ⟨b, 4, none⟩ x) b d st rv x) :=
  ⟨fun x => heap_setCell_same w b 0 _ _ _ h, fun x => heap_setCell_same w b 1 _ _ _ h, fun x => heap_setCell_same w b 3 _ _ _ h, fun x => heap_setCell_same w b 4 _ _ _ h⟩
theorem TabM.turn {w w' : World} {base bs b : Nat} {m : List Bt} {l : List (UInt8 × Bt)} (h : TabM w base bs m l) (ht : Turn (fun k => k = b) w w') (hb : b < base) : TabM w' base bs m l := by
  obtain ⟨cs, tr, h1, h2, h3, h4, h5, h6, h7⟩ := h
  refine ⟨cs, tr, (ht.block (block_lt h1) (by omega)).trans h1, h2, h3, h4.turn ht (fun g hg h => by have := (h4.lt g hg).1; omega), h5, h6, fun c => ⟨(h7 c).1, fun u hu => ?_⟩⟩
  obtain ⟨g, k, a1, a0, a2, a3, a4, a7⟩ := (h7 c).2 u hu
  refine ⟨g, k, a1, a0, Nat.lt_of_lt_of_le a2 ht.size, a3, a4, fun j hj => ?_⟩
  have : w'.cell? ⟨g, j, none⟩ = w.cell? ⟨g, j, none⟩ := by simp only [World.cell?, ht.block a2 (show ¬ g = b by omega)]
  rw [this]; exact a7 j hj

/-- Built: the table stands, the list of what is replaced is let go. -/
def Built (w' : World) (base b : Nat) (d st : Int) : Prop := ∃ bs, repW w' b d st (.iface 247 (.pointer (some ⟨bs, 0, none⟩))) (.slice none 0 0) ∧ TabM w' base bs (escP.map fun p => [p.1]) escP
set_option maxRecDepth 100000 in
set_option maxHeartbeats 1000000 in
theorem buildOnce_any (w : World) (b : Nat) (ov : Value) (hR : repW w b 0 1 .nilIface ov) (hv : Ss w w.heap.size ov oldL) :
    Calls Tryz.prog 160 #[.pointer (some ⟨b, 0, none⟩)] w fun e w' => e = .returned (.tuple #[]) ∧ Built w' w.heap.size b 0 1 ∧ Turn (fun k => k = b) w w' := by
  have hb : b < w.heap.size := block_lt hR
  have hov : ∃ A n c, ov = .slice A n c := by obtain ⟨A, c, h, _⟩ := hv.open_; exact ⟨A, _, c, h⟩
  go_enter Tryz.func160, Tryz.ntmps160
  go_wp2_with fail
  refine (build_any w b ov hR hv).mono ?_
  rintro e w1 ⟨bs, rfl, hT, hb1⟩
  have hR1 : repW w1 b 0 1 .nilIface ov := (hb1.block b hb).trans hR
  obtain ⟨⟨c0, c1, c3, c4⟩, fr⟩ := rep_cells hR1
  have hR2 := (rep_set hR1).2.2.1 (.iface 247 (.pointer (some ⟨bs, 0, none⟩)))
  have hR3 := (rep_set hR2).2.2.2 (.slice none 0 0)
  obtain ⟨⟨k0, k1, k3, k4⟩, fr2⟩ := rep_cells hR2
  have f3 := fr 3
  have f4 := fr2 4
  have t1 := turn_set w1 b 3 (.iface 247 (.pointer (some ⟨bs, 0, none⟩)))
  have t2 := turn_set (w1.setCell ⟨b, 3, none⟩ (.iface 247 (.pointer (some ⟨bs, 0, none⟩)))) b 4 (.slice none 0 0)
  have t3 := t1.trans t2 (fun _ _ h => h)
  have hT3 := hT.turn t3 hb
  obtain ⟨A, n, c, rfl⟩ := hov
  go_wp2_with fail
  go_end0
  exact ⟨rfl, ⟨bs, hR3, hT3⟩, (Turn.of_below hb1).trans t3 (fun _ _ h => h)⟩
set_option maxRecDepth 100000 in
set_option maxHeartbeats 2000000 in
theorem slow_any (w : World) (b : Nat) (ov : Value) (hR : repW w b 0 0 .nilIface ov) (hv : Ss w w.heap.size ov oldL) (hd : ∀ g, ov.ownBlock = some g → g ≠ b) :
    Calls Tryz.prog 177 #[.pointer (some ⟨b, 0, none⟩), .func (.func 160) #[.pointer (some ⟨b, 0, none⟩)] #[]] w fun e w' => e = .returned (.tuple #[]) ∧ Built w' w.heap.size b 1 0 ∧ Turn (fun k => k = b) w w' := by
  have hb : b < w.heap.size := block_lt hR
  obtain ⟨⟨c0, c1, c3, c4⟩, fr⟩ := rep_cells hR
  have f1 := fr 1
  have hR1 := (rep_set hR).2.1 1
  have t1 := turn_set w b 1 (.int .i32 1)
  have hv1 : Ss (w.setCell ⟨b, 1, none⟩ (.int .i32 1)) (w.setCell ⟨b, 1, none⟩ (.int .i32 1)).heap.size ov oldL := by
    have h : (w.setCell ⟨b, 1, none⟩ (.int .i32 1)).heap.size = w.heap.size := by simp
    rw [h]
    exact Sl.keepB hv (fun g hg hlt => t1.block hlt (hd g hg))
  obtain ⟨⟨k0, k1, k3, k4⟩, fr1⟩ := rep_cells hR1
  obtain ⟨w1, hw1⟩ : ∃ w1, w.setCell ⟨b, 1, none⟩ (.int .i32 1) = w1 := ⟨_, rfl⟩
  have hs1 : w1.heap.size = w.heap.size := by rw [← hw1]; simp
  rw [hw1] at hR1 t1 hv1 k0 k1 k3 k4 fr1
  have hl := run_call_load (P := Tryz.prog) Tryz.func193 (by kernel_rfl) (by kernel_rfl) (by kernel_rfl) .u32 (by kernel_rfl) (w := w1) (a := ⟨b, 0, none⟩) (x := 0) k0
  have hnot : ∀ (x : Bool) (w : World), (Op.unary .not (.bool x)).run Tryz.prog w = .ok (.bool (!x)) w := fun _ _ => rfl
  have HR1 := hid hR1
  have HV1 := hid hv1
  have T1 := hid t1
  clear hR1 hv1 t1 hv hR
  go_enter_defers Tryz.func177, Tryz.ntmps177
  go_wp2_with (first | (go_at_call 194; refine (lock_free ⟨b, 1, none⟩ _ c1 f1).mono ?_; rintro e w' ⟨rfl, rfl⟩; rw [hw1]) | (go_at_call 176; go_in) | (go_at_call 160; refine (buildOnce_any w1 b ov HR1.out HV1.out).mono ?_; rintro e w2 ⟨rfl, hB, ht⟩))
  obtain ⟨bs, hR2, hT2⟩ := hB
  have hR3 : repW w2.drew b 0 1 (.iface 247 (.pointer (some ⟨bs, 0, none⟩))) (.slice none 0 0) := hR2
  obtain ⟨⟨a0, a1, a3, a4⟩, fa⟩ := rep_cells hR2
  have hR4 := (rep_set hR3).1 1
  obtain ⟨⟨m0, m1, m3, m4⟩, fm⟩ := rep_cells hR4
  have hR5 := (rep_set hR4).2.1 0
  have t2 : Turn (fun k => k = b) w2 ((w2.drew.setCell ⟨b, 0, none⟩ (.int .u32 1)).setCell ⟨b, 1, none⟩ (.int .i32 0)) :=
    ((Turn.of_below (below_drawn (B := w2.heap.size) w2 1)).trans (turn_set w2.drew b 0 (.int .u32 1)) (fun _ _ h => h)).trans (turn_set _ b 1 (.int .i32 0)) (fun _ _ h => h)
  rw [hs1] at hT2
  have hT5 := hT2.turn t2 hb
  have fa0 := fa 0
  have fm1 := fm 1
  go_wp2
  refine leaves_cons (f := 196) (args := #[.pointer (some ⟨b, 0, none⟩), .bool true]) (by simp) (by simp [go_sem]) ?_
  refine (store_deferred ⟨b, 0, none⟩ (.int .u32 0) .returning w2 a0 fa0).mono ?_
  rintro e u' w'' ⟨rfl, rfl, rfl⟩
  refine leaves_cons (f := 195) (args := #[.pointer (some ⟨b, 1, none⟩)]) (by simp [settle]) (by simp [go_sem]) ?_
  refine (unlock_deferred ⟨b, 1, none⟩ _ _ m1 fm1).mono ?_
  rintro e u' w'' ⟨rfl, rfl, rfl⟩
  have hfin : Built ((w2.drew.setCell ⟨b, 0, none⟩ (.int .u32 1)).setCell ⟨b, 1, none⟩ (.int .i32 0)) w.heap.size b 1 0 := ⟨bs, hR5, hT5⟩
  have htn := (T1.out.trans ht (fun _ _ h => h)).trans t2 (fun _ _ h => h)
  simp [Leaves, settle, results, Tryz.results177]
  exact ⟨hfin, htn⟩
end Go.Proofs.YtbpedjkebemhnaaGreatDoor

/- A replacer at work: texts of one byte each, replaced by texts. -/
set_option linter.unusedVariables false
namespace Go.Proofs.YtbpedjkebemhnaaGreatDoor
open Go.RowKit

set_option maxRecDepth 100000 in
set_option maxHeartbeats 1000000 in
theorem once_any (w : World) (b : Nat) (ov : Value) (hR : repW w b 0 0 .nilIface ov) (hv : Ss w w.heap.size ov oldL) (hd : ∀ g, ov.ownBlock = some g → g ≠ b) :
    Calls Tryz.prog 159 #[.pointer (some ⟨b, 0, none⟩), .func (.func 160) #[.pointer (some ⟨b, 0, none⟩)] #[]] w fun e w' => e = .returned (.tuple #[]) ∧ Built w' w.heap.size b 1 0 ∧ Turn (fun k => k = b) w w' := by
  obtain ⟨⟨c0, c1, c3, c4⟩, fr⟩ := rep_cells hR
  have hl := run_call_load (P := Tryz.prog) Tryz.func193 (by kernel_rfl) (by kernel_rfl) (by kernel_rfl) .u32 (by kernel_rfl) c0
  have hnot : ∀ (x : Bool) (w : World), (Op.unary .not (.bool x)).run Tryz.prog w = .ok (.bool (!x)) w := fun _ _ => rfl
  have HS := hid (slow_any w b ov hR hv hd)
  clear hR hv hd c1 c3 c4 fr
  go_enter Tryz.func159, Tryz.ntmps159
  go_wp2_with (first | (go_at_call 177; refine HS.out.mono ?_; rintro e w2 ⟨rfl, hB, ht⟩) | (go_at_call 176; go_in))
  go_end0
  exact ⟨rfl, hB, ht⟩

set_option maxRecDepth 100000 in
set_option maxHeartbeats 1000000 in
theorem newrep_any (w : World) (ov : Value) (hv : Ss w w.heap.size ov oldL) :
    Calls Tryz.prog 145 #[ov] w fun e w' => ∃ b ov', e = .returned (.pointer (some ⟨b, 0, none⟩)) ∧ repW w' b 0 0 .nilIface ov' ∧ Ss w' w'.heap.size ov' oldL ∧ (∀ g, ov'.ownBlock = some g → g ≠ b) ∧ w.heap.size ≤ b ∧ Below w.heap.size w w' := by
  have hol : oldL.length = 8 := rfl
  have hv0 := hv
  obtain ⟨A, c, rfl, hn, hc, hx⟩ := hv0.open_
  rw [hol] at hn hv ⊢
  unfold maxLen at hc
  clear hx hv0
  go_enter Tryz.func145, Tryz.ntmps145
  go_wp2_with (at_builtin; refine wpList_appS rfl _ (.tmp 8) _ rfl w.heap.size el_str _ _ rfl rfl (OwnS.nil w w.heap.size 9) hv (by rw [hol]; simp) (Nat.le_refl _) (fun v1 w1 hown1 hg1 hbk1 => ?_); have hb1 := below_appS (Below.refl w.heap.size w) (OwnS.nil w w.heap.size 9) hg1 (Nat.le_refl _) (Nat.le_refl _); rw [List.nil_append] at hown1; obtain ⟨g1, c1, n1, rfl⟩ := own_shape hown1 (by rw [hol]; omega); clear hg1 hbk1)
  go_ret
  have hal : Below w1.heap.size w1 (w1.alloc (.cells #[.int .u32 0, .int .i32 0, .int .u32 0, .nilIface, .slice (some ⟨g1, 0, none⟩) n1 c1] 199)) := (Below.refl _ _).alloc (Nat.le_refl _) _
  refine ⟨w1.heap.size, .slice (some ⟨g1, 0, none⟩) n1 c1, rfl, heap_alloc_new w1 _, (hown1.below hal).ss, fun g hg => ?_, hb1.size, hb1.trans (hal.mono hb1.size)⟩
  have := (hown1.lt g hg).2
  omega
end Go.Proofs.YtbpedjkebemhnaaGreatDoor

/- A replacer at work on a text: the table by the byte. -/
set_option linter.unusedVariables false
namespace Go.Proofs.YtbpedjkebemhnaaGreatDoor
open Go.RowKit

theorem make_bytes (w : World) (n : Nat) (hn : n ≤ 10000000) : ∃ w1, (Instr.makeSlice 74 (.int .i64 (n : Nat)) (.int .i64 (n : Nat))).run Tryz.prog w = .ok (.slice (some ⟨w.heap.size, 0, none⟩) n n) w1 ∧
    (∃ cur : List Value, w1.heap[w.heap.size]? = some (.cells cur.toArray 5 (0, 0)) ∧ cur.length = n) ∧ Below w.heap.size w w1 := by
  obtain ⟨ht, hinfo, _, _⟩ := el_byte
  obtain ⟨i, hi, hz, hs, hb⟩ := info_parts hinfo
  have hr := run_make (P := Tryz.prog) w 74 5 i _ ht hi hz .i64 .i64 n n (by omega) (Int.le_refl _) (by rw [hb]; omega) (by omega)
  simp only [Int.toNat_natCast] at hr
  refine ⟨_, hr, ⟨(madeCells (Value.int IntKind.u8 0).cells (n * i.size)).toList, by rw [Array.toArray_toList]; exact heap_alloc_new w _, by rw [Array.length_toList, size_madeCells, hs, Nat.mul_one]⟩, (Below.refl _ _).alloc (Nat.le_refl _) _⟩
theorem tab_at {w : World} {base bs : Nat} {m : List Bt} {l : List (UInt8 × Bt)} (h : TabM w base bs m l) (c : UInt8) (u : Bt) (hl : l.lookup c = some u) :
    ∃ g k, w.cell? ⟨bs, c.toNat, none⟩ = some (.slice (some ⟨g, 0, none⟩) u.length k) ∧ g < w.heap.size ∧ ∀ (j : Nat) (hj : j < u.length), w.cell? ⟨g, j, none⟩ = some (.int .u8 (u[j].toNat : Int)) := by
  obtain ⟨cs, tr, h1, h2, h3, h4, h5, h6, h7⟩ := h
  obtain ⟨g, k, a1, a0, a2, a3, a4, a7⟩ := (h7 c).2 u hl
  exact ⟨g, k, (cell_of_row _ _ _ _ _ (0, 0) h1).trans a1, a2, a7⟩
theorem flat_take {s : Bt} {i : Nat} (h : i < s.length) : (s.take (i + 1)).flatMap escW = (s.take i).flatMap escW ++ escW s[i] := by
  rw [List.take_succ_eq_append_getElem h, List.flatMap_append]; simp
theorem escN_take {s : Bt} {i : Nat} (h : i < s.length) : escN (s.take (i + 1)) = escN (s.take i) + (if (escP.lookup s[i]).isSome then 1 else 0) := by
  rw [List.take_succ_eq_append_getElem h, escN_snoc]
theorem flat_part (s : Bt) (i : Nat) : ((s.take i).flatMap escW).length + ((s.drop i).flatMap escW).length = (s.flatMap escW).length := by
  rw [← List.length_append, ← List.flatMap_append, List.take_append_drop]
theorem escK_succ (s : Bt) (k i : Nat) (hk : k < 4) (hi : i + 2 * k = 6) : ∃ (c : UInt8) (a b : UInt8), (escP.map fun p => [p.1])[k]? = some [c] ∧ escP.lookup c = some [a, b] ∧ escK s (k + 1) = escK s k + Lib.countByte s c := by
  have hs : ∀ k (h : k < escP.length), escK s (k + 1) = escK s k + Lib.countByte s escP[k].1 := by
    intro k h
    unfold escK
    rw [List.take_succ_eq_append_getElem h, List.map_append, List.sum_append]; simp
  have : (k = 0 ∧ i = 6) ∨ (k = 1 ∧ i = 4) ∨ (k = 2 ∧ i = 2) ∨ (k = 3 ∧ i = 0) := by omega
  rcases this with ⟨rfl, rfl⟩ | ⟨rfl, rfl⟩ | ⟨rfl, rfl⟩ | ⟨rfl, rfl⟩
  · exact ⟨9, 92, 116, rfl, rfl, hs 0 (by decide)⟩
  · exact ⟨10, 92, 110, rfl, rfl, hs 1 (by decide)⟩
  · exact ⟨34, 92, 34, rfl, rfl, hs 2 (by decide)⟩
  · exact ⟨92, 92, 92, rfl, rfl, hs 3 (by decide)⟩
theorem bs_of_row {w : World} {b : Nat} {l : Bt} {t : TypeId} {n : Nat} (hn : n = l.length) (h : w.heap[b]? = some (.cells (bv l).toArray t (0, 0))) (hl : l.length ≤ maxLen) : Bs w w.heap.size (.slice (some ⟨b, 0, none⟩) n n) l := by
  subst hn
  refine ⟨_, l.length, l.length, rfl, by simp [bv_length], Nat.le_refl _, hl, fun _ => ⟨b, 0, rfl, block_lt h, fun j u hu => ?_⟩⟩
  rw [Nat.zero_add, cell_of_row _ _ _ _ _ (0, 0) h]
  simpa using hu
theorem flat_room (s : Bt) (i : Nat) (h : i < s.length) : ((s.take i).flatMap escW).length + (escW s[i]).length ≤ (s.flatMap escW).length := by
  have h1 := flat_part s (i + 1)
  rw [flat_take h, List.length_append] at h1
  omega
theorem take_set_snoc {l m : List Value} {j : Nat} {v : Value} (h : l.take j = m) (hj : j < l.length) : (l.set j v).take (j + 1) = m ++ [v] := by
  have hs : j < (l.set j v).length := by rw [List.length_set]; exact hj
  rw [List.take_succ_eq_append_getElem hs, List.getElem_set_self, List.take_set_of_le (Nat.le_refl j), h]
theorem splice_take {l m cs : List Value} {j : Nat} (h : l.take j = m) (hj : j + cs.length ≤ l.length) : (splice l j cs).take (j + cs.length) = m ++ cs := by
  unfold splice
  rw [← List.append_assoc, h]
  have : (m ++ cs).length = j + cs.length := by rw [List.length_append, ← h, List.length_take]; omega
  rw [← this, List.take_left]
theorem neq_nil (a : Addr) (n k : Nat) (u : World) : (binOp .neq 74 (.slice (some a) n k) (.slice none 0 0)).run Tryz.prog u = .ok (.bool true) u := by kernel_rfl
theorem neq_same (u : World) : (binOp .neq 74 (.slice none 0 0) (.slice none 0 0)).run Tryz.prog u = .ok (.bool false) u := by kernel_rfl

set_option maxRecDepth 100000 in
set_option maxHeartbeats 4000000 in
theorem bsr_any (w : World) (base bs : Nat) (s : Bt) (hT : TabM w base bs (escP.map fun p => [p.1]) escP) (hs : s.length ≤ 1000000) :
    Calls Tryz.prog 262 #[.pointer (some ⟨bs, 0, none⟩), sv s] w fun e w' => e = .returned (sv (s.flatMap escW)) ∧ Below w.heap.size w w' := by
  have hsz := sv_size s
  obtain ⟨cs, tr, t1, t3, t4, t5, t6, t7⟩ := tab_rep hT
  have hml : (escP.map fun p => [p.1]).length = 4 := rfl
  obtain ⟨g, ct, rfl, _, hgl, _, hcm⟩ := own_form t6.row (by rw [hml]; omega)
  rw [hml] at t4
  unfold maxLen at hcm
  have hcell : ∀ j u, (svs (escP.map fun p => [p.1]))[j]? = some u → w.cell? ⟨g, j, none⟩ = some u := by
    intro j u hu
    have := t6.row.cells (g := g) rfl j u hu
    rwa [plain_add, Nat.zero_add] at this
  have hbsl := block_lt t1
  have hnl := esc_len s
  have hnle := escN_le s
  have HCELL := hid hcell
  have HT := hid hT
  have HNL := hid hnl
  have hne := neq_nil
  have hns := neq_same
  clear hcell t5 t1 t3 t6 t7 hT hml hnl
  by_cases h32 : (32 : Int) ≤ s.length
  · go_enter Tryz.func262, Tryz.ntmps262
    go_wp2_with fail
    go_loopw [5, 6, 8, 9, 32] (fun v5 v6 v8 v9 v32 wr => ∃ k n : Nat, k ≤ 4 ∧ v32 = .int .i64 k ∧ v5 = .int .i64 n ∧ n = s.length + escK s k ∧ v6 = .bool (decide (escK s k ≠ 0)) ∧ Below w.heap.size w wr) (fun _ _ _ _ v32 _ => 4 - (intOf v32).toNat)
    case atStart => exact ⟨0, s.length, by omega, rfl, rfl, rfl, rfl, Below.refl _ _⟩
    case round =>
      obtain ⟨k, n, hk, rfl, rfl, hn, rfl, hbr⟩ := hrel
      by_cases hk4 : k < 4
      · obtain ⟨c0, a0, b0, hm0, hl0, hkk⟩ := escK_succ s k (6 - 2 * k) hk4 (by omega)
        have hlt4 : (k : Int) < 4 := by omega
        have hc256 : (c0.toNat : Int) < 256 := by have := c0.toNat_lt; omega
        have p0 : wr.cell? ⟨g, k, none⟩ = some (sv [c0]) := (hbr.cell (p := ⟨g, k, none⟩) hgl).trans (HCELL.out k _ (by unfold svs; rw [List.getElem?_map, hm0]; rfl))
        have hix : (ByteArray.mk [c0].toArray)[0]'(by rw [sv_size]; simp) = c0 := sv_index [c0] 0 (by simp)
        obtain ⟨g0, k0, y1, _, _⟩ := tab_at (HT.out.below hbr) c0 [a0, b0] hl0
        have hcl : Lib.countByte s c0 ≤ s.length := List.count_le_length
        have HKK := hid hkk
        have HN := hid hn
        clear hkk hn hm0 hl0
        go_wp2_with fail
        refine (Tryz.strings_Count_one ⟨s.toArray⟩ c0 _).mono ?_
        rintro e wr ⟨rfl, rfl⟩
        simp only [show (ByteArray.mk s.toArray).data.toList = s from rfl]
        generalize hcn : Lib.countByte s c0 = m at *
        by_cases hm : m = 0
        · subst hm
          go_wp2_with fail
          go_roundw
          case rel => exact ⟨k + 1, n, by omega, rfl, rfl, by rw [HKK.out, HN.out]; omega, by rw [HKK.out]; simp, hbr⟩
          case measure => simp [intOf]; omega
        · have hm0 : ¬ (m : Int) = 0 := by omega
          have hm1 : ((m : Int) != 0) = true := by rw [bne_iff_ne]; exact hm0
          have hkle := escK_le s k (by omega)
          have hn2 : n ≤ 2 * s.length := by have := HN.out; omega
          have hmb : ((m : Int) * 1) = m := Int.mul_one _
          have hnm : n + m = s.length + escK s (k + 1) := by rw [HKK.out, HN.out]; omega
          have hkz : decide (escK s (k + 1) ≠ 0) = true := by rw [decide_eq_true_eq, HKK.out]; omega
          have HNM := hid hnm
          have HKZ := hid hkz
          clear hnm hkz
          go_wp2_with fail
          go_quiet (fail)
          go_wp2_with fail
          go_roundw
          case rel => exact ⟨k + 1, n + m, by omega, rfl, rfl, HNM.out, by rw [HKZ.out], hbr.trans (below_drawn _ _)⟩
          case measure => simp [intOf]; omega
      · obtain rfl : k = 4 := by omega
        have hk4' : ¬ ((4 : Nat) : Int) < 4 := by omega
        rw [escK_four] at hn ⊢
        by_cases hz : escN s = 0
        · have HE := hid (esc_same s hz)
          rw [decide_eq_false (by simp [hz])]
          clear hne hns
          go_wp2_with fail
          go_ret
          exact ⟨by rw [HE.out]; rfl, hbr⟩
        · rw [decide_eq_true (show escN s ≠ 0 from hz)]
          have hnf : n = (s.flatMap escW).length := by rw [HNL.out]; exact hn
          obtain ⟨w1, hmk, ⟨cur0, hcur, hcl⟩, hb1⟩ := make_bytes wr n (by omega)
          have HNF := hid hnf
          have HCUR := hid hcur
          have hB1 : Below w.heap.size w w1 := hbr.trans (hb1.mono hbr.size)
          obtain ⟨bb, hbbe⟩ : ∃ bb, bb = wr.heap.size := ⟨_, rfl⟩
          have hbb : w.heap.size ≤ bb := by rw [hbbe]; exact hbr.size
          rw [← hbbe] at HCUR hmk
          have HBBE := hid hbbe
          clear hbbe
          have hnb : n ≤ 2000000 := by omega
          clear hn hnf hcur hz
          go_wp2_with fail
          clear hmk hb1
          go_loopw [13, 14, 15] (fun v13 v14 v15 wr => ∃ (i j : Nat) (cur : List Value), v14 = .int .i64 i ∧ v13 = .int .i64 j ∧ i ≤ s.length ∧ j = ((s.take i).flatMap escW).length ∧ wr.heap[bb]? = some (.cells cur.toArray 5 (0, 0)) ∧ cur.length = n ∧ cur.take j = bv ((s.take i).flatMap escW) ∧ Below w.heap.size w wr) (fun _ v14 _ _ => s.length - (intOf v14).toNat)
          case atStart => exact ⟨0, 0, cur0, rfl, rfl, by omega, rfl, HCUR.out, hcl, rfl, hB1⟩
          case round =>
            obtain ⟨i, j, cur, rfl, rfl, hi, hj, hcur, hcn, htk, hbq⟩ := hrel
            have HTQ := hid (HT.out.below hbq)
            by_cases hlt : i < s.length
            · have hix := sv_index s i hlt
              have hft := flat_take hlt
              have hroom := flat_room s i hlt
              rw [← hj, ← HNF.out] at hroom
              have hc256 : ((s[i]).toNat : Int) < 256 := by have := (s[i]).toNat_lt; omega
              have hes := escP_at s[i]
              generalize hX : s[i] = X at *
              clear hX
              have HFT := hid hft
              have HJ := hid hj
              have HTK := hid htk
              have HCURQ := hid hcur
              have HCN := hid hcn
              clear hft hj htk
              rcases hes with ⟨hl0, hw0, _, _, _, _⟩ | ⟨a, b, hl0, hw0, _⟩
              · rw [hw0] at hroom
                simp only [List.length_singleton] at hroom
                have y1 := (tab_cell HTQ.out X hl0).1
                have hjn : j < n := by omega
                have z1 : wr.cell? ⟨bb, j, none⟩ = some (cur[j]'(by omega)) := (cell_of_row _ _ _ _ _ (0, 0) hcur).trans (by simp [hcn, hjn])
                have z2 := block_free hcur j
                have hnew := heap_setCell_same wr bb j _ _ (.int .u8 (X.toNat : Int)) hcur
                rw [List.setIfInBounds_toArray] at hnew
                have HNEW := hid hnew
                have hbn := hbq.trans ((turn_set wr bb j (.int .u8 (X.toNat : Int))).below hbq.size (fun k hk h => by omega))
                have htn := take_set_snoc (v := .int .u8 (X.toNat : Int)) HTK.out (by omega)
                have HTN := hid htn
                have HW0 := hid hw0
                clear hnew htn hcur hw0 hl0 HNL
                generalize cur[j] = cj at *
                go_wp2_with fail
                go_roundw
                case rel => exact ⟨i + 1, j + 1, _, rfl, rfl, by omega, by rw [HFT.out, HW0.out, List.length_append, ← HJ.out]; rfl, HNEW.out, by rw [List.length_set]; exact HCN.out, by rw [HTN.out, HFT.out, HW0.out, bv_append]; rfl, hbn⟩
                case measure => simp [intOf]; omega
              · rw [hw0] at hroom
                simp only [List.length_cons, List.length_nil] at hroom
                obtain ⟨g0, k0, y1, _, y3⟩ := tab_at HTQ.out X [a, b] hl0
                have hjn : j < n := by omega
                have hjn2 : j ≤ n := by omega
                have hnj : ¬ n = j := by omega
                have hwj : IntKind.i64.wrap ((j : Int) + 2) = (j : Int) + 2 := by rw [i64_wrap]; exact wrap64_id (by unfold In64; omega)
                have HWR := hid hbq
                have hlen2 : ([a, b] : Bt).length = 2 := rfl
                rw [hlen2] at y1
                have hS0 : wr.drew.cell? ⟨bs, X.toNat, none⟩ = some (.slice (some ⟨g0, 0, none⟩) 2 k0) := y1
                have hsrc : ∀ (q : Nat) v, [Value.int .u8 (a.toNat : Int), .int .u8 (b.toNat : Int)][q]? = some v → wr.drew.cell? ((⟨g0, 0, none⟩ : Addr).add q) = some v := by
                  intro q v hv
                  rw [plain_add, Nat.zero_add]
                  rcases q with _ | _ | q
                  · exact (y3 0 (by simp)).trans hv
                  · exact (y3 1 (by simp)).trans hv
                  · simp at hv
                have hbd : Below w.heap.size w wr.drew := hbq.trans (below_drawn wr 1)
                have HSRC := hid hsrc
                have HW0 := hid hw0
                clear hsrc y3 hw0 hl0 HNL hcur
                go_wp2_with fail
                refine wp_region_held_drew (S := fun w' => w'.cell? ⟨bs, X.toNat, none⟩ = some (.slice (some ⟨g0, 0, none⟩) 2 k0)) (by kernel_rfl) hS0 (fun _ => ?_)
                try simp only [Act.put, List.getElem_toArray, List.getElem_cons_zero, List.getElem_cons_succ, List.setIfInBounds_toArray, List.set_cons_zero, List.set_cons_succ]
                refine wpAnyH_take (i := 0) (v := (.int .i64 j)) rfl (by kernel_rfl) (by kernel_rfl) (by kernel_rfl) (fun _ _ _ h => h) (Or.inl ⟨by kernel_rfl, by intro w hSw; obtain hSw0 := hSw; go_simp⟩) hS0 ?_
                try simp only [Act.put, List.getElem_toArray, List.getElem_cons_zero, List.getElem_cons_succ, List.setIfInBounds_toArray, List.set_cons_zero, List.set_cons_succ]
                refine wpAnyH_take (i := 1) (v := (.slice (some ⟨bb, 0, none⟩) n n)) rfl (by kernel_rfl) (by kernel_rfl) (by kernel_rfl) (fun _ _ _ h => h) (Or.inl ⟨by kernel_rfl, by intro w hSw; obtain hSw0 := hSw; go_simp⟩) hS0 ?_
                try simp only [Act.put, List.getElem_toArray, List.getElem_cons_zero, List.getElem_cons_succ, List.setIfInBounds_toArray, List.set_cons_zero, List.set_cons_succ]
                refine wpAnyH_take (i := 2) (v := (.int .i64 j)) rfl (by kernel_rfl) (by kernel_rfl) (by kernel_rfl) (fun _ _ _ h => h) (Or.inl ⟨by kernel_rfl, by intro w hSw; obtain hSw0 := hSw; go_simp⟩) hS0 ?_
                try simp only [Act.put, List.getElem_toArray, List.getElem_cons_zero, List.getElem_cons_succ, List.setIfInBounds_toArray, List.set_cons_zero, List.set_cons_succ]
                refine wpAnyH_take (i := 3) (v := (.slice (some ⟨bb, j, none⟩) (n - j) (n - j))) rfl (by kernel_rfl) (by kernel_rfl) (by kernel_rfl) (fun _ _ _ h => h) (Or.inl ⟨by kernel_rfl, by intro w hSw; obtain hSw0 := hSw; go_simp⟩) hS0 ?_
                try simp only [Act.put, List.getElem_toArray, List.getElem_cons_zero, List.getElem_cons_succ, List.setIfInBounds_toArray, List.set_cons_zero, List.set_cons_succ]
                refine wpAnyH_take (i := 4) (v := (.pointer (some ⟨bs, 0, none⟩))) rfl (by kernel_rfl) (by kernel_rfl) (by kernel_rfl) (fun _ _ _ h => h) (Or.inl ⟨by kernel_rfl, by intro w hSw; obtain hSw0 := hSw; go_simp⟩) hS0 ?_
                try simp only [Act.put, List.getElem_toArray, List.getElem_cons_zero, List.getElem_cons_succ, List.setIfInBounds_toArray, List.set_cons_zero, List.set_cons_succ]
                refine wpAnyH_take (i := 5) (v := (.int .u8 (X.toNat : Int))) rfl (by kernel_rfl) (by kernel_rfl) (by kernel_rfl) (fun _ _ _ h => h) (Or.inl ⟨by kernel_rfl, by intro w hSw; obtain hSw0 := hSw; go_simp⟩) hS0 ?_
                try simp only [Act.put, List.getElem_toArray, List.getElem_cons_zero, List.getElem_cons_succ, List.setIfInBounds_toArray, List.set_cons_zero, List.set_cons_succ]
                refine wpAnyH_take (i := 6) (v := (.pointer (some ⟨bs, 0, none⟩))) rfl (by kernel_rfl) (by kernel_rfl) (by kernel_rfl) (fun _ _ _ h => h) (Or.inl ⟨by kernel_rfl, by intro w hSw; obtain hSw0 := hSw; go_simp⟩) hS0 ?_
                try simp only [Act.put, List.getElem_toArray, List.getElem_cons_zero, List.getElem_cons_succ, List.setIfInBounds_toArray, List.set_cons_zero, List.set_cons_succ]
                refine wpAnyH_take (i := 7) (v := (.pointer (some ⟨bs, 0, none⟩))) rfl (by kernel_rfl) (by kernel_rfl) (by kernel_rfl) (fun _ _ _ h => h) (Or.inl ⟨by kernel_rfl, by intro w hSw; obtain hSw0 := hSw; go_simp⟩) hS0 ?_
                try simp only [Act.put, List.getElem_toArray, List.getElem_cons_zero, List.getElem_cons_succ, List.setIfInBounds_toArray, List.set_cons_zero, List.set_cons_succ]
                refine wpAnyH_take (i := 8) (v := (.pointer (some ⟨bs, X.toNat, none⟩))) rfl (by kernel_rfl) (by kernel_rfl) (by kernel_rfl) (fun _ _ _ h => h) (Or.inl ⟨by kernel_rfl, by intro w hSw; obtain hSw0 := hSw; go_simp⟩) hS0 ?_
                try simp only [Act.put, List.getElem_toArray, List.getElem_cons_zero, List.getElem_cons_succ, List.setIfInBounds_toArray, List.set_cons_zero, List.set_cons_succ]
                refine wpAnyH_take (i := 9) (v := (.slice (some ⟨g0, 0, none⟩) 2 k0)) rfl (by kernel_rfl) (by kernel_rfl) (by kernel_rfl) (fun _ _ _ h => h) (Or.inl ⟨by kernel_rfl, by intro w hSw; obtain hSw0 := hSw; go_simp⟩) hS0 ?_
                try simp only [Act.put, List.getElem_toArray, List.getElem_cons_zero, List.getElem_cons_succ, List.setIfInBounds_toArray, List.set_cons_zero, List.set_cons_succ]
                refine wpAnyH_ready (rs := [10]) (by kernel_rfl) (by simp) ?_
                refine AllReadyH.cons rfl (fun K hK => ?_) AllReadyH.nil
                refine step_copy_splice rfl (.tmp 105) (.tmp 111) _ _ rfl 5 Tryz.underlying74 (by kernel_rfl) _ _ _ _ _ _ rfl rfl bb j cur 5 HCURQ.out [.int .u8 (a.toNat : Int), .int .u8 (b.toNat : Int)] (by show 2 = min 2 (n - j); omega) (fun _ => ⟨rfl, _, rfl, HSRC.out⟩) (by rw [HCN.out]; simp only [List.length_cons, List.length_nil]; omega) (by intro v hv; simp at hv; rcases hv with rfl | rfl <;> rfl) w.heap.size w hbd hbb (fun w5 hw5 hb5 => ?_)
                have hS1 : w5.cell? ⟨bs, X.toNat, none⟩ = some (.slice (some ⟨g0, 0, none⟩) 2 k0) := by
                  exact (hb5.cell (p := ⟨bs, X.toNat, none⟩) hbsl).trans ((HWR.out.cell (p := ⟨bs, X.toNat, none⟩) hbsl).symm.trans y1)
                refine hK.out _ _ hS1 (fun _ => ?_)
                clear hK K
                try simp only [Act.put, List.getElem_toArray, List.getElem_cons_zero, List.getElem_cons_succ, List.setIfInBounds_toArray, List.set_cons_zero, List.set_cons_succ]
                refine wpAnyH_take (i := 11) (v := (.int .i64 ((j : Int) + 2))) rfl (by kernel_rfl) (by kernel_rfl) (by kernel_rfl) (fun _ _ _ h => h) (Or.inl ⟨by kernel_rfl, by intro w hSw; obtain hSw0 := hSw; go_simp⟩) hS1 ?_
                try simp only [Act.put, List.getElem_toArray, List.getElem_cons_zero, List.getElem_cons_succ, List.setIfInBounds_toArray, List.set_cons_zero, List.set_cons_succ]
                refine wpAnyH_take (i := 12) (v := (.int .i64 ((j : Int) + 2))) rfl (by kernel_rfl) (by kernel_rfl) (by kernel_rfl) (fun _ _ _ h => h) (Or.inl ⟨by kernel_rfl, by intro w hSw; obtain hSw0 := hSw; go_simp⟩) hS1 ?_
                try simp only [Act.put, List.getElem_toArray, List.getElem_cons_zero, List.getElem_cons_succ, List.setIfInBounds_toArray, List.set_cons_zero, List.set_cons_succ]
                refine wpAnyH_done (by kernel_rfl) ?_ _
                have hspl := splice_take (cs := [Value.int .u8 (a.toNat : Int), .int .u8 (b.toNat : Int)]) HTK.out (by rw [HCN.out]; simp; omega)
                have HSPL := hid hspl
                clear hspl
                go_wp2_with fail
                go_roundw
                case rel => exact ⟨i + 1, j + 2, _, rfl, rfl, by omega, by rw [HFT.out, HW0.out, List.length_append, ← HJ.out]; rfl, hw5.out, by rw [length_splice _ _ _ (by rw [HCN.out]; simp; omega)]; exact HCN.out, by rw [HFT.out, HW0.out, bv_append]; exact HSPL.out, hb5⟩
                case measure => simp [intOf]; omega
            · obtain rfl : i = s.length := by omega
              rw [List.take_length] at hj htk
              rw [← HNF.out] at hj
              subst hj
              rw [List.take_of_length_le (by omega)] at htk
              rw [htk] at hcur
              have hcv := run_string_of (P := Tryz.prog) (bs_of_row HNF.out hcur (by rw [← HNF.out]; unfold maxLen; omega)) 74 5 9 Tryz.underlying74 Tryz.underlying5 Tryz.underlying9
              clear hcur htk hcn HNL HNF
              go_wp2_with fail
              go_ret
              exact ⟨rfl, hbq⟩
  · go_enter Tryz.func262, Tryz.ntmps262
    go_wp2_with fail
    go_loop [5, 6, 10, 11] (fun v5 v6 v10 v11 => ∃ i n : Nat, v10 = .int .i64 i ∧ v5 = .int .i64 n ∧ i ≤ s.length ∧ n = s.length + escN (s.take i) ∧ v6 = .bool (decide (escN (s.take i) ≠ 0))) (fun _ _ v10 _ => s.length - (intOf v10).toNat)
    case atStart => exact ⟨0, s.length, rfl, rfl, by omega, rfl, rfl⟩
    case round =>
      obtain ⟨i, n, rfl, rfl, hi, hn, rfl⟩ := hrel
      by_cases hlt : i < s.length
      · have hix := sv_index s i hlt
        have hft := escN_take hlt
        have hle1 := escN_le (s.take i)
        have hnb : n ≤ 2000000 := by rw [List.length_take] at hle1; omega
        have hc256 : ((s[i]).toNat : Int) < 256 := by have := (s[i]).toNat_lt; omega
        have hes := escP_at s[i]
        generalize hX : s[i] = X at *
        clear hX
        have HN := hid hn
        clear hn
        rcases hes with ⟨hl0, hw0, _, _, _, _⟩ | ⟨a, b, hl0, hw0, _⟩
        · have y1 := (tab_cell HT.out X hl0).1
          rw [hl0] at hft
          have HFT := hid hft
          clear hft hl0 hw0 HNL
          go_wp2_with fail
          go_round
          case rel => exact ⟨i + 1, n, rfl, rfl, by omega, by rw [HFT.out]; exact HN.out, by rw [HFT.out]; rfl⟩
          case measure => simp [intOf]; omega
        · obtain ⟨g0, k0, y1, _, _⟩ := tab_at HT.out X [a, b] hl0
          have hlen2 : ([a, b] : Bt).length = 2 := rfl
          rw [hlen2] at y1
          rw [hl0] at hft
          have HFT := hid hft
          have hdz : decide (escN (s.take (i + 1)) ≠ 0) = true := by rw [decide_eq_true_eq, HFT.out]; simp
          have HDZ := hid hdz
          clear hft hl0 hw0 HNL hdz
          go_wp2_with fail
          go_round
          case rel => exact ⟨i + 1, n + 1, rfl, rfl, by omega, by rw [HFT.out, HN.out]; simp; omega, by rw [HDZ.out]⟩
          case measure => simp [intOf]; omega
      · obtain rfl : i = s.length := by omega
        rw [List.take_length] at hn ⊢
        by_cases hz : escN s = 0
        · have HE := hid (esc_same s hz)
          rw [decide_eq_false (by simp [hz])]
          clear hne hns
          go_wp2_with fail
          go_ret
          exact ⟨by rw [HE.out]; rfl, Below.refl _ _⟩
        · rw [decide_eq_true (show escN s ≠ 0 from hz)]
          have hnf : n = (s.flatMap escW).length := by rw [HNL.out]; exact hn
          obtain ⟨w1, hmk, ⟨cur0, hcur, hcl⟩, hb1⟩ := make_bytes w n (by omega)
          have HNF := hid hnf
          have HCUR := hid hcur
          have hB1 : Below w.heap.size w w1 := hb1
          obtain ⟨bb, hbbe⟩ : ∃ bb, bb = w.heap.size := ⟨_, rfl⟩
          have hbb : w.heap.size ≤ bb := by rw [hbbe]; exact Nat.le_refl _
          rw [← hbbe] at HCUR hmk
          have HBBE := hid hbbe
          clear hbbe
          have hnb : n ≤ 2000000 := by omega
          clear hn hnf hcur hz
          go_wp2_with fail
          clear hmk hb1
          go_loopw [13, 14, 15] (fun v13 v14 v15 wr => ∃ (i j : Nat) (cur : List Value), v14 = .int .i64 i ∧ v13 = .int .i64 j ∧ i ≤ s.length ∧ j = ((s.take i).flatMap escW).length ∧ wr.heap[bb]? = some (.cells cur.toArray 5 (0, 0)) ∧ cur.length = n ∧ cur.take j = bv ((s.take i).flatMap escW) ∧ Below w.heap.size w wr) (fun _ v14 _ _ => s.length - (intOf v14).toNat)
          case atStart => exact ⟨0, 0, cur0, rfl, rfl, by omega, rfl, HCUR.out, hcl, rfl, hB1⟩
          case round =>
            obtain ⟨i, j, cur, rfl, rfl, hi, hj, hcur, hcn, htk, hbq⟩ := hrel
            have HTQ := hid (HT.out.below hbq)
            by_cases hlt : i < s.length
            · have hix := sv_index s i hlt
              have hft := flat_take hlt
              have hroom := flat_room s i hlt
              rw [← hj, ← HNF.out] at hroom
              have hc256 : ((s[i]).toNat : Int) < 256 := by have := (s[i]).toNat_lt; omega
              have hes := escP_at s[i]
              generalize hX : s[i] = X at *
              clear hX
              have HFT := hid hft
              have HJ := hid hj
              have HTK := hid htk
              have HCURQ := hid hcur
              have HCN := hid hcn
              clear hft hj htk
              rcases hes with ⟨hl0, hw0, _, _, _, _⟩ | ⟨a, b, hl0, hw0, _⟩
              · rw [hw0] at hroom
                simp only [List.length_singleton] at hroom
                have y1 := (tab_cell HTQ.out X hl0).1
                have hjn : j < n := by omega
                have z1 : wr.cell? ⟨bb, j, none⟩ = some (cur[j]'(by omega)) := (cell_of_row _ _ _ _ _ (0, 0) hcur).trans (by simp [hcn, hjn])
                have z2 := block_free hcur j
                have hnew := heap_setCell_same wr bb j _ _ (.int .u8 (X.toNat : Int)) hcur
                rw [List.setIfInBounds_toArray] at hnew
                have HNEW := hid hnew
                have hbn := hbq.trans ((turn_set wr bb j (.int .u8 (X.toNat : Int))).below hbq.size (fun k hk h => by omega))
                have htn := take_set_snoc (v := .int .u8 (X.toNat : Int)) HTK.out (by omega)
                have HTN := hid htn
                have HW0 := hid hw0
                clear hnew htn hcur hw0 hl0 HNL
                generalize cur[j] = cj at *
                go_wp2_with fail
                go_roundw
                case rel => exact ⟨i + 1, j + 1, _, rfl, rfl, by omega, by rw [HFT.out, HW0.out, List.length_append, ← HJ.out]; rfl, HNEW.out, by rw [List.length_set]; exact HCN.out, by rw [HTN.out, HFT.out, HW0.out, bv_append]; rfl, hbn⟩
                case measure => simp [intOf]; omega
              · rw [hw0] at hroom
                simp only [List.length_cons, List.length_nil] at hroom
                obtain ⟨g0, k0, y1, _, y3⟩ := tab_at HTQ.out X [a, b] hl0
                have hjn : j < n := by omega
                have hjn2 : j ≤ n := by omega
                have hnj : ¬ n = j := by omega
                have hwj : IntKind.i64.wrap ((j : Int) + 2) = (j : Int) + 2 := by rw [i64_wrap]; exact wrap64_id (by unfold In64; omega)
                have HWR := hid hbq
                have hlen2 : ([a, b] : Bt).length = 2 := rfl
                rw [hlen2] at y1
                have hS0 : wr.drew.cell? ⟨bs, X.toNat, none⟩ = some (.slice (some ⟨g0, 0, none⟩) 2 k0) := y1
                have hsrc : ∀ (q : Nat) v, [Value.int .u8 (a.toNat : Int), .int .u8 (b.toNat : Int)][q]? = some v → wr.drew.cell? ((⟨g0, 0, none⟩ : Addr).add q) = some v := by
                  intro q v hv
                  rw [plain_add, Nat.zero_add]
                  rcases q with _ | _ | q
                  · exact (y3 0 (by simp)).trans hv
                  · exact (y3 1 (by simp)).trans hv
                  · simp at hv
                have hbd : Below w.heap.size w wr.drew := hbq.trans (below_drawn wr 1)
                have HSRC := hid hsrc
                have HW0 := hid hw0
                clear hsrc y3 hw0 hl0 HNL hcur
                go_wp2_with fail
                refine wp_region_held_drew (S := fun w' => w'.cell? ⟨bs, X.toNat, none⟩ = some (.slice (some ⟨g0, 0, none⟩) 2 k0)) (by kernel_rfl) hS0 (fun _ => ?_)
                try simp only [Act.put, List.getElem_toArray, List.getElem_cons_zero, List.getElem_cons_succ, List.setIfInBounds_toArray, List.set_cons_zero, List.set_cons_succ]
                refine wpAnyH_take (i := 0) (v := (.int .i64 j)) rfl (by kernel_rfl) (by kernel_rfl) (by kernel_rfl) (fun _ _ _ h => h) (Or.inl ⟨by kernel_rfl, by intro w hSw; obtain hSw0 := hSw; go_simp⟩) hS0 ?_
                try simp only [Act.put, List.getElem_toArray, List.getElem_cons_zero, List.getElem_cons_succ, List.setIfInBounds_toArray, List.set_cons_zero, List.set_cons_succ]
                refine wpAnyH_take (i := 1) (v := (.slice (some ⟨bb, 0, none⟩) n n)) rfl (by kernel_rfl) (by kernel_rfl) (by kernel_rfl) (fun _ _ _ h => h) (Or.inl ⟨by kernel_rfl, by intro w hSw; obtain hSw0 := hSw; go_simp⟩) hS0 ?_
                try simp only [Act.put, List.getElem_toArray, List.getElem_cons_zero, List.getElem_cons_succ, List.setIfInBounds_toArray, List.set_cons_zero, List.set_cons_succ]
                refine wpAnyH_take (i := 2) (v := (.int .i64 j)) rfl (by kernel_rfl) (by kernel_rfl) (by kernel_rfl) (fun _ _ _ h => h) (Or.inl ⟨by kernel_rfl, by intro w hSw; obtain hSw0 := hSw; go_simp⟩) hS0 ?_
                try simp only [Act.put, List.getElem_toArray, List.getElem_cons_zero, List.getElem_cons_succ, List.setIfInBounds_toArray, List.set_cons_zero, List.set_cons_succ]
                refine wpAnyH_take (i := 3) (v := (.slice (some ⟨bb, j, none⟩) (n - j) (n - j))) rfl (by kernel_rfl) (by kernel_rfl) (by kernel_rfl) (fun _ _ _ h => h) (Or.inl ⟨by kernel_rfl, by intro w hSw; obtain hSw0 := hSw; go_simp⟩) hS0 ?_
                try simp only [Act.put, List.getElem_toArray, List.getElem_cons_zero, List.getElem_cons_succ, List.setIfInBounds_toArray, List.set_cons_zero, List.set_cons_succ]
                refine wpAnyH_take (i := 4) (v := (.pointer (some ⟨bs, 0, none⟩))) rfl (by kernel_rfl) (by kernel_rfl) (by kernel_rfl) (fun _ _ _ h => h) (Or.inl ⟨by kernel_rfl, by intro w hSw; obtain hSw0 := hSw; go_simp⟩) hS0 ?_
                try simp only [Act.put, List.getElem_toArray, List.getElem_cons_zero, List.getElem_cons_succ, List.setIfInBounds_toArray, List.set_cons_zero, List.set_cons_succ]
                refine wpAnyH_take (i := 5) (v := (.int .u8 (X.toNat : Int))) rfl (by kernel_rfl) (by kernel_rfl) (by kernel_rfl) (fun _ _ _ h => h) (Or.inl ⟨by kernel_rfl, by intro w hSw; obtain hSw0 := hSw; go_simp⟩) hS0 ?_
                try simp only [Act.put, List.getElem_toArray, List.getElem_cons_zero, List.getElem_cons_succ, List.setIfInBounds_toArray, List.set_cons_zero, List.set_cons_succ]
                refine wpAnyH_take (i := 6) (v := (.pointer (some ⟨bs, 0, none⟩))) rfl (by kernel_rfl) (by kernel_rfl) (by kernel_rfl) (fun _ _ _ h => h) (Or.inl ⟨by kernel_rfl, by intro w hSw; obtain hSw0 := hSw; go_simp⟩) hS0 ?_
                try simp only [Act.put, List.getElem_toArray, List.getElem_cons_zero, List.getElem_cons_succ, List.setIfInBounds_toArray, List.set_cons_zero, List.set_cons_succ]
                refine wpAnyH_take (i := 7) (v := (.pointer (some ⟨bs, 0, none⟩))) rfl (by kernel_rfl) (by kernel_rfl) (by kernel_rfl) (fun _ _ _ h => h) (Or.inl ⟨by kernel_rfl, by intro w hSw; obtain hSw0 := hSw; go_simp⟩) hS0 ?_
                try simp only [Act.put, List.getElem_toArray, List.getElem_cons_zero, List.getElem_cons_succ, List.setIfInBounds_toArray, List.set_cons_zero, List.set_cons_succ]
                refine wpAnyH_take (i := 8) (v := (.pointer (some ⟨bs, X.toNat, none⟩))) rfl (by kernel_rfl) (by kernel_rfl) (by kernel_rfl) (fun _ _ _ h => h) (Or.inl ⟨by kernel_rfl, by intro w hSw; obtain hSw0 := hSw; go_simp⟩) hS0 ?_
                try simp only [Act.put, List.getElem_toArray, List.getElem_cons_zero, List.getElem_cons_succ, List.setIfInBounds_toArray, List.set_cons_zero, List.set_cons_succ]
                refine wpAnyH_take (i := 9) (v := (.slice (some ⟨g0, 0, none⟩) 2 k0)) rfl (by kernel_rfl) (by kernel_rfl) (by kernel_rfl) (fun _ _ _ h => h) (Or.inl ⟨by kernel_rfl, by intro w hSw; obtain hSw0 := hSw; go_simp⟩) hS0 ?_
                try simp only [Act.put, List.getElem_toArray, List.getElem_cons_zero, List.getElem_cons_succ, List.setIfInBounds_toArray, List.set_cons_zero, List.set_cons_succ]
                refine wpAnyH_ready (rs := [10]) (by kernel_rfl) (by simp) ?_
                refine AllReadyH.cons rfl (fun K hK => ?_) AllReadyH.nil
                refine step_copy_splice rfl (.tmp 105) (.tmp 111) _ _ rfl 5 Tryz.underlying74 (by kernel_rfl) _ _ _ _ _ _ rfl rfl bb j cur 5 HCURQ.out [.int .u8 (a.toNat : Int), .int .u8 (b.toNat : Int)] (by show 2 = min 2 (n - j); omega) (fun _ => ⟨rfl, _, rfl, HSRC.out⟩) (by rw [HCN.out]; simp only [List.length_cons, List.length_nil]; omega) (by intro v hv; simp at hv; rcases hv with rfl | rfl <;> rfl) w.heap.size w hbd hbb (fun w5 hw5 hb5 => ?_)
                have hS1 : w5.cell? ⟨bs, X.toNat, none⟩ = some (.slice (some ⟨g0, 0, none⟩) 2 k0) := by
                  exact (hb5.cell (p := ⟨bs, X.toNat, none⟩) hbsl).trans ((HWR.out.cell (p := ⟨bs, X.toNat, none⟩) hbsl).symm.trans y1)
                refine hK.out _ _ hS1 (fun _ => ?_)
                clear hK K
                try simp only [Act.put, List.getElem_toArray, List.getElem_cons_zero, List.getElem_cons_succ, List.setIfInBounds_toArray, List.set_cons_zero, List.set_cons_succ]
                refine wpAnyH_take (i := 11) (v := (.int .i64 ((j : Int) + 2))) rfl (by kernel_rfl) (by kernel_rfl) (by kernel_rfl) (fun _ _ _ h => h) (Or.inl ⟨by kernel_rfl, by intro w hSw; obtain hSw0 := hSw; go_simp⟩) hS1 ?_
                try simp only [Act.put, List.getElem_toArray, List.getElem_cons_zero, List.getElem_cons_succ, List.setIfInBounds_toArray, List.set_cons_zero, List.set_cons_succ]
                refine wpAnyH_take (i := 12) (v := (.int .i64 ((j : Int) + 2))) rfl (by kernel_rfl) (by kernel_rfl) (by kernel_rfl) (fun _ _ _ h => h) (Or.inl ⟨by kernel_rfl, by intro w hSw; obtain hSw0 := hSw; go_simp⟩) hS1 ?_
                try simp only [Act.put, List.getElem_toArray, List.getElem_cons_zero, List.getElem_cons_succ, List.setIfInBounds_toArray, List.set_cons_zero, List.set_cons_succ]
                refine wpAnyH_done (by kernel_rfl) ?_ _
                have hspl := splice_take (cs := [Value.int .u8 (a.toNat : Int), .int .u8 (b.toNat : Int)]) HTK.out (by rw [HCN.out]; simp; omega)
                have HSPL := hid hspl
                clear hspl
                go_wp2_with fail
                go_roundw
                case rel => exact ⟨i + 1, j + 2, _, rfl, rfl, by omega, by rw [HFT.out, HW0.out, List.length_append, ← HJ.out]; rfl, hw5.out, by rw [length_splice _ _ _ (by rw [HCN.out]; simp; omega)]; exact HCN.out, by rw [HFT.out, HW0.out, bv_append]; exact HSPL.out, hb5⟩
                case measure => simp [intOf]; omega
            · obtain rfl : i = s.length := by omega
              rw [List.take_length] at hj htk
              rw [← HNF.out] at hj
              subst hj
              rw [List.take_of_length_le (by omega)] at htk
              rw [htk] at hcur
              have hcv := run_string_of (P := Tryz.prog) (bs_of_row HNF.out hcur (by rw [← HNF.out]; unfold maxLen; omega)) 74 5 9 Tryz.underlying74 Tryz.underlying5 Tryz.underlying9
              clear hcur htk hcn HNL HNF
              go_wp2_with fail
              go_ret
              exact ⟨rfl, hbq⟩
end Go.Proofs.YtbpedjkebemhnaaGreatDoor

/- The contracts of a replacer's Replace and of lex's Quote. -/
set_option linter.unusedVariables false
namespace Go.Proofs.YtbpedjkebemhnaaGreatDoor
open Go.RowKit

set_option maxRecDepth 100000 in
set_option maxHeartbeats 1000000 in
theorem replace_any (w : World) (b : Nat) (ov : Value) (s : Bt) (hR : repW w b 0 0 .nilIface ov) (hv : Ss w w.heap.size ov oldL) (hd : ∀ g, ov.ownBlock = some g → g ≠ b) (hs : s.length ≤ 1000000) :
    Calls Tryz.prog 146 #[.pointer (some ⟨b, 0, none⟩), sv s] w fun e w' => e = .returned (sv (s.flatMap escW)) ∧ Turn (fun k => k = b) w w' := by
  have hmf : ∀ (fn : Fn) (first cap : Array Value) (w : World), (Instr.makeFunc fn first cap).run Tryz.prog w = .ok (.func fn first cap) w := fun _ _ _ _ => rfl
  have HO := hid (once_any w b ov hR hv hd)
  clear hR hv hd
  go_enter Tryz.func146, Tryz.ntmps146
  go_wp2_with fail
  refine HO.out.mono ?_
  rintro e w1 ⟨rfl, ⟨bs, hR1, hT1⟩, ht1⟩
  obtain ⟨⟨c0, c1, c3, c4⟩, fr⟩ := rep_cells hR1
  clear HO
  go_wp2_with fail
  refine (bsr_any w1 _ bs s hT1 hs).mono ?_
  rintro e w2 ⟨rfl, hb2⟩
  have htn := ht1.trans (Turn.of_below (F := fun k => k = b) hb2) (fun _ _ h => h)
  go_wp2_with fail
  go_ret
  exact ⟨rfl, htn⟩
set_option maxRecDepth 100000 in
set_option maxHeartbeats 1000000 in
theorem quote_any (w : World) (s : Bt) (hs : s.length ≤ 1000000) : Calls Tryz.prog 122 #[sv s] w fun e w' => e = .returned (sv (quoteW s)) ∧ Below w.heap.size w w' := by
  have hss : Ss (w.alloc (.cells (svs oldL).toArray 9)) (w.alloc (.cells (svs oldL).toArray 9)).heap.size (.slice (some ⟨w.heap.size, 0, none⟩) 8 8) oldL := by
    have := sl_new w (svs oldL).toArray 9 1 8 (by simp [svs_length]; rfl) (by decide)
    rw [World.size_alloc]
    simpa [Ss] using this
  have hb : Below w.heap.size w (w.alloc (.cells (svs oldL).toArray 9)) := (Below.refl _ _).alloc (Nat.le_refl _) _
  have hfl : (s.flatMap escW).length ≤ 2 * s.length := by have h1 := esc_len s; have h2 := escN_le s; omega
  have hq : sv (quoteW s) = Value.string ((⟨#[34]⟩ : ByteArray) ++ ⟨(s.flatMap escW).toArray⟩ ++ ⟨#[34]⟩) := by
    rw [show (⟨#[34]⟩ : ByteArray) = ⟨([34] : Bt).toArray⟩ from rfl, str_append, str_append]
    rfl
  rw [hq]
  clear hq
  obtain ⟨x, hx⟩ : ∃ x, s.flatMap escW = x := ⟨_, rfl⟩
  have HR := hid (fun w b ov h1 h2 h3 => replace_any w b ov s h1 h2 h3 hs)
  rw [hx] at HR hfl ⊢
  clear hx
  have hxs := sv_size x
  go_enter Tryz.func122, Tryz.ntmps122
  go_wp2_with fail
  generalize hw : w.alloc (.cells #[.string ⟨#[92]⟩, .string ⟨#[92, 92]⟩, .string ⟨#[34]⟩, .string ⟨#[92, 34]⟩, .string ⟨#[10]⟩, .string ⟨#[92, 110]⟩, .string ⟨#[9]⟩, .string ⟨#[92, 116]⟩] 9) = w1 at *
  have hw' : w.alloc (.cells (svs oldL).toArray 9) = w1 := hw
  rw [hw'] at hss hb
  clear hw hw'
  refine (newrep_any w1 _ hss).mono ?_
  rintro e w2 ⟨b, ov, rfl, hR, hv, hd, hbw, hb2⟩
  go_wp2_with fail
  refine (HR.out w2 b ov hR hv hd).mono ?_
  rintro e w3 ⟨rfl, ht3⟩
  have hfin : Below w.heap.size w w3 := (bthen hb hb2).trans (ht3.below (Nat.le_trans hb.size hb2.size) (fun k hk h => by have := hb.size; omega))
  go_wp2_with fail
  go_ret
  exact ⟨rfl, hfin⟩
end Go.Proofs.YtbpedjkebemhnaaGreatDoor
