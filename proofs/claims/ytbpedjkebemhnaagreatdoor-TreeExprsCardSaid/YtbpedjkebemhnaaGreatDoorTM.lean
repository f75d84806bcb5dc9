/- Types with commas between, a type behind a colon, a type as text. -/
import Derived.Test.YtbpedjkebemhnaaGreatDoorTL
set_option linter.unusedVariables false
namespace Go.Proofs.YtbpedjkebemhnaaGreatDoor
open Go.RowKit

/-- The contract of show, for good: a type of not too many. -/
theorem show_types {ts : List TyD} (h : ts.all (writtenB 16) = true) (hc : cntTs ts ≤ 100000) : (joinS [44, 32] (ts.map showT)).length ≤ 140737488355328 ∧ ts.length ≤ 1000000 ∧ (∀ x ∈ ts, writtenB 16 x = true ∧ cntT x ≤ 100000 ∧ (showT x).length ≤ 8000000) := by
  have h1 := shows_len ts 16 h
  have h2 := cnts_len ts
  have h3 := joinS_len [44, 32] (ts.map showT)
  rw [showTs_map] at h1
  rw [List.length_map] at h3
  simp only [List.length_cons, List.length_nil] at h3
  refine ⟨by omega, by omega, fun x hx => ?_⟩
  have h4 := List.all_eq_true.1 h x hx
  have h5 := cnt_mem hx
  have h6 := show_len x 16 h4
  exact ⟨h4, by omega, by omega⟩
set_option maxRecDepth 100000 in
set_option maxHeartbeats 2000000 in
theorem types1_any (w : World) (bt : Nat) (ts : List TyD) (A2 : Option Addr) (c2 : Nat) (xk : List Value) (hbt : w.cell? ⟨bt, 0, none⟩ = some (.slice A2 ts.length c2)) (s2 : Sl w w.heap.size 4 (.slice A2 ts.length c2) xk) (r2 : TysR w w.heap.size xk ts)
    (i : Nat) (hi : i < ts.length) (hw : writtenB 16 ts[i] = true) (hc : cntT ts[i] ≤ 100000) :
    Calls Tryz.prog 147 #[.int .i64 (i : Int), .pointer (some ⟨bt, 0, none⟩)] w fun e w' => e = .returned (sv (showT ts[i])) ∧ Below w.heap.size w w' := by
  obtain ⟨b2, o2, kk, ss, A3, n3, c3, A4, n4, c4, rfl, hr1, e0, e1, e2, e3⟩ := elem_at s2 r2 hi rfl
  have HS := hid (show_all ts[i] w _ 16 hr1 hw hc)
  have l2 := (t_sl_len s2).2
  generalize showT ts[i] = s at *
  clear s2 r2 hw hc hr1
  generalize ts.length = b at *
  go_enter Tryz.func147, Tryz.ntmps147
  go_wp2_with fail
  refine HS.out.mono ?_
  rintro e w2 ⟨rfl, hb⟩
  go_wp2_with fail
  go_ret
  exact ⟨rfl, hb⟩
set_option maxRecDepth 100000 in
set_option maxHeartbeats 2000000 in
theorem types_any (w : World) (ts : List TyD) (A2 : Option Addr) (c2 : Nat) (xk : List Value) (s2 : Sl w w.heap.size 4 (.slice A2 ts.length c2) xk) (r2 : TysR w w.heap.size xk ts) (hw : ts.all (writtenB 16) = true) (hc : cntTs ts ≤ 100000) :
    Calls Tryz.prog 123 #[.slice A2 ts.length c2] w fun e w' => e = .returned (sv (joinS [44, 32] (ts.map showT))) ∧ Below w.heap.size w w' := by
  obtain ⟨h1, h2, h3⟩ := show_types hw hc
  obtain ⟨W1, hW1⟩ : ∃ W1, W1 = w.alloc (.cells #[.slice A2 ts.length c2] 22) := ⟨_, rfl⟩
  have hb1 : Below w.heap.size w W1 := by rw [hW1]; exact (Below.refl _ _).alloc (Nat.le_refl _) _
  have hbx : W1.heap[w.heap.size]? = some (.cells #[.slice A2 ts.length c2] 22 (0, 0)) := by rw [hW1]; exact heap_alloc_new w _
  have hzl : (ts.map showT).length = ts.length := List.length_map ..
  have HL := list_any 147 (fun _ _ => by kernel_rfl) #[.pointer (some ⟨w.heap.size, 0, none⟩)] (ts.map showT) W1 (by omega) (by omega) (fun i hi w1 hb => by
    rw [hzl] at hi
    have hbw : Below w.heap.size w w1 := hb1.trans (hb.mono hb1.size)
    rw [List.getElem_map]
    have h5 := h3 _ (List.getElem_mem hi)
    exact types1_any w1 w.heap.size ts A2 c2 xk ((cell_of_row _ _ _ _ _ _ ((hb.block _ (block_lt hbx)).trans hbx)).trans rfl) (Sl.more (Sl.below s2 hbw) hbw.size) ((r2.keep hbw).more hbw.size) i hi h5.1 h5.2.1)
  rw [hzl] at HL
  have HL := hid HL
  have HB := hid hb1
  have HWE := hid hW1
  rw [hW1] at HL
  have hl2 := (t_sl_len s2).2
  generalize joinS [44, 32] (ts.map showT) = s at *
  have hmf : ∀ (fn : Fn) (first cap : Array Value) (w : World), (Instr.makeFunc fn first cap).run Tryz.prog w = .ok (.func fn first cap) w := fun _ _ _ _ => rfl
  clear s2 r2 hw hc h1 h2 h3 hW1 hb1 hbx hzl
  go_enter Tryz.func123, Tryz.ntmps123
  go_wp2_with fail
  refine HL.out.mono ?_
  rintro e w2 ⟨rfl, hb⟩
  rw [← HWE.out] at hb
  go_wp2_with fail
  go_ret
  exact ⟨rfl, HB.out.trans (hb.mono HB.out.size)⟩
set_option maxRecDepth 100000 in
set_option maxHeartbeats 2000000 in
theorem note_any (w : World) (ts : List TyD) (A2 : Option Addr) (c2 : Nat) (xk : List Value) (s2 : Sl w w.heap.size 4 (.slice A2 ts.length c2) xk) (r2 : TysR w w.heap.size xk ts) (hw : ts.all (writtenB 16) = true) (hc : cntTs ts ≤ 100000) (i : Nat) :
    Calls Tryz.prog 51 #[.slice A2 ts.length c2, .int .i64 (i : Int)] w fun e w' => e = .returned (sv (noteS ts i)) ∧ Below w.heap.size w w' := by
  have hl2 := (t_sl_len s2).2
  by_cases hi : i < ts.length
  · obtain ⟨h1, h2, h3⟩ := show_types hw hc
    have h5 := h3 _ (List.getElem_mem hi)
    obtain ⟨b2, o2, kk, ss, A3, n3, c3, A4, n4, c4, rfl, hr1, e0, e1, e2, e3⟩ := elem_at s2 r2 hi rfl
    have HS := hid (show_all ts[i] w _ 16 hr1 h5.1 h5.2.1)
    have HT : Hid (noteS ts i = [58, 32] ++ showT ts[i]) := hid (by unfold noteS; rw [List.getElem?_eq_getElem hi])
    have h6 := h5.2.2
    rw [HT.out]
    clear HT h5 h3 h2 h1 s2 r2 hw hc hr1
    generalize showT ts[i] = s at *
    generalize ts.length = b at *
    have hsz := sv_size s
    have q1 : ¬ (9223372036854775807 < 2 + s.length) := by omega
    have hni : ¬ (b : Int) ≤ i := by omega
    go_enter Tryz.func51, Tryz.ntmps51
    go_wp2_with fail
    refine HS.out.mono ?_
    rintro e w2 ⟨rfl, hb⟩
    go_wp2_with fail
    go_ret
    refine ⟨?_, hb⟩
    have e : (⟨#[58, 32]⟩ : ByteArray) ++ ⟨s.toArray⟩ = ⟨([58, 32] ++ s).toArray⟩ := by
      rw [show (⟨#[58, 32]⟩ : ByteArray) = ⟨([58, 32] : Bt).toArray⟩ from rfl, str_append]
    exact congrArg (fun b => Ending.returned (Value.string b)) e
  · have HT : Hid (noteS ts i = []) := hid (by unfold noteS; rw [List.getElem?_eq_none (by omega)])
    rw [HT.out]
    have hni : (ts.length : Int) ≤ i := by omega
    clear s2 r2 hw hc hi
    generalize ts.length = b at *
    go_enter Tryz.func51, Tryz.ntmps51
    go_wp2_with fail
    go_ret
    exact ⟨rfl, Below.refl _ _⟩
set_option maxRecDepth 100000 in
theorem ttype_any (w : World) (z : List Value) (t : TyD) (hr : TyR w w.heap.size z t) (hok : okT t) (hc : cntT t ≤ 100000) (hX : LaidT w) :
    Calls Tryz.prog 15 #[.agg z.toArray] w fun e w' => e = .returned (sv (typeS t)) ∧ Below w.heap.size w w' := by
  obtain ⟨k, s, A1, n1, c1, A2, n2, c2, rfl⟩ := hr.shape
  obtain ⟨W1, hW1⟩ : ∃ W1, W1 = w.alloc (.cells #[.int .i64 k, .string s, .slice A1 n1 c1, .slice A2 n2 c2] 32) := ⟨_, rfl⟩
  have hb1 : Below w.heap.size w W1 := by rw [hW1]; exact (Below.refl _ _).alloc (Nat.le_refl _) _
  have hbx : W1.heap[w.heap.size]? = some (.cells #[.int .i64 k, .string s, .slice A1 n1 c1, .slice A2 n2 c2] 32 (0, 0)) := by rw [hW1]; exact heap_alloc_new w _
  have HW := written_all 16 (by omega) W1 _ t (hr.far (Nat.le_refl _) hb1) hok (hX.below hb1)
  rw [hW1] at HW
  have HW := hid HW
  have HB := hid hb1
  have HWE := hid hW1
  have HBX := hid hbx
  have HR := hid hr
  clear hb1 hbx hr hX hW1 hok
  cases hq : writtenB 16 t with
  | false =>
    have HT : Hid (typeS t = []) := hid (by unfold typeS; rw [hq]; rfl)
    rw [hq] at HW
    rw [HT.out]
    clear hq HT
    go_enter Tryz.func15, Tryz.ntmps15
    go_wp2_with fail
    refine HW.out.mono ?_
    rintro e w2 ⟨rfl, hb⟩
    rw [← HWE.out] at hb
    go_wp2_with fail
    go_ret
    exact ⟨rfl, HB.out.trans (hb.mono HB.out.size)⟩
  | true =>
    have HT : Hid (typeS t = showT t) := hid (by unfold typeS; rw [hq]; rfl)
    rw [hq] at HW
    rw [HT.out]
    have HS : Hid (∀ w2, Below w.heap.size w w2 → Calls Tryz.prog 37 #[.agg [.int .i64 k, .string s, .slice A1 n1 c1, .slice A2 n2 c2].toArray] w2 fun e w' => e = .returned (sv (showT t)) ∧ Below w2.heap.size w2 w') := hid (fun w2 hb2 => show_all t w2 _ 16 (HR.out.far (Nat.le_refl _) hb2) hq hc)
    clear hq HT HR
    generalize showT t = u at *
    go_enter Tryz.func15, Tryz.ntmps15
    go_wp2_with fail
    refine HW.out.mono ?_
    rintro e w2 ⟨rfl, hb⟩
    rw [← HWE.out] at hb
    have HB2 := hid (HB.out.trans (hb.mono HB.out.size))
    obtain ⟨g0, g1, g2, g3⟩ := t_row4 ((hb.block _ (block_lt HBX.out)).trans HBX.out)
    clear hb
    go_wp2_with fail
    refine (HS.out _ HB2.out).mono ?_
    rintro e w3 ⟨rfl, hb3⟩
    go_wp2_with fail
    go_ret
    exact ⟨rfl, HB2.out.trans (hb3.mono HB2.out.size)⟩
end Go.Proofs.YtbpedjkebemhnaaGreatDoor
