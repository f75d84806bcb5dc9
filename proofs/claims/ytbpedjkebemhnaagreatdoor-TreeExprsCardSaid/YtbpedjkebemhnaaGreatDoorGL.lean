/- Texts that belong together: TJ, TK, TN. -/
import Derived.Test.YtbpedjkebemhnaaGreatDoorGK
import Derived.Test.YtbpedjkebemhnaaGreatDoorGI
import Derived.Test.YtbpedjkebemhnaaGreatDoorMQ
import Derived.Deep.RegionHeld
/- A list of texts, each told of its number: tree.list. -/
set_option linter.unusedVariables false
namespace Go.Proofs.YtbpedjkebemhnaaGreatDoor
open Go.RowKit

theorem make_texts (w : World) (n : Nat) (hn : n ≤ 1000000) : ∃ w1, (Instr.makeSlice 23 (.int .i64 (n : Nat)) (.int .i64 (n : Nat))).run Tryz.prog w = .ok (.slice (some ⟨w.heap.size, 0, none⟩) n n) w1 ∧
    (∃ cur : List Value, w1.heap[w.heap.size]? = some (.cells cur.toArray 9 (0, 0)) ∧ cur.length = n) ∧ Below w.heap.size w w1 := by
  obtain ⟨ht, hinfo, _, _⟩ := el_str
  obtain ⟨i, hi, hz, hs, hb⟩ := info_parts hinfo
  have hr := run_make (P := Tryz.prog) w 23 9 i _ ht hi hz .i64 .i64 n n (by omega) (Int.le_refl _) (by rw [hb]; omega) (by omega)
  simp only [Int.toNat_natCast] at hr
  refine ⟨_, hr, ⟨(madeCells (sv []).cells (n * i.size)).toList, by rw [Array.toArray_toList]; exact heap_alloc_new w _, by rw [Array.length_toList, size_madeCells, hs, Nat.mul_one]⟩, (Below.refl _ _).alloc (Nat.le_refl _) _⟩
theorem ss_of_row {w : World} {b : Nat} {l : List Bt} {t : TypeId} {n : Nat} (hn : n = l.length) (h : w.heap[b]? = some (.cells (svs l).toArray t (0, 0))) (hl : l.length ≤ maxLen) : Ss w w.heap.size (.slice (some ⟨b, 0, none⟩) n n) l := by
  subst hn
  refine ⟨_, l.length, l.length, rfl, by simp [svs_length], Nat.le_refl _, hl, fun _ => ⟨b, 0, rfl, block_lt h, fun j u hu => ?_⟩⟩
  rw [Nat.zero_add, cell_of_row _ _ _ _ _ (0, 0) h]
  simpa using hu
theorem svs_take {l : List Bt} {i : Nat} (h : i < l.length) : svs (l.take (i + 1)) = svs (l.take i) ++ [sv l[i]] := by
  rw [List.take_succ_eq_append_getElem h, svs_append]; rfl
set_option maxRecDepth 100000 in
set_option maxHeartbeats 2000000 in
theorem list_any (F : Nat) (eg : ∀ args w, (callFunc F args).run Tryz.prog w = .ok (.enter F args) w) (caps : Array Value) (l : List Bt) (w : World) (hn : l.length ≤ 1000000) (hlen : (joinS [44, 32] l).length ≤ 140737488355328)
    (hF : ∀ (i : Nat) (hi : i < l.length) (w1 : World), Below w.heap.size w w1 → Calls Tryz.prog F (#[.int .i64 (i : Int)] ++ caps) w1 fun e w2 => e = .returned (sv l[i]) ∧ Below w1.heap.size w1 w2) :
    Calls Tryz.prog 72 #[.int .i64 (l.length : Int), .func (.func F) #[] caps] w fun e w' => e = .returned (sv (joinS [44, 32] l)) ∧ Below w.heap.size w w' := by
  obtain ⟨w1, hmk, ⟨cur0, hcur, hcl⟩, hb1⟩ := make_texts w l.length hn
  have HF := hid hF
  have HCUR := hid hcur
  have HB1 := hid hb1
  have HLEN := hid hlen
  clear hF hcur hb1 hlen
  obtain ⟨n, hnl⟩ : ∃ n, n = l.length := ⟨_, rfl⟩
  have HNL := hid hnl
  rw [← hnl] at hmk hcl hn ⊢
  clear hnl
  obtain ⟨bb, hbbe⟩ : ∃ bb, bb = w.heap.size := ⟨_, rfl⟩
  have HBBE := hid hbbe
  rw [← hbbe] at HCUR hmk
  clear hbbe
  go_enter Tryz.func72, Tryz.ntmps72
  go_wp2_with fail
  clear hmk
  go_loopw [10] (fun v10 wr => ∃ (k : Nat) (cur : List Value), v10 = .int .i64 k ∧ k ≤ n ∧ wr.heap[bb]? = some (.cells cur.toArray 9 (0, 0)) ∧ cur.length = n ∧ cur.take k = svs (l.take k) ∧ Below w.heap.size w wr) (fun v10 _ => n - (intOf v10).toNat)
  case atStart => exact ⟨0, cur0, rfl, by omega, HCUR.out, hcl, rfl, HB1.out⟩
  case round =>
    obtain ⟨k, cur, rfl, hk, hcur, hcn, htk, hbr⟩ := hrel
    have HTK := hid htk
    clear htk
    by_cases hlt : k < n
    · have hkl : k < l.length := by rw [← HNL.out]; exact hlt
      have HC := hid (HF.out k hkl wr hbr)
      have HB := hid hbr
      have HCR := hid hcur
      have HST := hid (svs_take hkl)
      generalize l[k] = X at *
      clear hbr hcur
      go_wp2_with fail
      refine HC.out.mono ?_
      rintro e w2 ⟨rfl, hb⟩
      have hcur2 := (hb.block _ (block_lt HCR.out)).trans HCR.out
      have z1 : w2.cell? ⟨bb, k, none⟩ = some (cur[k]'(by omega)) := (cell_of_row _ _ _ _ _ (0, 0) hcur2).trans (by simp [hcn, hlt])
      have z2 := block_free hcur2 k
      have hnew := heap_setCell_same w2 bb k _ _ (sv X) hcur2
      rw [List.setIfInBounds_toArray] at hnew
      have HNEW := hid hnew
      have hb2 := HB.out.trans (hb.mono HB.out.size)
      have hbn := hb2.trans ((turn_set w2 bb k (sv X)).below hb2.size (fun j hj h => by have := HBBE.out; omega))
      have htn := take_set_snoc (v := sv X) HTK.out (by omega)
      have HTN := hid htn
      have HBN := hid hbn
      have HCN := hid hcn
      clear hnew htn hcur2 hb hbn hb2
      generalize cur[k] = cj at *
      go_wp2_with fail
      go_roundw
      case rel => exact ⟨k + 1, _, rfl, by omega, HNEW.out, by rw [List.length_set]; exact HCN.out, by rw [HTN.out, HST.out], HBN.out⟩
      case measure => simp [intOf]; omega
    · obtain rfl : k = n := by omega
      have hcc : cur = svs l := by
        have h1 := HTK.out
        rw [List.take_of_length_le (by omega), List.take_of_length_le (by rw [← HNL.out]; omega)] at h1
        exact h1
      subst hcc
      have HJ := hid (join_any wr (.slice (some ⟨bb, 0, none⟩) k k) l [44, 32] (ss_of_row HNL.out hcur (by rw [← HNL.out]; unfold maxLen; omega)) (by rw [← HNL.out]; omega) HLEN.out)
      have HB := hid hbr
      clear hbr hcur
      go_wp2_with fail
      refine HJ.out.mono ?_
      rintro e w2 ⟨rfl, hb⟩
      go_wp2_with fail
      go_ret
      exact ⟨rfl, HB.out.trans (hb.mono HB.out.size)⟩
end Go.Proofs.YtbpedjkebemhnaaGreatDoor

/- A field of a record type as text: show's closure. -/
set_option linter.unusedVariables false
namespace Go.Proofs.YtbpedjkebemhnaaGreatDoor
open Go.RowKit

theorem kp {w w' : World} {a : Addr} {v : Value} (h : Below w.heap.size w w') (d : w.cell? a = some v) : w'.cell? a = some v := (h.cell (World.block_lt_of_cell? w a d)).trans d
theorem elem_at {w : World} {B : Nat} {A : Option Addr} {n c : Nat} {xk : List Value} {ks : List TyD} (h2 : Sl w B 4 (.slice A n c) xk) (hr : TysR w B xk ks) {i : Nat} (hi : i < ks.length) (hn : n = ks.length) :
    ∃ b o k s A1 n1 c1 A2 n2 c2, A = some ⟨b, o, none⟩ ∧ TyR w B [.int .i64 k, .string s, .slice A1 n1 c1, .slice A2 n2 c2] ks[i] ∧ w.cell? ⟨b, o + i * 4, none⟩ = some (.int .i64 k) ∧ w.cell? ⟨b, o + i * 4 + 1, none⟩ = some (.string s) ∧ w.cell? ⟨b, o + i * 4 + 2, none⟩ = some (.slice A1 n1 c1) ∧ w.cell? ⟨b, o + i * 4 + 3, none⟩ = some (.slice A2 n2 c2) := by
  subst hn
  obtain ⟨b1, o1, rfl, hb1, hc1⟩ := t_sl_in h2 hi (by omega)
  have hr1 := hr.at i hi
  obtain ⟨kk, s, A1, n1, c1, A2, n2, c2, hv1⟩ := hr1.shape
  rw [hv1] at hr1
  refine ⟨b1, o1, kk, s, A1, n1, c1, A2, n2, c2, rfl, hr1, ?_, ?_, ?_, ?_⟩
  · have := hc1 0 _ (t_part hv1 (by omega : 0 < 4)); simpa using this
  · have := hc1 1 _ (t_part hv1 (by omega : 1 < 4)); simpa [Nat.add_assoc] using this
  · have := hc1 2 _ (t_part hv1 (by omega : 2 < 4)); simpa [Nat.add_assoc] using this
  · have := hc1 3 _ (t_part hv1 (by omega : 3 < 4)); simpa [Nat.add_assoc] using this
theorem text_at {w : World} {B : Nat} {A : Option Addr} {n c : Nat} {ns : List Bt} (h : Ss w B (.slice A n c) ns) {i : Nat} (hi : i < ns.length) :
    ∃ b o, A = some ⟨b, o, none⟩ ∧ w.cell? ⟨b, o + i, none⟩ = some (sv ns[i]) := by
  obtain ⟨A', c', hv, _, _, hx⟩ := h.open_
  injection hv with e1 e2 e3
  subst e1 e2 e3
  obtain ⟨b, o, hA, _, hc⟩ := hx (by omega)
  exact ⟨b, o, hA, hc i hi⟩
set_option maxRecDepth 100000 in
set_option maxHeartbeats 2000000 in
theorem show1_any (w : World) (bt : Nat) (k : Int) (nm : Bt) (ns : List Bt) (ks : List TyD) (A1 : Option Addr) (c1 : Nat) (A2 : Option Addr) (c2 : Nat) (xk : List Value)
    (hbt : w.heap[bt]? = some (.cells #[.int .i64 k, sv nm, .slice A1 ns.length c1, .slice A2 ks.length c2] 32 (0, 0))) (s1 : Ss w w.heap.size (.slice A1 ns.length c1) ns) (s2 : Sl w w.heap.size 4 (.slice A2 ks.length c2) xk) (r2 : TysR w w.heap.size xk ks)
    (i : Nat) (hi : i < ks.length) (hin : i < ns.length) (hS : ShowC ks[i]) (m : Nat) (hw : writtenB m ks[i] = true) (hc : cntT ks[i] ≤ 100000) (hnm : ns[i].length ≤ 32) :
    Calls Tryz.prog 83 #[.int .i64 (i : Int), .pointer (some ⟨bt, 0, none⟩)] w fun e w' => e = .returned (sv (fieldS ns[i] (showT ks[i]))) ∧ Below w.heap.size w w' := by
  obtain ⟨_, _, g2, g3⟩ := t_row4 hbt
  obtain ⟨b1, o1, rfl, d0⟩ := text_at s1 hin
  obtain ⟨b2, o2, kk, ss, A3, n3, c3, A4, n4, c4, rfl, hr1, e0, e1, e2, e3⟩ := elem_at s2 r2 hi rfl
  have hlen := show_len ks[i] m hw
  have HS := hid (fun w1 (h : Below w.heap.size w w1) => hS w1 _ m (hr1.far (Nat.le_refl _) h) hw hc)
  have l1 := (t_sl_len s1).2
  have l2 := (t_sl_len s2).2
  have hsz0 := sv_size ns[i]
  have hsz1 := sv_size (showT ks[i])
  generalize ns[i] = X at *
  generalize showT ks[i] = s at *
  generalize cntT ks[i] = N at *
  clear hS hw hr1 r2 s1 s2 hbt
  generalize ns.length = a at *
  generalize ks.length = b at *
  have HF : Hid (fieldS X s = (X ++ [58, 32]) ++ s) := hid (by unfold fieldS; rw [List.append_assoc])
  have q1 : ¬ (9223372036854775807 < X.length + 2) := by omega
  have q2 : ¬ (9223372036854775807 < X.length + 2 + s.length) := by omega
  have G2 := hid g2
  have G3 := hid g3
  have D0 := hid d0
  have E0 := hid e0
  have E1 := hid e1
  have E2 := hid e2
  have E3 := hid e3
  have HB0 : Hid (Below w.heap.size w w.drew) := hid (below_drawn w 1)
  clear hc hlen g2 g3 d0 e0 e1 e2 e3 hnm
  go_enter Tryz.func83, Tryz.ntmps83
  go_wp2_with fail
  refine wp_region_held_drew (S := fun w' => Below w.heap.size w w') (by kernel_rfl) HB0.out (fun _ => ?_)
  try simp only [Act.put, List.getElem_toArray, List.getElem_cons_zero, List.getElem_cons_succ, List.setIfInBounds_toArray, List.set_cons_zero, List.set_cons_succ]
  refine tk 0 (.pointer (some ⟨bt, 2, none⟩)) HB0.out ?_
  refine tkf 1 (.slice (some ⟨b1, o1, none⟩) a c1) (kp1 G2.out) HB0.out ?_
  refine tk 2 (.int .i64 (i : Int)) HB0.out ?_
  refine tk 3 (.pointer (some ⟨b1, o1 + i, none⟩)) HB0.out ?_
  refine tkf 4 (sv X) (kp1 D0.out) HB0.out ?_
  refine tk 5 (.string ((⟨X.toArray⟩ : ByteArray) ++ ⟨#[58, 32]⟩)) HB0.out ?_
  refine tk 6 (.pointer (some ⟨bt, 3, none⟩)) HB0.out ?_
  refine tkf 7 (.slice (some ⟨b2, o2, none⟩) b c2) (kp1 G3.out) HB0.out ?_
  refine tk 8 (.int .i64 (i : Int)) HB0.out ?_
  refine tk 9 (.pointer (some ⟨b2, o2 + i * 4, none⟩)) HB0.out ?_
  refine tkf 10 (.agg #[.int .i64 kk, .string ss, .slice A3 n3 c3, .slice A4 n4 c4]) (kp4 E0.out E1.out E2.out E3.out) HB0.out ?_
  refine wpAnyH_ready (rs := [11]) (by kernel_rfl) (by simp) ?_
  refine AllReadyH.cons rfl (fun K hK => ?_) (AllReadyH.nil)
  go_simp
  refine (HS.out _ HB0.out).mono ?_
  rintro e w2 ⟨rfl, hb⟩
  have HB2 := hid (HB0.out.trans (hb.mono HB0.out.size))
  clear hb
  refine hK.out _ _ HB2.out (fun _ => ?_)
  clear hK K
  try simp only [Act.put, List.getElem_toArray, List.getElem_cons_zero, List.getElem_cons_succ, List.setIfInBounds_toArray, List.set_cons_zero, List.set_cons_succ]
  refine tk 12 (.string ((⟨X.toArray⟩ : ByteArray) ++ ⟨#[58, 32]⟩ ++ ⟨s.toArray⟩)) HB2.out ?_
  refine tk 13 (.string ((⟨X.toArray⟩ : ByteArray) ++ ⟨#[58, 32]⟩ ++ ⟨s.toArray⟩)) HB2.out ?_
  refine wpAnyH_done (by kernel_rfl) ?_ _
  go_wp2_with fail
  go_ret
  refine ⟨?_, HB2.out⟩
  rw [HF.out]
  have e : (⟨X.toArray⟩ : ByteArray) ++ ⟨#[58, 32]⟩ ++ ⟨s.toArray⟩ = ⟨((X ++ [58, 32]) ++ s).toArray⟩ := by
    rw [show (⟨#[58, 32]⟩ : ByteArray) = ⟨([58, 32] : Bt).toArray⟩ from rfl, str_append, str_append]
  exact congrArg (fun b => Ending.returned (Value.string b)) e
end Go.Proofs.YtbpedjkebemhnaaGreatDoor

/- Nodes in memory: their cells. -/
set_option linter.unusedVariables false
namespace Go.Proofs.YtbpedjkebemhnaaGreatDoor
open Go.RowKit

theorem t_row8 {w : World} {b : Nat} {x0 x1 x2 x3 x4 x5 x6 x7 : Value} {T : TypeId} (h : w.heap[b]? = some (.cells #[x0, x1, x2, x3, x4, x5, x6, x7] T (0, 0))) :
    w.cell? ⟨b, 0, none⟩ = some x0 ∧ w.cell? ⟨b, 1, none⟩ = some x1 ∧ w.cell? ⟨b, 2, none⟩ = some x2 ∧ w.cell? ⟨b, 3, none⟩ = some x3 ∧ w.cell? ⟨b, 4, none⟩ = some x4 ∧ w.cell? ⟨b, 5, none⟩ = some x5 ∧ w.cell? ⟨b, 6, none⟩ = some x6 ∧ w.cell? ⟨b, 7, none⟩ = some x7 :=
  ⟨(cell_of_row _ _ _ _ _ _ h).trans rfl, (cell_of_row _ _ _ _ _ _ h).trans rfl, (cell_of_row _ _ _ _ _ _ h).trans rfl, (cell_of_row _ _ _ _ _ _ h).trans rfl, (cell_of_row _ _ _ _ _ _ h).trans rfl, (cell_of_row _ _ _ _ _ _ h).trans rfl, (cell_of_row _ _ _ _ _ _ h).trans rfl, (cell_of_row _ _ _ _ _ _ h).trans rfl⟩
theorem t_row5 {w : World} {b : Nat} {x0 x1 x2 x3 x4 : Value} {T : TypeId} (h : w.heap[b]? = some (.cells #[x0, x1, x2, x3, x4] T (0, 0))) :
    w.cell? ⟨b, 0, none⟩ = some x0 ∧ w.cell? ⟨b, 1, none⟩ = some x1 ∧ w.cell? ⟨b, 2, none⟩ = some x2 ∧ w.cell? ⟨b, 3, none⟩ = some x3 ∧ w.cell? ⟨b, 4, none⟩ = some x4 :=
  ⟨(cell_of_row _ _ _ _ _ _ h).trans rfl, (cell_of_row _ _ _ _ _ _ h).trans rfl, (cell_of_row _ _ _ _ _ _ h).trans rfl, (cell_of_row _ _ _ _ _ _ h).trans rfl, (cell_of_row _ _ _ _ _ _ h).trans rfl⟩
theorem two_new (w : World) (o1 o2 : Obj) : ((w.alloc o1).alloc o2).heap[w.heap.size]? = some o1 ∧ ((w.alloc o1).alloc o2).heap[w.heap.size + 1]? = some o2 := by
  have hs : (w.alloc o1).heap.size = w.heap.size + 1 := by simp
  refine ⟨?_, ?_⟩
  · exact block_turn (heap_alloc_new w o1) (Turn.alloc (fun _ => False) _ o2) (fun h => h)
  · have := heap_alloc_new (w.alloc o1) o2
    rwa [hs] at this
/-- An element of a row of nodes. -/
theorem node_at {w : World} {B : Nat} {A : Option Addr} {n c : Nat} {xk : List Value} {ks : List NoD} (h2 : Sl w B 8 (.slice A n c) xk) (hr : NosR w B xk ks) {i : Nat} (hi : i < ks.length) (hn : n = ks.length) :
    ∃ b o k s v2 v3 v4 A1 n1 c1 A2 n2 c2 A3 n3 c3, A = some ⟨b, o, none⟩ ∧ NoR w B [.int .i64 k, .string s, .int .i64 v2, .int .i64 v3, .int .i64 v4, .slice A1 n1 c1, .slice A2 n2 c2, .slice A3 n3 c3] ks[i] ∧
      w.cell? ⟨b, o + i * 8, none⟩ = some (.int .i64 k) ∧ w.cell? ⟨b, o + i * 8 + 1, none⟩ = some (.string s) ∧ w.cell? ⟨b, o + i * 8 + 2, none⟩ = some (.int .i64 v2) ∧ w.cell? ⟨b, o + i * 8 + 3, none⟩ = some (.int .i64 v3) ∧ w.cell? ⟨b, o + i * 8 + 4, none⟩ = some (.int .i64 v4) ∧
      w.cell? ⟨b, o + i * 8 + 5, none⟩ = some (.slice A1 n1 c1) ∧ w.cell? ⟨b, o + i * 8 + 6, none⟩ = some (.slice A2 n2 c2) ∧ w.cell? ⟨b, o + i * 8 + 7, none⟩ = some (.slice A3 n3 c3) := by
  subst hn
  obtain ⟨b1, o1, rfl, hb1, hc1⟩ := t_sl_in h2 hi (by omega)
  have hr1 := hr.at i hi
  obtain ⟨kk, s, v2, v3, v4, A1, n1, c1, A2, n2, c2, A3, n3, c3, hv1⟩ := hr1.shape
  rw [hv1] at hr1
  refine ⟨b1, o1, kk, s, v2, v3, v4, A1, n1, c1, A2, n2, c2, A3, n3, c3, rfl, hr1, ?_, ?_, ?_, ?_, ?_, ?_, ?_, ?_⟩
  · have := hc1 0 _ (t_part hv1 (by omega : 0 < 8)); simpa using this
  · have := hc1 1 _ (t_part hv1 (by omega : 1 < 8)); simpa [Nat.add_assoc] using this
  · have := hc1 2 _ (t_part hv1 (by omega : 2 < 8)); simpa [Nat.add_assoc] using this
  · have := hc1 3 _ (t_part hv1 (by omega : 3 < 8)); simpa [Nat.add_assoc] using this
  · have := hc1 4 _ (t_part hv1 (by omega : 4 < 8)); simpa [Nat.add_assoc] using this
  · have := hc1 5 _ (t_part hv1 (by omega : 5 < 8)); simpa [Nat.add_assoc] using this
  · have := hc1 6 _ (t_part hv1 (by omega : 6 < 8)); simpa [Nat.add_assoc] using this
  · have := hc1 7 _ (t_part hv1 (by omega : 7 < 8)); simpa [Nat.add_assoc] using this
end Go.Proofs.YtbpedjkebemhnaaGreatDoor
