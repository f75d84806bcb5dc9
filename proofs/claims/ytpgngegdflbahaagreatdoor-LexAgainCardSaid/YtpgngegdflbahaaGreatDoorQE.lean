/- A replacer at work on a text: the table by the byte. -/
import Derived.Test.YtpgngegdflbahaaGreatDoorQD
set_option linter.unusedVariables false
namespace Go.Proofs.YtpgngegdflbahaaGreatDoor
open Go.RowKit

theorem make_bytes (w : World) (n : Nat) (hn : n ≤ 10000000) : ∃ w1, (Instr.makeSlice 66 (.int .i64 (n : Nat)) (.int .i64 (n : Nat))).run Tryz.prog w = .ok (.slice (some ⟨w.heap.size, 0, none⟩) n n) w1 ∧
    (∃ cur : List Value, w1.heap[w.heap.size]? = some (.cells cur.toArray 5 (0, 0)) ∧ cur.length = n) ∧ Below w.heap.size w w1 := by
  obtain ⟨ht, hinfo, _, _⟩ := el_byte
  obtain ⟨i, hi, hz, hs, hb⟩ := info_parts hinfo
  have hr := run_make (P := Tryz.prog) w 66 5 i _ ht hi hz .i64 .i64 n n (by omega) (Int.le_refl _) (by rw [hb]; omega) (by omega)
  simp only [Int.toNat_natCast] at hr
  refine ⟨_, hr, ⟨(madeCells (Value.int IntKind.u8 0).cells (n * i.size)).toList, by rw [Array.toArray_toList]; exact heap_alloc_new w _, by rw [Array.length_toList, size_madeCells, hs, Nat.mul_one]⟩, (Below.refl _ _).alloc (Nat.le_refl _) _⟩
theorem tab_at {w : World} {base bs : Nat} {m : List Bt} {l : List (UInt8 × Bt)} (h : TabM w base bs m l) (c : UInt8) (u : Bt) (hl : l.lookup c = some u) :
    ∃ g k, w.cell? ⟨bs, c.toNat, none⟩ = some (.slice (some ⟨g, 0, none⟩) u.length k) ∧ g < w.heap.size ∧ ∀ (j : Nat) (hj : j < u.length), w.cell? ⟨g, j, none⟩ = some (.int .u8 (u[j].toNat : Int)) := by
  obtain ⟨cs, tr, h1, h2, h3, h4, h5, h6, h7⟩ := h
  obtain ⟨g, k, a1, a0, a2, a3, a4, a7⟩ := (h7 c).2 u hl
  exact ⟨g, k, (cell_of_row _ _ _ _ _ (0, 0) h1).trans a1, a2, a7⟩
theorem flat_take {s : Bt} {i : Nat} (h : i < s.length) : (s.take (i + 1)).flatMap escW = (s.take i).flatMap escW ++ escW s[i] := by
  rw [List.take_succ_eq_append_getElem h, List.flatMap_append]; simp
theorem escN_take {s : Bt} {i : Nat} (h : i < s.length) : escN (s.take (i + 1)) = escN (s.take i) + (if (escP.lookup s[i]).isSome then 1 else 0) := by
  rw [List.take_succ_eq_append_getElem h, escN_snoc]
theorem flat_part (s : Bt) (i : Nat) : ((s.take i).flatMap escW).length + ((s.drop i).flatMap escW).length = (s.flatMap escW).length := by
  rw [← List.length_append, ← List.flatMap_append, List.take_append_drop]
theorem escK_succ (s : Bt) (k i : Nat) (hk : k < 4) (hi : i + 2 * k = 6) : ∃ (c : UInt8) (a b : UInt8), (escP.map fun p => [p.1])[k]? = some [c] ∧ escP.lookup c = some [a, b] ∧ escK s (k + 1) = escK s k + Lib.countByte s c := by
  have hs : ∀ k (h : k < escP.length), escK s (k + 1) = escK s k + Lib.countByte s escP[k].1 := by
    intro k h
    unfold escK
    rw [List.take_succ_eq_append_getElem h, List.map_append, List.sum_append]; simp
  have : (k = 0 ∧ i = 6) ∨ (k = 1 ∧ i = 4) ∨ (k = 2 ∧ i = 2) ∨ (k = 3 ∧ i = 0) := by omega
  rcases this with ⟨rfl, rfl⟩ | ⟨rfl, rfl⟩ | ⟨rfl, rfl⟩ | ⟨rfl, rfl⟩
  · exact ⟨9, 92, 116, rfl, rfl, hs 0 (by decide)⟩
  · exact ⟨10, 92, 110, rfl, rfl, hs 1 (by decide)⟩
  · exact ⟨34, 92, 34, rfl, rfl, hs 2 (by decide)⟩
  · exact ⟨92, 92, 92, rfl, rfl, hs 3 (by decide)⟩
theorem bs_of_row {w : World} {b : Nat} {l : Bt} {t : TypeId} {n : Nat} (hn : n = l.length) (h : w.heap[b]? = some (.cells (bv l).toArray t (0, 0))) (hl : l.length ≤ maxLen) : Bs w w.heap.size (.slice (some ⟨b, 0, none⟩) n n) l := by
  subst hn
  refine ⟨_, l.length, l.length, rfl, by simp [bv_length], Nat.le_refl _, hl, fun _ => ⟨b, 0, rfl, block_lt h, fun j u hu => ?_⟩⟩
  rw [Nat.zero_add, cell_of_row _ _ _ _ _ (0, 0) h]
  simpa using hu
theorem flat_room (s : Bt) (i : Nat) (h : i < s.length) : ((s.take i).flatMap escW).length + (escW s[i]).length ≤ (s.flatMap escW).length := by
  have h1 := flat_part s (i + 1)
  rw [flat_take h, List.length_append] at h1
  omega
theorem take_set_snoc {l m : List Value} {j : Nat} {v : Value} (h : l.take j = m) (hj : j < l.length) : (l.set j v).take (j + 1) = m ++ [v] := by
  have hs : j < (l.set j v).length := by rw [List.length_set]; exact hj
  rw [List.take_succ_eq_append_getElem hs, List.getElem_set_self, List.take_set_of_le (Nat.le_refl j), h]
theorem splice_take {l m cs : List Value} {j : Nat} (h : l.take j = m) (hj : j + cs.length ≤ l.length) : (splice l j cs).take (j + cs.length) = m ++ cs := by
  unfold splice
  rw [← List.append_assoc, h]
  have : (m ++ cs).length = j + cs.length := by rw [List.length_append, ← h, List.length_take]; omega
  rw [← this, List.take_left]
theorem neq_nil (a : Addr) (n k : Nat) (u : World) : (binOp .neq 66 (.slice (some a) n k) (.slice none 0 0)).run Tryz.prog u = .ok (.bool true) u := by kernel_rfl
theorem neq_same (u : World) : (binOp .neq 66 (.slice none 0 0) (.slice none 0 0)).run Tryz.prog u = .ok (.bool false) u := by kernel_rfl

set_option maxRecDepth 100000 in
set_option maxHeartbeats 4000000 in
theorem bsr_any (w : World) (base bs : Nat) (s : Bt) (hT : TabM w base bs (escP.map fun p => [p.1]) escP) (hs : s.length ≤ 1000000) :
    Calls Tryz.prog 134 #[.pointer (some ⟨bs, 0, none⟩), sv s] w fun e w' => e = .returned (sv (s.flatMap escW)) ∧ Below w.heap.size w w' := by
  have hsz := sv_size s
  obtain ⟨cs, tr, t1, t3, t4, t5, t6, t7⟩ := tab_rep hT
  have hml : (escP.map fun p => [p.1]).length = 4 := rfl
  obtain ⟨g, ct, rfl, _, hgl, _, hcm⟩ := own_form t6.row (by rw [hml]; omega)
  rw [hml] at t4
  unfold maxLen at hcm
  have hcell : ∀ j u, (svs (escP.map fun p => [p.1]))[j]? = some u → w.cell? ⟨g, j, none⟩ = some u := by
    intro j u hu
    have := t6.row.cells (g := g) rfl j u hu
    rwa [plain_add, Nat.zero_add] at this
  have hbsl := block_lt t1
  have hnl := esc_len s
  have hnle := escN_le s
  have HCELL := hid hcell
  have HT := hid hT
  have HNL := hid hnl
  have hne := neq_nil
  have hns := neq_same
  clear hcell t5 t1 t3 t6 t7 hT hml hnl
  by_cases h32 : (32 : Int) ≤ s.length
  · go_enter Tryz.func134, Tryz.ntmps134
    go_wp2_with fail
    go_loopw [5, 6, 8, 9, 32] (fun v5 v6 v8 v9 v32 wr => ∃ k n : Nat, k ≤ 4 ∧ v32 = .int .i64 k ∧ v5 = .int .i64 n ∧ n = s.length + escK s k ∧ v6 = .bool (decide (escK s k ≠ 0)) ∧ Below w.heap.size w wr) (fun _ _ _ _ v32 _ => 4 - (intOf v32).toNat)
    case atStart => exact ⟨0, s.length, by omega, rfl, rfl, rfl, rfl, Below.refl _ _⟩
    case round =>
      obtain ⟨k, n, hk, rfl, rfl, hn, rfl, hbr⟩ := hrel
      by_cases hk4 : k < 4
      · obtain ⟨c0, a0, b0, hm0, hl0, hkk⟩ := escK_succ s k (6 - 2 * k) hk4 (by omega)
        have hlt4 : (k : Int) < 4 := by omega
        have hc256 : (c0.toNat : Int) < 256 := by have := c0.toNat_lt; omega
        have p0 : wr.cell? ⟨g, k, none⟩ = some (sv [c0]) := (hbr.cell (p := ⟨g, k, none⟩) hgl).trans (HCELL.out k _ (by unfold svs; rw [List.getElem?_map, hm0]; rfl))
        have hix : (ByteArray.mk [c0].toArray)[0]'(by rw [sv_size]; simp) = c0 := sv_index [c0] 0 (by simp)
        obtain ⟨g0, k0, y1, _, _⟩ := tab_at (HT.out.below hbr) c0 [a0, b0] hl0
        have hcl : Lib.countByte s c0 ≤ s.length := List.count_le_length
        have HKK := hid hkk
        have HN := hid hn
        clear hkk hn hm0 hl0
        go_wp2_with fail
        refine (Tryz.strings_Count_one ⟨s.toArray⟩ c0 _).mono ?_
        rintro e wr ⟨rfl, rfl⟩
        simp only [show (ByteArray.mk s.toArray).data.toList = s from rfl]
        generalize hcn : Lib.countByte s c0 = m at *
        by_cases hm : m = 0
        · subst hm
          go_wp2_with fail
          go_roundw
          case rel => exact ⟨k + 1, n, by omega, rfl, rfl, by rw [HKK.out, HN.out]; omega, by rw [HKK.out]; simp, hbr⟩
          case measure => simp [intOf]; omega
        · have hm0 : ¬ (m : Int) = 0 := by omega
          have hm1 : ((m : Int) != 0) = true := by rw [bne_iff_ne]; exact hm0
          have hkle := escK_le s k (by omega)
          have hn2 : n ≤ 2 * s.length := by have := HN.out; omega
          have hmb : ((m : Int) * 1) = m := Int.mul_one _
          have hnm : n + m = s.length + escK s (k + 1) := by rw [HKK.out, HN.out]; omega
          have hkz : decide (escK s (k + 1) ≠ 0) = true := by rw [decide_eq_true_eq, HKK.out]; omega
          have HNM := hid hnm
          have HKZ := hid hkz
          clear hnm hkz
          go_wp2_with fail
          go_quiet (fail)
          go_wp2_with fail
          go_roundw
          case rel => exact ⟨k + 1, n + m, by omega, rfl, rfl, HNM.out, by rw [HKZ.out], hbr.trans (below_drawn _ _)⟩
          case measure => simp [intOf]; omega
      · obtain rfl : k = 4 := by omega
        have hk4' : ¬ ((4 : Nat) : Int) < 4 := by omega
        rw [escK_four] at hn ⊢
        by_cases hz : escN s = 0
        · have HE := hid (esc_same s hz)
          rw [decide_eq_false (by simp [hz])]
          clear hne hns
          go_wp2_with fail
          go_ret
          exact ⟨by rw [HE.out]; rfl, hbr⟩
        · rw [decide_eq_true (show escN s ≠ 0 from hz)]
          have hnf : n = (s.flatMap escW).length := by rw [HNL.out]; exact hn
          obtain ⟨w1, hmk, ⟨cur0, hcur, hcl⟩, hb1⟩ := make_bytes wr n (by omega)
          have HNF := hid hnf
          have HCUR := hid hcur
          have hB1 : Below w.heap.size w w1 := hbr.trans (hb1.mono hbr.size)
          obtain ⟨bb, hbbe⟩ : ∃ bb, bb = wr.heap.size := ⟨_, rfl⟩
          have hbb : w.heap.size ≤ bb := by rw [hbbe]; exact hbr.size
          rw [← hbbe] at HCUR hmk
          have HBBE := hid hbbe
          clear hbbe
          have hnb : n ≤ 2000000 := by omega
          clear hn hnf hcur hz
          go_wp2_with fail
          clear hmk hb1
          go_loopw [13, 14, 15] (fun v13 v14 v15 wr => ∃ (i j : Nat) (cur : List Value), v14 = .int .i64 i ∧ v13 = .int .i64 j ∧ i ≤ s.length ∧ j = ((s.take i).flatMap escW).length ∧ wr.heap[bb]? = some (.cells cur.toArray 5 (0, 0)) ∧ cur.length = n ∧ cur.take j = bv ((s.take i).flatMap escW) ∧ Below w.heap.size w wr) (fun _ v14 _ _ => s.length - (intOf v14).toNat)
          case atStart => exact ⟨0, 0, cur0, rfl, rfl, by omega, rfl, HCUR.out, hcl, rfl, hB1⟩
          case round =>
            obtain ⟨i, j, cur, rfl, rfl, hi, hj, hcur, hcn, htk, hbq⟩ := hrel
            have HTQ := hid (HT.out.below hbq)
            by_cases hlt : i < s.length
            · have hix := sv_index s i hlt
              have hft := flat_take hlt
              have hroom := flat_room s i hlt
              rw [← hj, ← HNF.out] at hroom
              have hc256 : ((s[i]).toNat : Int) < 256 := by have := (s[i]).toNat_lt; omega
              have hes := escP_at s[i]
              generalize hX : s[i] = X at *
              clear hX
              have HFT := hid hft
              have HJ := hid hj
              have HTK := hid htk
              have HCURQ := hid hcur
              have HCN := hid hcn
              clear hft hj htk
              rcases hes with ⟨hl0, hw0, _, _, _, _⟩ | ⟨a, b, hl0, hw0, _⟩
              · rw [hw0] at hroom
                simp only [List.length_singleton] at hroom
                have y1 := (tab_cell HTQ.out X hl0).1
                have hjn : j < n := by omega
                have z1 : wr.cell? ⟨bb, j, none⟩ = some (cur[j]'(by omega)) := (cell_of_row _ _ _ _ _ (0, 0) hcur).trans (by simp [hcn, hjn])
                have z2 := block_free hcur j
                have hnew := heap_setCell_same wr bb j _ _ (.int .u8 (X.toNat : Int)) hcur
                rw [List.setIfInBounds_toArray] at hnew
                have HNEW := hid hnew
                have hbn := hbq.trans ((turn_set wr bb j (.int .u8 (X.toNat : Int))).below hbq.size (fun k hk h => by omega))
                have htn := take_set_snoc (v := .int .u8 (X.toNat : Int)) HTK.out (by omega)
                have HTN := hid htn
                have HW0 := hid hw0
                clear hnew htn hcur hw0 hl0 HNL
                generalize cur[j] = cj at *
                go_wp2_with fail
                go_roundw
                case rel => exact ⟨i + 1, j + 1, _, rfl, rfl, by omega, by rw [HFT.out, HW0.out, List.length_append, ← HJ.out]; rfl, HNEW.out, by rw [List.length_set]; exact HCN.out, by rw [HTN.out, HFT.out, HW0.out, bv_append]; rfl, hbn⟩
                case measure => simp [intOf]; omega
              · rw [hw0] at hroom
                simp only [List.length_cons, List.length_nil] at hroom
                obtain ⟨g0, k0, y1, _, y3⟩ := tab_at HTQ.out X [a, b] hl0
                have hjn : j < n := by omega
                have hjn2 : j ≤ n := by omega
                have hnj : ¬ n = j := by omega
                have hwj : IntKind.i64.wrap ((j : Int) + 2) = (j : Int) + 2 := by rw [i64_wrap]; exact wrap64_id (by unfold In64; omega)
                have HWR := hid hbq
                have hlen2 : ([a, b] : Bt).length = 2 := rfl
                rw [hlen2] at y1
                have hS0 : wr.drew.cell? ⟨bs, X.toNat, none⟩ = some (.slice (some ⟨g0, 0, none⟩) 2 k0) := y1
                have hsrc : ∀ (q : Nat) v, [Value.int .u8 (a.toNat : Int), .int .u8 (b.toNat : Int)][q]? = some v → wr.drew.cell? ((⟨g0, 0, none⟩ : Addr).add q) = some v := by
                  intro q v hv
                  rw [plain_add, Nat.zero_add]
                  rcases q with _ | _ | q
                  · exact (y3 0 (by simp)).trans hv
                  · exact (y3 1 (by simp)).trans hv
                  · simp at hv
                have hbd : Below w.heap.size w wr.drew := hbq.trans (below_drawn wr 1)
                have HSRC := hid hsrc
                have HW0 := hid hw0
                clear hsrc y3 hw0 hl0 HNL hcur
                go_wp2_with fail
                refine wp_region_held_drew (S := fun w' => w'.cell? ⟨bs, X.toNat, none⟩ = some (.slice (some ⟨g0, 0, none⟩) 2 k0)) (by kernel_rfl) hS0 (fun _ => ?_)
                try simp only [Act.put, List.getElem_toArray, List.getElem_cons_zero, List.getElem_cons_succ, List.setIfInBounds_toArray, List.set_cons_zero, List.set_cons_succ]
                refine wpAnyH_take (i := 0) (v := (.int .i64 j)) rfl (by kernel_rfl) (by kernel_rfl) (by kernel_rfl) (fun _ _ _ h => h) (Or.inl ⟨by kernel_rfl, by intro w hSw; obtain hSw0 := hSw; go_simp⟩) hS0 ?_
                try simp only [Act.put, List.getElem_toArray, List.getElem_cons_zero, List.getElem_cons_succ, List.setIfInBounds_toArray, List.set_cons_zero, List.set_cons_succ]
                refine wpAnyH_take (i := 1) (v := (.slice (some ⟨bb, 0, none⟩) n n)) rfl (by kernel_rfl) (by kernel_rfl) (by kernel_rfl) (fun _ _ _ h => h) (Or.inl ⟨by kernel_rfl, by intro w hSw; obtain hSw0 := hSw; go_simp⟩) hS0 ?_
                try simp only [Act.put, List.getElem_toArray, List.getElem_cons_zero, List.getElem_cons_succ, List.setIfInBounds_toArray, List.set_cons_zero, List.set_cons_succ]
                refine wpAnyH_take (i := 2) (v := (.int .i64 j)) rfl (by kernel_rfl) (by kernel_rfl) (by kernel_rfl) (fun _ _ _ h => h) (Or.inl ⟨by kernel_rfl, by intro w hSw; obtain hSw0 := hSw; go_simp⟩) hS0 ?_
                try simp only [Act.put, List.getElem_toArray, List.getElem_cons_zero, List.getElem_cons_succ, List.setIfInBounds_toArray, List.set_cons_zero, List.set_cons_succ]
                refine wpAnyH_take (i := 3) (v := (.slice (some ⟨bb, j, none⟩) (n - j) (n - j))) rfl (by kernel_rfl) (by kernel_rfl) (by kernel_rfl) (fun _ _ _ h => h) (Or.inl ⟨by kernel_rfl, by intro w hSw; obtain hSw0 := hSw; go_simp⟩) hS0 ?_
                try simp only [Act.put, List.getElem_toArray, List.getElem_cons_zero, List.getElem_cons_succ, List.setIfInBounds_toArray, List.set_cons_zero, List.set_cons_succ]
                refine wpAnyH_take (i := 4) (v := (.pointer (some ⟨bs, 0, none⟩))) rfl (by kernel_rfl) (by kernel_rfl) (by kernel_rfl) (fun _ _ _ h => h) (Or.inl ⟨by kernel_rfl, by intro w hSw; obtain hSw0 := hSw; go_simp⟩) hS0 ?_
                try simp only [Act.put, List.getElem_toArray, List.getElem_cons_zero, List.getElem_cons_succ, List.setIfInBounds_toArray, List.set_cons_zero, List.set_cons_succ]
                refine wpAnyH_take (i := 5) (v := (.int .u8 (X.toNat : Int))) rfl (by kernel_rfl) (by kernel_rfl) (by kernel_rfl) (fun _ _ _ h => h) (Or.inl ⟨by kernel_rfl, by intro w hSw; obtain hSw0 := hSw; go_simp⟩) hS0 ?_
                try simp only [Act.put, List.getElem_toArray, List.getElem_cons_zero, List.getElem_cons_succ, List.setIfInBounds_toArray, List.set_cons_zero, List.set_cons_succ]
                refine wpAnyH_take (i := 6) (v := (.pointer (some ⟨bs, 0, none⟩))) rfl (by kernel_rfl) (by kernel_rfl) (by kernel_rfl) (fun _ _ _ h => h) (Or.inl ⟨by kernel_rfl, by intro w hSw; obtain hSw0 := hSw; go_simp⟩) hS0 ?_
                try simp only [Act.put, List.getElem_toArray, List.getElem_cons_zero, List.getElem_cons_succ, List.setIfInBounds_toArray, List.set_cons_zero, List.set_cons_succ]
                refine wpAnyH_take (i := 7) (v := (.pointer (some ⟨bs, 0, none⟩))) rfl (by kernel_rfl) (by kernel_rfl) (by kernel_rfl) (fun _ _ _ h => h) (Or.inl ⟨by kernel_rfl, by intro w hSw; obtain hSw0 := hSw; go_simp⟩) hS0 ?_
                try simp only [Act.put, List.getElem_toArray, List.getElem_cons_zero, List.getElem_cons_succ, List.setIfInBounds_toArray, List.set_cons_zero, List.set_cons_succ]
                refine wpAnyH_take (i := 8) (v := (.pointer (some ⟨bs, X.toNat, none⟩))) rfl (by kernel_rfl) (by kernel_rfl) (by kernel_rfl) (fun _ _ _ h => h) (Or.inl ⟨by kernel_rfl, by intro w hSw; obtain hSw0 := hSw; go_simp⟩) hS0 ?_
                try simp only [Act.put, List.getElem_toArray, List.getElem_cons_zero, List.getElem_cons_succ, List.setIfInBounds_toArray, List.set_cons_zero, List.set_cons_succ]
                refine wpAnyH_take (i := 9) (v := (.slice (some ⟨g0, 0, none⟩) 2 k0)) rfl (by kernel_rfl) (by kernel_rfl) (by kernel_rfl) (fun _ _ _ h => h) (Or.inl ⟨by kernel_rfl, by intro w hSw; obtain hSw0 := hSw; go_simp⟩) hS0 ?_
                try simp only [Act.put, List.getElem_toArray, List.getElem_cons_zero, List.getElem_cons_succ, List.setIfInBounds_toArray, List.set_cons_zero, List.set_cons_succ]
                refine wpAnyH_ready (rs := [10]) (by kernel_rfl) (by simp) ?_
                refine AllReadyH.cons rfl (fun K hK => ?_) AllReadyH.nil
                refine step_copy_splice rfl (.tmp 105) (.tmp 111) _ _ rfl 5 Tryz.underlying66 (by kernel_rfl) _ _ _ _ _ _ rfl rfl bb j cur 5 HCURQ.out [.int .u8 (a.toNat : Int), .int .u8 (b.toNat : Int)] (by show 2 = min 2 (n - j); omega) (fun _ => ⟨rfl, _, rfl, HSRC.out⟩) (by rw [HCN.out]; simp only [List.length_cons, List.length_nil]; omega) (by intro v hv; simp at hv; rcases hv with rfl | rfl <;> rfl) w.heap.size w hbd hbb (fun w5 hw5 hb5 => ?_)
                have hS1 : w5.cell? ⟨bs, X.toNat, none⟩ = some (.slice (some ⟨g0, 0, none⟩) 2 k0) := by
                  exact (hb5.cell (p := ⟨bs, X.toNat, none⟩) hbsl).trans ((HWR.out.cell (p := ⟨bs, X.toNat, none⟩) hbsl).symm.trans y1)
                refine hK.out _ _ hS1 (fun _ => ?_)
                clear hK K
                try simp only [Act.put, List.getElem_toArray, List.getElem_cons_zero, List.getElem_cons_succ, List.setIfInBounds_toArray, List.set_cons_zero, List.set_cons_succ]
                refine wpAnyH_take (i := 11) (v := (.int .i64 ((j : Int) + 2))) rfl (by kernel_rfl) (by kernel_rfl) (by kernel_rfl) (fun _ _ _ h => h) (Or.inl ⟨by kernel_rfl, by intro w hSw; obtain hSw0 := hSw; go_simp⟩) hS1 ?_
                try simp only [Act.put, List.getElem_toArray, List.getElem_cons_zero, List.getElem_cons_succ, List.setIfInBounds_toArray, List.set_cons_zero, List.set_cons_succ]
                refine wpAnyH_take (i := 12) (v := (.int .i64 ((j : Int) + 2))) rfl (by kernel_rfl) (by kernel_rfl) (by kernel_rfl) (fun _ _ _ h => h) (Or.inl ⟨by kernel_rfl, by intro w hSw; obtain hSw0 := hSw; go_simp⟩) hS1 ?_
                try simp only [Act.put, List.getElem_toArray, List.getElem_cons_zero, List.getElem_cons_succ, List.setIfInBounds_toArray, List.set_cons_zero, List.set_cons_succ]
                refine wpAnyH_done (by kernel_rfl) ?_ _
                have hspl := splice_take (cs := [Value.int .u8 (a.toNat : Int), .int .u8 (b.toNat : Int)]) HTK.out (by rw [HCN.out]; simp; omega)
                have HSPL := hid hspl
                clear hspl
                go_wp2_with fail
                go_roundw
                case rel => exact ⟨i + 1, j + 2, _, rfl, rfl, by omega, by rw [HFT.out, HW0.out, List.length_append, ← HJ.out]; rfl, hw5.out, by rw [length_splice _ _ _ (by rw [HCN.out]; simp; omega)]; exact HCN.out, by rw [HFT.out, HW0.out, bv_append]; exact HSPL.out, hb5⟩
                case measure => simp [intOf]; omega
            · obtain rfl : i = s.length := by omega
              rw [List.take_length] at hj htk
              rw [← HNF.out] at hj
              subst hj
              rw [List.take_of_length_le (by omega)] at htk
              rw [htk] at hcur
              have hcv := run_string_of (P := Tryz.prog) (bs_of_row HNF.out hcur (by rw [← HNF.out]; unfold maxLen; omega)) 66 5 9 Tryz.underlying66 Tryz.underlying5 Tryz.underlying9
              clear hcur htk hcn HNL HNF
              go_wp2_with fail
              go_ret
              exact ⟨rfl, hbq⟩
  · go_enter Tryz.func134, Tryz.ntmps134
    go_wp2_with fail
    go_loop [5, 6, 10, 11] (fun v5 v6 v10 v11 => ∃ i n : Nat, v10 = .int .i64 i ∧ v5 = .int .i64 n ∧ i ≤ s.length ∧ n = s.length + escN (s.take i) ∧ v6 = .bool (decide (escN (s.take i) ≠ 0))) (fun _ _ v10 _ => s.length - (intOf v10).toNat)
    case atStart => exact ⟨0, s.length, rfl, rfl, by omega, rfl, rfl⟩
    case round =>
      obtain ⟨i, n, rfl, rfl, hi, hn, rfl⟩ := hrel
      by_cases hlt : i < s.length
      · have hix := sv_index s i hlt
        have hft := escN_take hlt
        have hle1 := escN_le (s.take i)
        have hnb : n ≤ 2000000 := by rw [List.length_take] at hle1; omega
        have hc256 : ((s[i]).toNat : Int) < 256 := by have := (s[i]).toNat_lt; omega
        have hes := escP_at s[i]
        generalize hX : s[i] = X at *
        clear hX
        have HN := hid hn
        clear hn
        rcases hes with ⟨hl0, hw0, _, _, _, _⟩ | ⟨a, b, hl0, hw0, _⟩
        · have y1 := (tab_cell HT.out X hl0).1
          rw [hl0] at hft
          have HFT := hid hft
          clear hft hl0 hw0 HNL
          go_wp2_with fail
          go_round
          case rel => exact ⟨i + 1, n, rfl, rfl, by omega, by rw [HFT.out]; exact HN.out, by rw [HFT.out]; rfl⟩
          case measure => simp [intOf]; omega
        · obtain ⟨g0, k0, y1, _, _⟩ := tab_at HT.out X [a, b] hl0
          have hlen2 : ([a, b] : Bt).length = 2 := rfl
          rw [hlen2] at y1
          rw [hl0] at hft
          have HFT := hid hft
          have hdz : decide (escN (s.take (i + 1)) ≠ 0) = true := by rw [decide_eq_true_eq, HFT.out]; simp
          have HDZ := hid hdz
          clear hft hl0 hw0 HNL hdz
          go_wp2_with fail
          go_round
          case rel => exact ⟨i + 1, n + 1, rfl, rfl, by omega, by rw [HFT.out, HN.out]; simp; omega, by rw [HDZ.out]⟩
          case measure => simp [intOf]; omega
      · obtain rfl : i = s.length := by omega
        rw [List.take_length] at hn ⊢
        by_cases hz : escN s = 0
        · have HE := hid (esc_same s hz)
          rw [decide_eq_false (by simp [hz])]
          clear hne hns
          go_wp2_with fail
          go_ret
          exact ⟨by rw [HE.out]; rfl, Below.refl _ _⟩
        · rw [decide_eq_true (show escN s ≠ 0 from hz)]
          have hnf : n = (s.flatMap escW).length := by rw [HNL.out]; exact hn
          obtain ⟨w1, hmk, ⟨cur0, hcur, hcl⟩, hb1⟩ := make_bytes w n (by omega)
          have HNF := hid hnf
          have HCUR := hid hcur
          have hB1 : Below w.heap.size w w1 := hb1
          obtain ⟨bb, hbbe⟩ : ∃ bb, bb = w.heap.size := ⟨_, rfl⟩
          have hbb : w.heap.size ≤ bb := by rw [hbbe]; exact Nat.le_refl _
          rw [← hbbe] at HCUR hmk
          have HBBE := hid hbbe
          clear hbbe
          have hnb : n ≤ 2000000 := by omega
          clear hn hnf hcur hz
          go_wp2_with fail
          clear hmk hb1
          go_loopw [13, 14, 15] (fun v13 v14 v15 wr => ∃ (i j : Nat) (cur : List Value), v14 = .int .i64 i ∧ v13 = .int .i64 j ∧ i ≤ s.length ∧ j = ((s.take i).flatMap escW).length ∧ wr.heap[bb]? = some (.cells cur.toArray 5 (0, 0)) ∧ cur.length = n ∧ cur.take j = bv ((s.take i).flatMap escW) ∧ Below w.heap.size w wr) (fun _ v14 _ _ => s.length - (intOf v14).toNat)
          case atStart => exact ⟨0, 0, cur0, rfl, rfl, by omega, rfl, HCUR.out, hcl, rfl, hB1⟩
          case round =>
            obtain ⟨i, j, cur, rfl, rfl, hi, hj, hcur, hcn, htk, hbq⟩ := hrel
            have HTQ := hid (HT.out.below hbq)
            by_cases hlt : i < s.length
            · have hix := sv_index s i hlt
              have hft := flat_take hlt
              have hroom := flat_room s i hlt
              rw [← hj, ← HNF.out] at hroom
              have hc256 : ((s[i]).toNat : Int) < 256 := by have := (s[i]).toNat_lt; omega
              have hes := escP_at s[i]
              generalize hX : s[i] = X at *
              clear hX
              have HFT := hid hft
              have HJ := hid hj
              have HTK := hid htk
              have HCURQ := hid hcur
              have HCN := hid hcn
              clear hft hj htk
              rcases hes with ⟨hl0, hw0, _, _, _, _⟩ | ⟨a, b, hl0, hw0, _⟩
              · rw [hw0] at hroom
                simp only [List.length_singleton] at hroom
                have y1 := (tab_cell HTQ.out X hl0).1
                have hjn : j < n := by omega
                have z1 : wr.cell? ⟨bb, j, none⟩ = some (cur[j]'(by omega)) := (cell_of_row _ _ _ _ _ (0, 0) hcur).trans (by simp [hcn, hjn])
                have z2 := block_free hcur j
                have hnew := heap_setCell_same wr bb j _ _ (.int .u8 (X.toNat : Int)) hcur
                rw [List.setIfInBounds_toArray] at hnew
                have HNEW := hid hnew
                have hbn := hbq.trans ((turn_set wr bb j (.int .u8 (X.toNat : Int))).below hbq.size (fun k hk h => by omega))
                have htn := take_set_snoc (v := .int .u8 (X.toNat : Int)) HTK.out (by omega)
                have HTN := hid htn
                have HW0 := hid hw0
                clear hnew htn hcur hw0 hl0 HNL
                generalize cur[j] = cj at *
                go_wp2_with fail
                go_roundw
                case rel => exact ⟨i + 1, j + 1, _, rfl, rfl, by omega, by rw [HFT.out, HW0.out, List.length_append, ← HJ.out]; rfl, HNEW.out, by rw [List.length_set]; exact HCN.out, by rw [HTN.out, HFT.out, HW0.out, bv_append]; rfl, hbn⟩
                case measure => simp [intOf]; omega
              · rw [hw0] at hroom
                simp only [List.length_cons, List.length_nil] at hroom
                obtain ⟨g0, k0, y1, _, y3⟩ := tab_at HTQ.out X [a, b] hl0
                have hjn : j < n := by omega
                have hjn2 : j ≤ n := by omega
                have hnj : ¬ n = j := by omega
                have hwj : IntKind.i64.wrap ((j : Int) + 2) = (j : Int) + 2 := by rw [i64_wrap]; exact wrap64_id (by unfold In64; omega)
                have HWR := hid hbq
                have hlen2 : ([a, b] : Bt).length = 2 := rfl
                rw [hlen2] at y1
                have hS0 : wr.drew.cell? ⟨bs, X.toNat, none⟩ = some (.slice (some ⟨g0, 0, none⟩) 2 k0) := y1
                have hsrc : ∀ (q : Nat) v, [Value.int .u8 (a.toNat : Int), .int .u8 (b.toNat : Int)][q]? = some v → wr.drew.cell? ((⟨g0, 0, none⟩ : Addr).add q) = some v := by
                  intro q v hv
                  rw [plain_add, Nat.zero_add]
                  rcases q with _ | _ | q
                  · exact (y3 0 (by simp)).trans hv
                  · exact (y3 1 (by simp)).trans hv
                  · simp at hv
                have hbd : Below w.heap.size w wr.drew := hbq.trans (below_drawn wr 1)
                have HSRC := hid hsrc
                have HW0 := hid hw0
                clear hsrc y3 hw0 hl0 HNL hcur
                go_wp2_with fail
                refine wp_region_held_drew (S := fun w' => w'.cell? ⟨bs, X.toNat, none⟩ = some (.slice (some ⟨g0, 0, none⟩) 2 k0)) (by kernel_rfl) hS0 (fun _ => ?_)
                try simp only [Act.put, List.getElem_toArray, List.getElem_cons_zero, List.getElem_cons_succ, List.setIfInBounds_toArray, List.set_cons_zero, List.set_cons_succ]
                refine wpAnyH_take (i := 0) (v := (.int .i64 j)) rfl (by kernel_rfl) (by kernel_rfl) (by kernel_rfl) (fun _ _ _ h => h) (Or.inl ⟨by kernel_rfl, by intro w hSw; obtain hSw0 := hSw; go_simp⟩) hS0 ?_
                try simp only [Act.put, List.getElem_toArray, List.getElem_cons_zero, List.getElem_cons_succ, List.setIfInBounds_toArray, List.set_cons_zero, List.set_cons_succ]
                refine wpAnyH_take (i := 1) (v := (.slice (some ⟨bb, 0, none⟩) n n)) rfl (by kernel_rfl) (by kernel_rfl) (by kernel_rfl) (fun _ _ _ h => h) (Or.inl ⟨by kernel_rfl, by intro w hSw; obtain hSw0 := hSw; go_simp⟩) hS0 ?_
                try simp only [Act.put, List.getElem_toArray, List.getElem_cons_zero, List.getElem_cons_succ, List.setIfInBounds_toArray, List.set_cons_zero, List.set_cons_succ]
                refine wpAnyH_take (i := 2) (v := (.int .i64 j)) rfl (by kernel_rfl) (by kernel_rfl) (by kernel_rfl) (fun _ _ _ h => h) (Or.inl ⟨by kernel_rfl, by intro w hSw; obtain hSw0 := hSw; go_simp⟩) hS0 ?_
                try simp only [Act.put, List.getElem_toArray, List.getElem_cons_zero, List.getElem_cons_succ, List.setIfInBounds_toArray, List.set_cons_zero, List.set_cons_succ]
                refine wpAnyH_take (i := 3) (v := (.slice (some ⟨bb, j, none⟩) (n - j) (n - j))) rfl (by kernel_rfl) (by kernel_rfl) (by kernel_rfl) (fun _ _ _ h => h) (Or.inl ⟨by kernel_rfl, by intro w hSw; obtain hSw0 := hSw; go_simp⟩) hS0 ?_
                try simp only [Act.put, List.getElem_toArray, List.getElem_cons_zero, List.getElem_cons_succ, List.setIfInBounds_toArray, List.set_cons_zero, List.set_cons_succ]
                refine wpAnyH_take (i := 4) (v := (.pointer (some ⟨bs, 0, none⟩))) rfl (by kernel_rfl) (by kernel_rfl) (by kernel_rfl) (fun _ _ _ h => h) (Or.inl ⟨by kernel_rfl, by intro w hSw; obtain hSw0 := hSw; go_simp⟩) hS0 ?_
                try simp only [Act.put, List.getElem_toArray, List.getElem_cons_zero, List.getElem_cons_succ, List.setIfInBounds_toArray, List.set_cons_zero, List.set_cons_succ]
                refine wpAnyH_take (i := 5) (v := (.int .u8 (X.toNat : Int))) rfl (by kernel_rfl) (by kernel_rfl) (by kernel_rfl) (fun _ _ _ h => h) (Or.inl ⟨by kernel_rfl, by intro w hSw; obtain hSw0 := hSw; go_simp⟩) hS0 ?_
                try simp only [Act.put, List.getElem_toArray, List.getElem_cons_zero, List.getElem_cons_succ, List.setIfInBounds_toArray, List.set_cons_zero, List.set_cons_succ]
                refine wpAnyH_take (i := 6) (v := (.pointer (some ⟨bs, 0, none⟩))) rfl (by kernel_rfl) (by kernel_rfl) (by kernel_rfl) (fun _ _ _ h => h) (Or.inl ⟨by kernel_rfl, by intro w hSw; obtain hSw0 := hSw; go_simp⟩) hS0 ?_
                try simp only [Act.put, List.getElem_toArray, List.getElem_cons_zero, List.getElem_cons_succ, List.setIfInBounds_toArray, List.set_cons_zero, List.set_cons_succ]
                refine wpAnyH_take (i := 7) (v := (.pointer (some ⟨bs, 0, none⟩))) rfl (by kernel_rfl) (by kernel_rfl) (by kernel_rfl) (fun _ _ _ h => h) (Or.inl ⟨by kernel_rfl, by intro w hSw; obtain hSw0 := hSw; go_simp⟩) hS0 ?_
                try simp only [Act.put, List.getElem_toArray, List.getElem_cons_zero, List.getElem_cons_succ, List.setIfInBounds_toArray, List.set_cons_zero, List.set_cons_succ]
                refine wpAnyH_take (i := 8) (v := (.pointer (some ⟨bs, X.toNat, none⟩))) rfl (by kernel_rfl) (by kernel_rfl) (by kernel_rfl) (fun _ _ _ h => h) (Or.inl ⟨by kernel_rfl, by intro w hSw; obtain hSw0 := hSw; go_simp⟩) hS0 ?_
                try simp only [Act.put, List.getElem_toArray, List.getElem_cons_zero, List.getElem_cons_succ, List.setIfInBounds_toArray, List.set_cons_zero, List.set_cons_succ]
                refine wpAnyH_take (i := 9) (v := (.slice (some ⟨g0, 0, none⟩) 2 k0)) rfl (by kernel_rfl) (by kernel_rfl) (by kernel_rfl) (fun _ _ _ h => h) (Or.inl ⟨by kernel_rfl, by intro w hSw; obtain hSw0 := hSw; go_simp⟩) hS0 ?_
                try simp only [Act.put, List.getElem_toArray, List.getElem_cons_zero, List.getElem_cons_succ, List.setIfInBounds_toArray, List.set_cons_zero, List.set_cons_succ]
                refine wpAnyH_ready (rs := [10]) (by kernel_rfl) (by simp) ?_
                refine AllReadyH.cons rfl (fun K hK => ?_) AllReadyH.nil
                refine step_copy_splice rfl (.tmp 105) (.tmp 111) _ _ rfl 5 Tryz.underlying66 (by kernel_rfl) _ _ _ _ _ _ rfl rfl bb j cur 5 HCURQ.out [.int .u8 (a.toNat : Int), .int .u8 (b.toNat : Int)] (by show 2 = min 2 (n - j); omega) (fun _ => ⟨rfl, _, rfl, HSRC.out⟩) (by rw [HCN.out]; simp only [List.length_cons, List.length_nil]; omega) (by intro v hv; simp at hv; rcases hv with rfl | rfl <;> rfl) w.heap.size w hbd hbb (fun w5 hw5 hb5 => ?_)
                have hS1 : w5.cell? ⟨bs, X.toNat, none⟩ = some (.slice (some ⟨g0, 0, none⟩) 2 k0) := by
                  exact (hb5.cell (p := ⟨bs, X.toNat, none⟩) hbsl).trans ((HWR.out.cell (p := ⟨bs, X.toNat, none⟩) hbsl).symm.trans y1)
                refine hK.out _ _ hS1 (fun _ => ?_)
                clear hK K
                try simp only [Act.put, List.getElem_toArray, List.getElem_cons_zero, List.getElem_cons_succ, List.setIfInBounds_toArray, List.set_cons_zero, List.set_cons_succ]
                refine wpAnyH_take (i := 11) (v := (.int .i64 ((j : Int) + 2))) rfl (by kernel_rfl) (by kernel_rfl) (by kernel_rfl) (fun _ _ _ h => h) (Or.inl ⟨by kernel_rfl, by intro w hSw; obtain hSw0 := hSw; go_simp⟩) hS1 ?_
                try simp only [Act.put, List.getElem_toArray, List.getElem_cons_zero, List.getElem_cons_succ, List.setIfInBounds_toArray, List.set_cons_zero, List.set_cons_succ]
                refine wpAnyH_take (i := 12) (v := (.int .i64 ((j : Int) + 2))) rfl (by kernel_rfl) (by kernel_rfl) (by kernel_rfl) (fun _ _ _ h => h) (Or.inl ⟨by kernel_rfl, by intro w hSw; obtain hSw0 := hSw; go_simp⟩) hS1 ?_
                try simp only [Act.put, List.getElem_toArray, List.getElem_cons_zero, List.getElem_cons_succ, List.setIfInBounds_toArray, List.set_cons_zero, List.set_cons_succ]
                refine wpAnyH_done (by kernel_rfl) ?_ _
                have hspl := splice_take (cs := [Value.int .u8 (a.toNat : Int), .int .u8 (b.toNat : Int)]) HTK.out (by rw [HCN.out]; simp; omega)
                have HSPL := hid hspl
                clear hspl
                go_wp2_with fail
                go_roundw
                case rel => exact ⟨i + 1, j + 2, _, rfl, rfl, by omega, by rw [HFT.out, HW0.out, List.length_append, ← HJ.out]; rfl, hw5.out, by rw [length_splice _ _ _ (by rw [HCN.out]; simp; omega)]; exact HCN.out, by rw [HFT.out, HW0.out, bv_append]; exact HSPL.out, hb5⟩
                case measure => simp [intOf]; omega
            · obtain rfl : i = s.length := by omega
              rw [List.take_length] at hj htk
              rw [← HNF.out] at hj
              subst hj
              rw [List.take_of_length_le (by omega)] at htk
              rw [htk] at hcur
              have hcv := run_string_of (P := Tryz.prog) (bs_of_row HNF.out hcur (by rw [← HNF.out]; unfold maxLen; omega)) 66 5 9 Tryz.underlying66 Tryz.underlying5 Tryz.underlying9
              clear hcur htk hcn HNL HNF
              go_wp2_with fail
              go_ret
              exact ⟨rfl, hbq⟩
end Go.Proofs.YtpgngegdflbahaaGreatDoor
