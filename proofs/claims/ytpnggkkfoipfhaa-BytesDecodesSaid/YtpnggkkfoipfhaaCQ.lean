/- The law's sizes: names, sized. -/
import Derived.Test.YtpnggkkfoipfhaaCP
set_option linter.unusedVariables false
namespace Go.Proofs.Ytpnggkkfoipfhaa
open Go.RowKit

/-- A test has an answer, and true says this. -/
def BoolSays (P : Prop) (w : World) (e : Ending) (w' : World) : Prop := ∃ b : Bool, e = .returned (.bool b) ∧ (b = true → P) ∧ Below w.heap.size w w'
mutual
def ShortCo : CoD → Prop
  | .mk t n m f u => (∀ x ∈ n, x.1.length ≤ 100) ∧ (∀ x ∈ m, x.length ≤ 100) ∧ ShortCos f ∧ ShortCos u
def ShortCos : List CoD → Prop
  | [] => True
  | c :: l => ShortCo c ∧ ShortCos l
end
theorem shortCos_mem : ∀ {l : List CoD}, ShortCos l ↔ ∀ x ∈ l, ShortCo x
  | [] => by simp [ShortCos]
  | c :: l => by
    rw [ShortCos, shortCos_mem (l := l)]
    simp
theorem take_all {α : Type} {P : α → Prop} {l : List α} {k : Nat} (hk : k < l.length) (h : ∀ x ∈ l.take k, P x) (hx : P l[k]) : ∀ x ∈ l.take (k + 1), P x := by
  intro x hxx
  rw [take_one hk] at hxx
  rcases List.mem_append.1 hxx with hy | hy
  · exact h x hy
  · rw [List.mem_singleton] at hy; subst hy; exact hx
def NamesC (c : CoD) : Prop := ∀ (w : World) (x : List Value), CoR w w.heap.size x c →
    Calls Try.prog 15 #[.agg x.toArray] w (BoolSays (ShortCo c) w)
set_option maxRecDepth 100000 in
set_option maxHeartbeats 8000000 in
theorem names_step (t : List Int) (n : List (Bt × Int)) (m : List Bt) (f u : List CoD) (Hf : ∀ x ∈ f, NamesC x) (Hu : ∀ x ∈ u, NamesC x) : NamesC (.mk t n m f u) := by
  intro w x ha
  obtain ⟨A1, c1, A2, c2, A3, c3, A4, c4, A5, c5, xf, xu, rfl, s1, s2, s3, s4, r4, s5, r5⟩ := co_parts ha
  have l1 := (sl_len s1).2; have l2 := (sl_len s2).2; have l3 := (sl_len s3).2; have l4 := (sl_len s4).2; have l5 := (sl_len s5).2
  clear ha
  have hz1 := heap_alloc_new w (.cells #[.slice A1 t.length c1, .slice A2 n.length c2, .slice A3 m.length c3, .slice A4 f.length c4, .slice A5 u.length c5] 42)
  obtain ⟨W1, hW1⟩ : ∃ W1, W1 = w.alloc (.cells #[.slice A1 t.length c1, .slice A2 n.length c2, .slice A3 m.length c3, .slice A4 f.length c4, .slice A5 u.length c5] 42) := ⟨_, rfl⟩
  have hb1 : Below w.heap.size w W1 := by rw [hW1]; exact (Below.refl _ _).alloc (Nat.le_refl _) _
  rw [← hW1] at hz1
  have HWE := hid hW1
  have HB1 := hid hb1
  have HBS := hid hb1.size
  have f1 : W1.cell? ⟨w.heap.size, 1, none⟩ = some (.slice A2 n.length c2) := (cell_of_row _ _ _ _ _ _ hz1).trans rfl
  have f2 : W1.cell? ⟨w.heap.size, 2, none⟩ = some (.slice A3 m.length c3) := (cell_of_row _ _ _ _ _ _ hz1).trans rfl
  have f3 : W1.cell? ⟨w.heap.size, 3, none⟩ = some (.slice A4 f.length c4) := (cell_of_row _ _ _ _ _ _ hz1).trans rfl
  have f4 : W1.cell? ⟨w.heap.size, 4, none⟩ = some (.slice A5 u.length c5) := (cell_of_row _ _ _ _ _ _ hz1).trans rfl
  have H1 : Hid (Sl W1 w.heap.size 2 (.slice A2 n.length c2) (needsV n)) := hid (Sl.below s2 hb1)
  have H2 : Hid (Sl W1 w.heap.size 1 (.slice A3 m.length c3) (svs m)) := hid (Sl.below s3 hb1)
  have H3 : Hid (Sl W1 w.heap.size 5 (.slice A4 f.length c4) xf) := hid (Sl.below s4 hb1)
  have H4 : Hid (Sl W1 w.heap.size 5 (.slice A5 u.length c5) xu) := hid (Sl.below s5 hb1)
  have R3 := hid (r4.keep hb1)
  have R4 := hid (r5.keep hb1)
  have HF := hid Hf
  have HU := hid Hu
  clear s1 s2 s3 s4 s5 r4 r5 hz1 hb1 hW1 Hf Hu
  go_enter Try.func15, Try.ntmps15
  go_wp2_with fail
  go_loopw [3] (fun v3 wr => ∃ k : Nat, v3 = .int .i64 k ∧ k ≤ n.length ∧ (∀ x ∈ n.take (k), x.1.length ≤ 100) ∧ Below W1.heap.size W1 wr) (fun v3 _ => n.length - (intOf v3).toNat)
  case atStart => exact ⟨0, rfl, by omega, by simp, by rw [← HWE.out]; exact Below.refl _ _⟩
  case round =>
    obtain ⟨k, rfl, hk, hinv, hbr⟩ := hrel
    have p0 : wr.cell? ⟨w.heap.size, 1, none⟩ = some (.slice A2 n.length c2) := keep_cell hbr f1
    have HINV := hid hinv
    clear hinv
    by_cases hlt : k < n.length
    · have hlt0 := hlt
      obtain ⟨b1, o1, rfl, hc1⟩ := sl_in H1.out hlt (by omega)
      have d0 : W1.cell? ⟨b1, o1 + k * 2, none⟩ = some (sv n[k].1) := by have := hc1 0 _ (show _ = some (sv n[k].1) by rw [needsV, flat_some (k := 2) (fun _ => rfl) n k hlt 0 (by omega)]; rfl); simpa using this
      have z0 := keep_cell hbr d0
      have FIN : Hid (n[k].1.length ≤ 100 → ∀ x ∈ n.take (k + 1), x.1.length ≤ 100) := hid (fun h => take_all (P := fun x : Bt × Int => x.1.length ≤ 100) hlt HINV.out h)
      generalize n[k].1 = X at *
      have hsz := wr_sv X
      have HBR := hid hbr
      clear hc1 d0 hbr
      by_cases e0 : (100 : Int) < (X.length : Int)
      · have g0 : decide ((100 : Int) < (X.length : Int)) = true := by simpa using e0
        go_wp2_with fail
        go_ret
        exact ⟨false, rfl, fun h => (by cases h), HB1.out.trans ((HBR.out).mono HB1.out.size)⟩
      have g0 : decide ((100 : Int) < (X.length : Int)) = false := by simpa using e0
      have E0 := hid e0
      clear e0
      go_wp2_with fail
      go_roundw
      case rel => exact ⟨k + 1, rfl, by omega, FIN.out (by have := E0.out; omega), HBR.out⟩
      case measure => simp [intOf]; omega
    · obtain rfl : k = n.length := by omega
      have HALL_3 : Hid (∀ x ∈ n.take (n.length), x.1.length ≤ 100) := HINV
      rw [List.take_length] at HALL_3
      have HBR := hid hbr
      clear hbr
      go_wp2_with fail
      clear p0
      go_loopw [4] (fun v4 wr => ∃ k : Nat, v4 = .int .i64 k ∧ k ≤ m.length ∧ (∀ x ∈ m.take (k), x.length ≤ 100) ∧ Below W1.heap.size W1 wr) (fun v4 _ => m.length - (intOf v4).toNat)
      case atStart => exact ⟨0, rfl, by omega, by simp, HBR.out⟩
      case round =>
        obtain ⟨k, rfl, hk, hinv, hbr⟩ := hrel
        have p0 : wr.cell? ⟨w.heap.size, 2, none⟩ = some (.slice A3 m.length c3) := keep_cell hbr f2
        have HINV := hid hinv
        clear hinv
        by_cases hlt : k < m.length
        · have hlt0 := hlt
          obtain ⟨b1, o1, rfl, hc1⟩ := sl_in H2.out hlt (by omega)
          have d0 : W1.cell? ⟨b1, o1 + k, none⟩ = some (sv m[k]) := by have := hc1 0 _ (show _ = some (sv m[k]) by simp [svs, hlt]); simpa using this
          have z0 := keep_cell hbr d0
          have FIN : Hid (m[k].length ≤ 100 → ∀ x ∈ m.take (k + 1), x.length ≤ 100) := hid (fun h => take_all (P := fun x : Bt => x.length ≤ 100) hlt HINV.out h)
          generalize m[k] = X at *
          have hsz := wr_sv X
          have HBR := hid hbr
          clear hc1 d0 hbr
          by_cases e0 : (100 : Int) < (X.length : Int)
          · have g0 : decide ((100 : Int) < (X.length : Int)) = true := by simpa using e0
            go_wp2_with fail
            go_ret
            exact ⟨false, rfl, fun h => (by cases h), HB1.out.trans ((HBR.out).mono HB1.out.size)⟩
          have g0 : decide ((100 : Int) < (X.length : Int)) = false := by simpa using e0
          have E0 := hid e0
          clear e0
          go_wp2_with fail
          go_roundw
          case rel => exact ⟨k + 1, rfl, by omega, FIN.out (by have := E0.out; omega), HBR.out⟩
          case measure => simp [intOf]; omega
        · obtain rfl : k = m.length := by omega
          have HALL_4 : Hid (∀ x ∈ m.take (m.length), x.length ≤ 100) := HINV
          rw [List.take_length] at HALL_4
          have HBR := hid hbr
          clear hbr
          go_wp2_with fail
          clear p0
          go_loopw [5] (fun v5 wr => ∃ k : Nat, v5 = .int .i64 k ∧ k ≤ f.length ∧ (∀ x ∈ f.take (k), ShortCo x) ∧ Below W1.heap.size W1 wr) (fun v5 _ => f.length - (intOf v5).toNat)
          case atStart => exact ⟨0, rfl, by omega, by simp, HBR.out⟩
          case round =>
            obtain ⟨k, rfl, hk, hinv, hbr⟩ := hrel
            have p0 : wr.cell? ⟨w.heap.size, 3, none⟩ = some (.slice A4 f.length c4) := keep_cell hbr f3
            have HINV := hid hinv
            clear hinv
            by_cases hlt : k < f.length
            · have hlt0 := hlt
              obtain ⟨b1, o1, rfl, hc1⟩ := sl_in H3.out hlt (by omega)
              have hr1 := R3.out.at k hlt
              obtain ⟨P11, m11, q11, P12, m12, q12, P13, m13, q13, P14, m14, q14, P15, m15, q15, hv1⟩ := hr1.slices
              rw [hv1] at hr1
              have d10 : W1.cell? ⟨b1, o1 + k * 5, none⟩ = some (.slice P11 m11 q11) := by have := hc1 0 _ (part_get hv1 (by omega : 0 < 5)); simpa [Nat.add_assoc] using this
              have d11 : W1.cell? ⟨b1, o1 + k * 5 + 1, none⟩ = some (.slice P12 m12 q12) := by have := hc1 1 _ (part_get hv1 (by omega : 1 < 5)); simpa [Nat.add_assoc] using this
              have d12 : W1.cell? ⟨b1, o1 + k * 5 + 2, none⟩ = some (.slice P13 m13 q13) := by have := hc1 2 _ (part_get hv1 (by omega : 2 < 5)); simpa [Nat.add_assoc] using this
              have d13 : W1.cell? ⟨b1, o1 + k * 5 + 3, none⟩ = some (.slice P14 m14 q14) := by have := hc1 3 _ (part_get hv1 (by omega : 3 < 5)); simpa [Nat.add_assoc] using this
              have d14 : W1.cell? ⟨b1, o1 + k * 5 + 4, none⟩ = some (.slice P15 m15 q15) := by have := hc1 4 _ (part_get hv1 (by omega : 4 < 5)); simpa [Nat.add_assoc] using this
              have z0 := keep_cell hbr d10
              have z1 := keep_cell hbr d11
              have z2 := keep_cell hbr d12
              have z3 := keep_cell hbr d13
              have z4 := keep_cell hbr d14
              have HP := hid (HF.out _ (List.getElem_mem hlt) wr [.slice P11 m11 q11, .slice P12 m12 q12, .slice P13 m13 q13, .slice P14 m14 q14, .slice P15 m15 q15] (hr1.far HBS.out hbr))
              have FIN : Hid (ShortCo f[k] → ∀ x ∈ f.take (k + 1), ShortCo x) := hid (fun h => take_all (P := ShortCo) hlt HINV.out h)
              generalize f[k] = X at *
              have HBR0 := hid hbr
              clear hc1 hv1 hr1 d10 d11 d12 d13 d14 hbr
              go_wp2_with fail
              refine HP.out.mono ?_
              rintro e w5 ⟨r, rfl, hd5, hb5⟩
              have HD5 := hid hd5
              have HBR := hid (HBR0.out.trans (hb5.mono HBR0.out.size))
              clear hd5 hb5 z0 z1 z2 z3 z4 p0
              cases r with
              | false =>
                go_wp2_with fail
                go_ret
                exact ⟨false, rfl, fun h => (by cases h), HB1.out.trans ((HBR.out).mono HB1.out.size)⟩
              | true =>
                go_wp2_with fail
                go_roundw
                case rel => exact ⟨k + 1, rfl, by omega, FIN.out (HD5.out (by first | trivial | rfl)), HBR.out⟩
                case measure => simp [intOf]; omega
            · obtain rfl : k = f.length := by omega
              have HALL_5 : Hid (∀ x ∈ f.take (f.length), ShortCo x) := HINV
              rw [List.take_length] at HALL_5
              have HBR := hid hbr
              clear hbr
              go_wp2_with fail
              clear p0
              go_loopw [7] (fun v7 wr => ∃ k : Nat, v7 = .int .i64 k ∧ k ≤ u.length ∧ (∀ x ∈ u.take (k), ShortCo x) ∧ Below W1.heap.size W1 wr) (fun v7 _ => u.length - (intOf v7).toNat)
              case atStart => exact ⟨0, rfl, by omega, by simp, HBR.out⟩
              case round =>
                obtain ⟨k, rfl, hk, hinv, hbr⟩ := hrel
                have p0 : wr.cell? ⟨w.heap.size, 4, none⟩ = some (.slice A5 u.length c5) := keep_cell hbr f4
                have HINV := hid hinv
                clear hinv
                by_cases hlt : k < u.length
                · have hlt0 := hlt
                  obtain ⟨b1, o1, rfl, hc1⟩ := sl_in H4.out hlt (by omega)
                  have hr1 := R4.out.at k hlt
                  obtain ⟨P11, m11, q11, P12, m12, q12, P13, m13, q13, P14, m14, q14, P15, m15, q15, hv1⟩ := hr1.slices
                  rw [hv1] at hr1
                  have d10 : W1.cell? ⟨b1, o1 + k * 5, none⟩ = some (.slice P11 m11 q11) := by have := hc1 0 _ (part_get hv1 (by omega : 0 < 5)); simpa [Nat.add_assoc] using this
                  have d11 : W1.cell? ⟨b1, o1 + k * 5 + 1, none⟩ = some (.slice P12 m12 q12) := by have := hc1 1 _ (part_get hv1 (by omega : 1 < 5)); simpa [Nat.add_assoc] using this
                  have d12 : W1.cell? ⟨b1, o1 + k * 5 + 2, none⟩ = some (.slice P13 m13 q13) := by have := hc1 2 _ (part_get hv1 (by omega : 2 < 5)); simpa [Nat.add_assoc] using this
                  have d13 : W1.cell? ⟨b1, o1 + k * 5 + 3, none⟩ = some (.slice P14 m14 q14) := by have := hc1 3 _ (part_get hv1 (by omega : 3 < 5)); simpa [Nat.add_assoc] using this
                  have d14 : W1.cell? ⟨b1, o1 + k * 5 + 4, none⟩ = some (.slice P15 m15 q15) := by have := hc1 4 _ (part_get hv1 (by omega : 4 < 5)); simpa [Nat.add_assoc] using this
                  have z0 := keep_cell hbr d10
                  have z1 := keep_cell hbr d11
                  have z2 := keep_cell hbr d12
                  have z3 := keep_cell hbr d13
                  have z4 := keep_cell hbr d14
                  have HP := hid (HU.out _ (List.getElem_mem hlt) wr [.slice P11 m11 q11, .slice P12 m12 q12, .slice P13 m13 q13, .slice P14 m14 q14, .slice P15 m15 q15] (hr1.far HBS.out hbr))
                  have FIN : Hid (ShortCo u[k] → ∀ x ∈ u.take (k + 1), ShortCo x) := hid (fun h => take_all (P := ShortCo) hlt HINV.out h)
                  generalize u[k] = X at *
                  have HBR0 := hid hbr
                  clear hc1 hv1 hr1 d10 d11 d12 d13 d14 hbr
                  go_wp2_with fail
                  refine HP.out.mono ?_
                  rintro e w5 ⟨r, rfl, hd5, hb5⟩
                  have HD5 := hid hd5
                  have HBR := hid (HBR0.out.trans (hb5.mono HBR0.out.size))
                  clear hd5 hb5 z0 z1 z2 z3 z4 p0
                  cases r with
                  | false =>
                    go_wp2_with fail
                    go_ret
                    exact ⟨false, rfl, fun h => (by cases h), HB1.out.trans ((HBR.out).mono HB1.out.size)⟩
                  | true =>
                    go_wp2_with fail
                    go_roundw
                    case rel => exact ⟨k + 1, rfl, by omega, FIN.out (HD5.out (by first | trivial | rfl)), HBR.out⟩
                    case measure => simp [intOf]; omega
                · obtain rfl : k = u.length := by omega
                  have HALL_7 : Hid (∀ x ∈ u.take (u.length), ShortCo x) := HINV
                  rw [List.take_length] at HALL_7
                  have HBR := hid hbr
                  clear hbr
                  go_wp2_with fail
                  clear p0
                  go_ret
                  exact ⟨true, rfl, fun _ => by rw [ShortCo]; exact ⟨HALL_3.out, HALL_4.out, shortCos_mem.2 HALL_5.out, shortCos_mem.2 HALL_7.out⟩, HB1.out.trans ((HBR.out).mono HB1.out.size)⟩
theorem names_all : ∀ (k : Nat) (c : CoD), SizeOf.sizeOf c < k → NamesC c
  | 0, c, h => absurd h (by omega)
  | k + 1, .mk t n m f u, h => by
    simp only [CoD.mk.sizeOf_spec] at h
    exact names_step t n m f u (fun x hx => names_all k x (by have := List.sizeOf_lt_of_mem hx; omega)) (fun x hx => names_all k x (by have := List.sizeOf_lt_of_mem hx; omega))
theorem names_any (c : CoD) : NamesC c := names_all _ c (Nat.lt_succ_self _)
/-- What sized tells. -/
structure SizedOk (most : Nat) (c : CodeD) : Prop where
  ints : c.ints.length ≤ 1000
  strs : c.strs.length ≤ 100
  shapes : c.shapes.length ≤ 100
  cos : c.cos.length ≤ 100
  procs : c.procs.length ≤ 100
  str : ∀ x ∈ c.strs, x.length ≤ 5000
  shape : ∀ x ∈ c.shapes, x.length ≤ 100 ∧ ∀ y ∈ x, y.length ≤ 30
  co : (∀ x ∈ c.cos, coH x ≤ most ∧ SmallCo x) ∧ cosN c.cos ≤ 300
  proc : ∀ x ∈ c.procs, x.code.length ≤ 1000
set_option maxRecDepth 100000 in
set_option maxHeartbeats 8000000 in
theorem sized_any (w : World) (x : List Value) (c : CodeD) (most : Nat) (ha : CodeR w w.heap.size x c) (hmost : most ≤ 1000) :
    Calls Try.prog 9 #[.agg x.toArray, .int .i64 most] w (BoolSays (SizedOk most c) w) := by
  obtain ⟨A1, c1, A2, c2, A3, c3, A4, c4, A5, c5, xh, xc, xp, rfl, s1, s2, s3, q3, s4, q4, s5, q5⟩ := code_parts ha
  have l1 := (sl_len s1).2; have l2 := (sl_len s2).2; have l3 := (sl_len s3).2; have l4 := (sl_len s4).2; have l5 := (sl_len s5).2
  clear ha
  obtain ⟨t, ss, hh, cc, pp, mn, mg⟩ := c
  simp only at *
  have hz1 := heap_alloc_new w (.cells #[.slice A1 t.length c1, .slice A2 ss.length c2, .slice A3 hh.length c3, .slice A4 cc.length c4, .slice A5 pp.length c5, .int .i64 mn, .bool mg] 28)
  obtain ⟨W1, hW1⟩ : ∃ W1, W1 = w.alloc (.cells #[.slice A1 t.length c1, .slice A2 ss.length c2, .slice A3 hh.length c3, .slice A4 cc.length c4, .slice A5 pp.length c5, .int .i64 mn, .bool mg] 28) := ⟨_, rfl⟩
  have hb1 : Below w.heap.size w W1 := by rw [hW1]; exact (Below.refl _ _).alloc (Nat.le_refl _) _
  rw [← hW1] at hz1
  have HWE := hid hW1
  have HB1 := hid hb1
  have HBS := hid hb1.size
  have f1 : W1.cell? ⟨w.heap.size, 1, none⟩ = some (.slice A2 ss.length c2) := (cell_of_row _ _ _ _ _ _ hz1).trans rfl
  have f2 : W1.cell? ⟨w.heap.size, 2, none⟩ = some (.slice A3 hh.length c3) := (cell_of_row _ _ _ _ _ _ hz1).trans rfl
  have f3 : W1.cell? ⟨w.heap.size, 3, none⟩ = some (.slice A4 cc.length c4) := (cell_of_row _ _ _ _ _ _ hz1).trans rfl
  have f4 : W1.cell? ⟨w.heap.size, 4, none⟩ = some (.slice A5 pp.length c5) := (cell_of_row _ _ _ _ _ _ hz1).trans rfl
  have H1 : Hid (Sl W1 w.heap.size 1 (.slice A2 ss.length c2) (svs ss)) := hid (Sl.below s2 hb1)
  have H2 : Hid (Sl W1 w.heap.size 1 (.slice A3 hh.length c3) xh) := hid (Sl.below s3 hb1)
  have H3 : Hid (Sl W1 w.heap.size 5 (.slice A4 cc.length c4) xc) := hid (Sl.below s4 hb1)
  have H4 : Hid (Sl W1 w.heap.size 3 (.slice A5 pp.length c5) xp) := hid (Sl.below s5 hb1)
  have R2 := hid (shapes_keep q3 hb1)
  have R3 := hid (q4.keep hb1)
  have R4 := hid (procs_keep q5 hb1)
  clear s1 s2 s3 s4 s5 q3 q4 q5 hz1 hb1 hW1
  by_cases e0 : (1000 : Int) < (t.length : Int)
  · have g0 : decide ((1000 : Int) < (t.length : Int)) = true := by simpa using e0
    clear f1 f2 f3 f4
    go_enter Try.func9, Try.ntmps9
    go_wp2_with fail
    go_ret
    exact ⟨false, rfl, fun h => (by cases h), by rw [← HWE.out]; exact HB1.out⟩
  have g0 : decide ((1000 : Int) < (t.length : Int)) = false := by simpa using e0
  by_cases e1 : (100 : Int) < (ss.length : Int)
  · have g1 : decide ((100 : Int) < (ss.length : Int)) = true := by simpa using e1
    clear f1 f2 f3 f4
    go_enter Try.func9, Try.ntmps9
    go_wp2_with fail
    go_ret
    exact ⟨false, rfl, fun h => (by cases h), by rw [← HWE.out]; exact HB1.out⟩
  have g1 : decide ((100 : Int) < (ss.length : Int)) = false := by simpa using e1
  by_cases e2 : (100 : Int) < (hh.length : Int)
  · have g2 : decide ((100 : Int) < (hh.length : Int)) = true := by simpa using e2
    clear f1 f2 f3 f4
    go_enter Try.func9, Try.ntmps9
    go_wp2_with fail
    go_ret
    exact ⟨false, rfl, fun h => (by cases h), by rw [← HWE.out]; exact HB1.out⟩
  have g2 : decide ((100 : Int) < (hh.length : Int)) = false := by simpa using e2
  by_cases e3 : (100 : Int) < (cc.length : Int)
  · have g3 : decide ((100 : Int) < (cc.length : Int)) = true := by simpa using e3
    clear f1 f2 f3 f4
    go_enter Try.func9, Try.ntmps9
    go_wp2_with fail
    go_ret
    exact ⟨false, rfl, fun h => (by cases h), by rw [← HWE.out]; exact HB1.out⟩
  have g3 : decide ((100 : Int) < (cc.length : Int)) = false := by simpa using e3
  by_cases e4 : (100 : Int) < (pp.length : Int)
  · have g4 : decide ((100 : Int) < (pp.length : Int)) = true := by simpa using e4
    clear f1 f2 f3 f4
    go_enter Try.func9, Try.ntmps9
    go_wp2_with fail
    go_ret
    exact ⟨false, rfl, fun h => (by cases h), by rw [← HWE.out]; exact HB1.out⟩
  have g4 : decide ((100 : Int) < (pp.length : Int)) = false := by simpa using e4
  have E0 := hid e0; have E1 := hid e1; have E2 := hid e2; have E3 := hid e3; have E4 := hid e4
  clear e0 e1 e2 e3 e4
  go_enter Try.func9, Try.ntmps9
  go_wp2_with fail
  clear g0 g1 g2 g3 g4
  go_loopw [5, 6] (fun v5 v6 wr => ∃ (k : Nat) (L : Int), v5 = .int .i64 L ∧ v6 = .int .i64 k ∧ k ≤ cc.length ∧ Fit most 300 (cc.take k) L ∧ Below W1.heap.size W1 wr) (fun _ v6 _ => cc.length - (intOf v6).toNat)
  case atStart => exact ⟨0, _, rfl, rfl, by omega, Fit.none most (by omega), by rw [← HWE.out]; exact Below.refl _ _⟩
  case round =>
    obtain ⟨k, L, rfl, rfl, hk, hfit, hbr⟩ := hrel
    have p0 : wr.cell? ⟨w.heap.size, 3, none⟩ = some (.slice A4 cc.length c4) := keep_cell hbr f3
    have HFT := hid hfit
    obtain ⟨hL0, hL1, _⟩ := hfit
    by_cases hgo : k < cc.length ∧ 0 < L
    · obtain ⟨hlt, hL⟩ := hgo
      have hlt0 := hlt
      have g0 : decide ((0 : Int) < L) = true := by simpa using hL
      obtain ⟨b1, o1, rfl, hc1⟩ := sl_in H3.out hlt (by omega)
      have hr1 := R3.out.at k hlt
      obtain ⟨P11, m11, q11, P12, m12, q12, P13, m13, q13, P14, m14, q14, P15, m15, q15, hv1⟩ := hr1.slices
      rw [hv1] at hr1
      have d10 : W1.cell? ⟨b1, o1 + k * 5, none⟩ = some (.slice P11 m11 q11) := by have := hc1 0 _ (part_get hv1 (by omega : 0 < 5)); simpa [Nat.add_assoc] using this
      have d11 : W1.cell? ⟨b1, o1 + k * 5 + 1, none⟩ = some (.slice P12 m12 q12) := by have := hc1 1 _ (part_get hv1 (by omega : 1 < 5)); simpa [Nat.add_assoc] using this
      have d12 : W1.cell? ⟨b1, o1 + k * 5 + 2, none⟩ = some (.slice P13 m13 q13) := by have := hc1 2 _ (part_get hv1 (by omega : 2 < 5)); simpa [Nat.add_assoc] using this
      have d13 : W1.cell? ⟨b1, o1 + k * 5 + 3, none⟩ = some (.slice P14 m14 q14) := by have := hc1 3 _ (part_get hv1 (by omega : 3 < 5)); simpa [Nat.add_assoc] using this
      have d14 : W1.cell? ⟨b1, o1 + k * 5 + 4, none⟩ = some (.slice P15 m15 q15) := by have := hc1 4 _ (part_get hv1 (by omega : 4 < 5)); simpa [Nat.add_assoc] using this
      have z0 := keep_cell hbr d10
      have z1 := keep_cell hbr d11
      have z2 := keep_cell hbr d12
      have z3 := keep_cell hbr d13
      have z4 := keep_cell hbr d14
      have HP := hid (deep_any cc[k] wr [.slice P11 m11 q11, .slice P12 m12 q12, .slice P13 m13 q13, .slice P14 m14 q14, .slice P15 m15 q15] most L (hr1.far HBS.out hbr) hmost hL hL1)
      have FIN : Hid (∀ r, DeepOk cc[k] most L r → Fit most 300 (cc.take (k + 1)) r) := hid (fun r h => by rw [take_one hlt]; exact HFT.out.step hL h)
      generalize cc[k] = X at *
      have HBR := hid hbr
      clear hc1 hv1 hr1 d10 d11 d12 d13 d14 hbr
      go_wp2_with fail
      refine HP.out.mono ?_
      rintro e w5 ⟨r, rfl, hd5, hb5⟩
      have HD5 := hid hd5
      have HB5 := hid (HBR.out.trans (hb5.mono HBR.out.size))
      clear hd5 hb5 z0 z1 z2 z3 z4 p0
      go_wp2_with fail
      go_roundw
      case rel => exact ⟨k + 1, r, rfl, rfl, by omega, FIN.out r HD5.out, HB5.out⟩
      case measure => simp [intOf]; omega
    have HFU : Hid (Fit most 300 cc L) := hid (by
      by_cases hL : 0 < L
      · obtain rfl : k = cc.length := by omega
        have := HFT.out; rw [List.take_length] at this; exact this
      · exact HFT.out.zero hL)
    by_cases hlt : k < cc.length
    · have g0 : decide ((0 : Int) < L) = false := by simp; omega
      have HBR := hid hbr
      clear hbr
      go_wp2_with fail
      clear p0
      try clear g0
      go_loopw [7] (fun v7 wr => ∃ k : Nat, v7 = .int .i64 k ∧ k ≤ ss.length ∧ (∀ x ∈ ss.take (k), x.length ≤ 5000) ∧ Below W1.heap.size W1 wr) (fun v7 _ => ss.length - (intOf v7).toNat)
      case atStart => exact ⟨0, rfl, by omega, by simp, HBR.out⟩
      case round =>
        obtain ⟨k, rfl, hk, hinv, hbr⟩ := hrel
        have p0 : wr.cell? ⟨w.heap.size, 1, none⟩ = some (.slice A2 ss.length c2) := keep_cell hbr f1
        have HINV := hid hinv
        clear hinv
        by_cases hlt : k < ss.length
        · have hlt0 := hlt
          obtain ⟨b1, o1, rfl, hc1⟩ := sl_in H1.out hlt (by omega)
          have d0 : W1.cell? ⟨b1, o1 + k, none⟩ = some (sv ss[k]) := by have := hc1 0 _ (show _ = some (sv ss[k]) by simp [svs, hlt]); simpa using this
          have z0 := keep_cell hbr d0
          have FIN : Hid (ss[k].length ≤ 5000 → ∀ x ∈ ss.take (k + 1), x.length ≤ 5000) := hid (fun h => take_all (P := fun x : Bt => x.length ≤ 5000) hlt HINV.out h)
          generalize ss[k] = X at *
          have hsz := wr_sv X
          have HBR := hid hbr
          clear hc1 d0 hbr
          by_cases e0 : (5000 : Int) < (X.length : Int)
          · have g0 : decide ((5000 : Int) < (X.length : Int)) = true := by simpa using e0
            go_wp2_with fail
            go_ret
            exact ⟨false, rfl, fun h => (by cases h), HB1.out.trans ((HBR.out).mono HB1.out.size)⟩
          have g0 : decide ((5000 : Int) < (X.length : Int)) = false := by simpa using e0
          have E0 := hid e0
          clear e0
          go_wp2_with fail
          go_roundw
          case rel => exact ⟨k + 1, rfl, by omega, FIN.out (by have := E0.out; omega), HBR.out⟩
          case measure => simp [intOf]; omega
        · obtain rfl : k = ss.length := by omega
          have HALL_7 : Hid (∀ x ∈ ss.take (ss.length), x.length ≤ 5000) := HINV
          rw [List.take_length] at HALL_7
          have HBR := hid hbr
          clear hbr
          go_wp2_with fail
          clear p0
          go_loopw [8] (fun v8 wr => ∃ k : Nat, v8 = .int .i64 k ∧ k ≤ hh.length ∧ (∀ x ∈ hh.take (k), x.length ≤ 100 ∧ ∀ y ∈ x, y.length ≤ 30) ∧ Below W1.heap.size W1 wr) (fun v8 _ => hh.length - (intOf v8).toNat)
          case atStart => exact ⟨0, rfl, by omega, by simp, HBR.out⟩
          case round =>
            obtain ⟨k, rfl, hk, hinv, hbr⟩ := hrel
            have p0 : wr.cell? ⟨w.heap.size, 2, none⟩ = some (.slice A3 hh.length c3) := keep_cell hbr f2
            have HINV := hid hinv
            clear hinv
            by_cases hlt : k < hh.length
            · have hlt0 := hlt
              obtain ⟨b1, o1, rfl, hc1⟩ := sl_in H2.out hlt (by omega)
              obtain ⟨v1, hv1, hs1⟩ := R2.out.2 k hlt
              obtain ⟨P1, q1, rfl⟩ := sl_exact hs1 (by omega) (m := hh[k].length) (by rw [svs_length]; omega)
              have hy1 := (sl_len hs1).2
              have d0 : W1.cell? ⟨b1, o1 + k, none⟩ = some (.slice P1 hh[k].length q1) := by have := hc1 0 _ (by simpa using hv1); simpa using this
              have FIN : Hid ((hh[k].length ≤ 100 ∧ ∀ y ∈ hh[k], y.length ≤ 30) → ∀ x ∈ hh.take (k + 1), x.length ≤ 100 ∧ ∀ y ∈ x, y.length ≤ 30) := hid (fun h => take_all (P := fun x : List Bt => x.length ≤ 100 ∧ ∀ y ∈ x, y.length ≤ 30) hlt HINV.out h)
              generalize hh[k] = Y at *
              have HS1 := hid hs1
              have z0 := keep_cell hbr d0
              have HBR := hid hbr
              clear hc1 hv1 hs1 hbr
              by_cases e0 : (100 : Int) < (Y.length : Int)
              · have g0 : decide ((100 : Int) < (Y.length : Int)) = true := by simpa using e0
                go_wp2_with fail
                go_ret
                exact ⟨false, rfl, fun h => (by cases h), HB1.out.trans ((HBR.out).mono HB1.out.size)⟩
              have g0 : decide ((100 : Int) < (Y.length : Int)) = false := by simpa using e0
              have E0 := hid e0
              clear e0
              go_wp2_with fail
              clear z0 p0
              go_loopw [9] (fun v9 wr => ∃ kk : Nat, v9 = .int .i64 kk ∧ kk ≤ Y.length ∧ (∀ y ∈ Y.take kk, y.length ≤ 30) ∧ Below W1.heap.size W1 wr) (fun v9 _ => Y.length - (intOf v9).toNat)
              case atStart => exact ⟨0, rfl, by omega, by simp, HBR.out⟩
              case round =>
                obtain ⟨kk, rfl, hkk, hinv, hbr⟩ := hrel
                have p0 := keep_cell hbr f2
                have z0 := keep_cell hbr d0
                have HINV2 := hid hinv
                clear hinv
                by_cases hlt2 : kk < Y.length
                · have hlt3 := hlt2
                  obtain ⟨b2, o2, rfl, hc2⟩ := sl_in HS1.out hlt2 (by omega)
                  have d1 : W1.cell? ⟨b2, o2 + kk, none⟩ = some (sv Y[kk]) := by have := hc2 0 _ (show _ = some (sv Y[kk]) by simp [svs, hlt2]); simpa using this
                  have z1 := keep_cell hbr d1
                  have FIN2 : Hid (Y[kk].length ≤ 30 → ∀ y ∈ Y.take (kk + 1), y.length ≤ 30) := hid (fun h => take_all (P := fun x : Bt => x.length ≤ 30) hlt2 HINV2.out h)
                  generalize Y[kk] = X at *
                  have hsz := wr_sv X
                  have HBR := hid hbr
                  clear hc2 d1 hbr
                  by_cases e1 : (30 : Int) < (X.length : Int)
                  · have g1 : decide ((30 : Int) < (X.length : Int)) = true := by simpa using e1
                    go_wp2_with fail
                    go_ret
                    exact ⟨false, rfl, fun h => (by cases h), HB1.out.trans ((HBR.out).mono HB1.out.size)⟩
                  have g1 : decide ((30 : Int) < (X.length : Int)) = false := by simpa using e1
                  have EE := hid e1
                  clear e1
                  go_wp2_with fail
                  go_roundw
                  case rel => exact ⟨kk + 1, rfl, by omega, FIN2.out (by have := EE.out; omega), HBR.out⟩
                  case measure => simp [intOf]; omega
                · obtain rfl : kk = Y.length := by omega
                  have HY := HINV2
                  rw [List.take_length] at HY
                  have HBR := hid hbr
                  clear hbr
                  go_wp2_with fail
                  go_roundw
                  case rel => exact ⟨k + 1, rfl, by omega, FIN.out ⟨by have := E0.out; omega, HY.out⟩, HBR.out⟩
                  case measure => simp [intOf]; omega
            · obtain rfl : k = hh.length := by omega
              have HALL_8 : Hid (∀ x ∈ hh.take (hh.length), x.length ≤ 100 ∧ ∀ y ∈ x, y.length ≤ 30) := HINV
              rw [List.take_length] at HALL_8
              have HBR := hid hbr
              clear hbr
              go_wp2_with fail
              clear p0
              go_loopw [10] (fun v10 wr => ∃ k : Nat, v10 = .int .i64 k ∧ k ≤ pp.length ∧ (∀ x ∈ pp.take (k), x.code.length ≤ 1000) ∧ Below W1.heap.size W1 wr) (fun v10 _ => pp.length - (intOf v10).toNat)
              case atStart => exact ⟨0, rfl, by omega, by simp, HBR.out⟩
              case round =>
                obtain ⟨k, rfl, hk, hinv, hbr⟩ := hrel
                have p0 : wr.cell? ⟨w.heap.size, 4, none⟩ = some (.slice A5 pp.length c5) := keep_cell hbr f4
                have HINV := hid hinv
                clear hinv
                by_cases hlt : k < pp.length
                · have hlt0 := hlt
                  obtain ⟨b1, o1, rfl, hc1⟩ := sl_in H4.out hlt (by omega)
                  obtain ⟨v1, hv1, hs1⟩ := R4.out.2 k hlt
                  obtain ⟨P1, q1, rfl⟩ := sl_exact hs1 (by omega) (m := pp[k].code.length) (instrsV_length _)
                  have d0 : W1.cell? ⟨b1, o1 + k * 3 + 2, none⟩ = some (.slice P1 pp[k].code.length q1) := by have := hc1 2 _ (part_get hv1 (by omega : 2 < 3)); simpa [Nat.add_assoc] using this
                  have z0 := keep_cell hbr d0
                  have FIN : Hid (pp[k].code.length ≤ 1000 → ∀ x ∈ pp.take (k + 1), x.code.length ≤ 1000) := hid (fun h => take_all (P := fun x : ProcD => x.code.length ≤ 1000) hlt HINV.out h)
                  have HBR := hid hbr
                  clear hc1 d0 hbr hv1 hs1
                  generalize pp[k].code.length = X at *
                  by_cases e0 : (1000 : Int) < (X : Int)
                  · have g0 : decide ((1000 : Int) < (X : Int)) = true := by simpa using e0
                    go_wp2_with fail
                    go_ret
                    exact ⟨false, rfl, fun h => (by cases h), HB1.out.trans ((HBR.out).mono HB1.out.size)⟩
                  have g0 : decide ((1000 : Int) < (X : Int)) = false := by simpa using e0
                  have E0 := hid e0
                  clear e0
                  go_wp2_with fail
                  go_roundw
                  case rel => exact ⟨k + 1, rfl, by omega, FIN.out (by have := E0.out; omega), HBR.out⟩
                  case measure => simp [intOf]; omega
                · obtain rfl : k = pp.length := by omega
                  have HALL_10 : Hid (∀ x ∈ pp.take (pp.length), x.code.length ≤ 1000) := HINV
                  rw [List.take_length] at HALL_10
                  have HBR := hid hbr
                  clear hbr
                  go_wp2_with fail
                  clear p0
                  go_ret
                  refine ⟨decide ((0 : Int) < L), rfl, fun h => ?_, HB1.out.trans ((HBR.out).mono HB1.out.size)⟩
                  have hL := of_decide_eq_true h
                  obtain ⟨a1, a2⟩ := HFU.out.2.2 hL
                  exact ⟨(show t.length ≤ 1000 by have := E0.out; omega), (show ss.length ≤ 100 by have := E1.out; omega), (show hh.length ≤ 100 by have := E2.out; omega), (show cc.length ≤ 100 by have := E3.out; omega), (show pp.length ≤ 100 by have := E4.out; omega), HALL_7.out, HALL_8.out, ⟨a1, (show cosN cc ≤ 300 by omega)⟩, HALL_10.out⟩
    · have hk2 : k = cc.length := by omega
      subst hk2
      have HBR := hid hbr
      clear hbr
      go_wp2_with fail
      clear p0
      try clear g0
      go_loopw [7] (fun v7 wr => ∃ k : Nat, v7 = .int .i64 k ∧ k ≤ ss.length ∧ (∀ x ∈ ss.take (k), x.length ≤ 5000) ∧ Below W1.heap.size W1 wr) (fun v7 _ => ss.length - (intOf v7).toNat)
      case atStart => exact ⟨0, rfl, by omega, by simp, HBR.out⟩
      case round =>
        obtain ⟨k, rfl, hk, hinv, hbr⟩ := hrel
        have p0 : wr.cell? ⟨w.heap.size, 1, none⟩ = some (.slice A2 ss.length c2) := keep_cell hbr f1
        have HINV := hid hinv
        clear hinv
        by_cases hlt : k < ss.length
        · have hlt0 := hlt
          obtain ⟨b1, o1, rfl, hc1⟩ := sl_in H1.out hlt (by omega)
          have d0 : W1.cell? ⟨b1, o1 + k, none⟩ = some (sv ss[k]) := by have := hc1 0 _ (show _ = some (sv ss[k]) by simp [svs, hlt]); simpa using this
          have z0 := keep_cell hbr d0
          have FIN : Hid (ss[k].length ≤ 5000 → ∀ x ∈ ss.take (k + 1), x.length ≤ 5000) := hid (fun h => take_all (P := fun x : Bt => x.length ≤ 5000) hlt HINV.out h)
          generalize ss[k] = X at *
          have hsz := wr_sv X
          have HBR := hid hbr
          clear hc1 d0 hbr
          by_cases e0 : (5000 : Int) < (X.length : Int)
          · have g0 : decide ((5000 : Int) < (X.length : Int)) = true := by simpa using e0
            go_wp2_with fail
            go_ret
            exact ⟨false, rfl, fun h => (by cases h), HB1.out.trans ((HBR.out).mono HB1.out.size)⟩
          have g0 : decide ((5000 : Int) < (X.length : Int)) = false := by simpa using e0
          have E0 := hid e0
          clear e0
          go_wp2_with fail
          go_roundw
          case rel => exact ⟨k + 1, rfl, by omega, FIN.out (by have := E0.out; omega), HBR.out⟩
          case measure => simp [intOf]; omega
        · obtain rfl : k = ss.length := by omega
          have HALL_7 : Hid (∀ x ∈ ss.take (ss.length), x.length ≤ 5000) := HINV
          rw [List.take_length] at HALL_7
          have HBR := hid hbr
          clear hbr
          go_wp2_with fail
          clear p0
          go_loopw [8] (fun v8 wr => ∃ k : Nat, v8 = .int .i64 k ∧ k ≤ hh.length ∧ (∀ x ∈ hh.take (k), x.length ≤ 100 ∧ ∀ y ∈ x, y.length ≤ 30) ∧ Below W1.heap.size W1 wr) (fun v8 _ => hh.length - (intOf v8).toNat)
          case atStart => exact ⟨0, rfl, by omega, by simp, HBR.out⟩
          case round =>
            obtain ⟨k, rfl, hk, hinv, hbr⟩ := hrel
            have p0 : wr.cell? ⟨w.heap.size, 2, none⟩ = some (.slice A3 hh.length c3) := keep_cell hbr f2
            have HINV := hid hinv
            clear hinv
            by_cases hlt : k < hh.length
            · have hlt0 := hlt
              obtain ⟨b1, o1, rfl, hc1⟩ := sl_in H2.out hlt (by omega)
              obtain ⟨v1, hv1, hs1⟩ := R2.out.2 k hlt
              obtain ⟨P1, q1, rfl⟩ := sl_exact hs1 (by omega) (m := hh[k].length) (by rw [svs_length]; omega)
              have hy1 := (sl_len hs1).2
              have d0 : W1.cell? ⟨b1, o1 + k, none⟩ = some (.slice P1 hh[k].length q1) := by have := hc1 0 _ (by simpa using hv1); simpa using this
              have FIN : Hid ((hh[k].length ≤ 100 ∧ ∀ y ∈ hh[k], y.length ≤ 30) → ∀ x ∈ hh.take (k + 1), x.length ≤ 100 ∧ ∀ y ∈ x, y.length ≤ 30) := hid (fun h => take_all (P := fun x : List Bt => x.length ≤ 100 ∧ ∀ y ∈ x, y.length ≤ 30) hlt HINV.out h)
              generalize hh[k] = Y at *
              have HS1 := hid hs1
              have z0 := keep_cell hbr d0
              have HBR := hid hbr
              clear hc1 hv1 hs1 hbr
              by_cases e0 : (100 : Int) < (Y.length : Int)
              · have g0 : decide ((100 : Int) < (Y.length : Int)) = true := by simpa using e0
                go_wp2_with fail
                go_ret
                exact ⟨false, rfl, fun h => (by cases h), HB1.out.trans ((HBR.out).mono HB1.out.size)⟩
              have g0 : decide ((100 : Int) < (Y.length : Int)) = false := by simpa using e0
              have E0 := hid e0
              clear e0
              go_wp2_with fail
              clear z0 p0
              go_loopw [9] (fun v9 wr => ∃ kk : Nat, v9 = .int .i64 kk ∧ kk ≤ Y.length ∧ (∀ y ∈ Y.take kk, y.length ≤ 30) ∧ Below W1.heap.size W1 wr) (fun v9 _ => Y.length - (intOf v9).toNat)
              case atStart => exact ⟨0, rfl, by omega, by simp, HBR.out⟩
              case round =>
                obtain ⟨kk, rfl, hkk, hinv, hbr⟩ := hrel
                have p0 := keep_cell hbr f2
                have z0 := keep_cell hbr d0
                have HINV2 := hid hinv
                clear hinv
                by_cases hlt2 : kk < Y.length
                · have hlt3 := hlt2
                  obtain ⟨b2, o2, rfl, hc2⟩ := sl_in HS1.out hlt2 (by omega)
                  have d1 : W1.cell? ⟨b2, o2 + kk, none⟩ = some (sv Y[kk]) := by have := hc2 0 _ (show _ = some (sv Y[kk]) by simp [svs, hlt2]); simpa using this
                  have z1 := keep_cell hbr d1
                  have FIN2 : Hid (Y[kk].length ≤ 30 → ∀ y ∈ Y.take (kk + 1), y.length ≤ 30) := hid (fun h => take_all (P := fun x : Bt => x.length ≤ 30) hlt2 HINV2.out h)
                  generalize Y[kk] = X at *
                  have hsz := wr_sv X
                  have HBR := hid hbr
                  clear hc2 d1 hbr
                  by_cases e1 : (30 : Int) < (X.length : Int)
                  · have g1 : decide ((30 : Int) < (X.length : Int)) = true := by simpa using e1
                    go_wp2_with fail
                    go_ret
                    exact ⟨false, rfl, fun h => (by cases h), HB1.out.trans ((HBR.out).mono HB1.out.size)⟩
                  have g1 : decide ((30 : Int) < (X.length : Int)) = false := by simpa using e1
                  have EE := hid e1
                  clear e1
                  go_wp2_with fail
                  go_roundw
                  case rel => exact ⟨kk + 1, rfl, by omega, FIN2.out (by have := EE.out; omega), HBR.out⟩
                  case measure => simp [intOf]; omega
                · obtain rfl : kk = Y.length := by omega
                  have HY := HINV2
                  rw [List.take_length] at HY
                  have HBR := hid hbr
                  clear hbr
                  go_wp2_with fail
                  go_roundw
                  case rel => exact ⟨k + 1, rfl, by omega, FIN.out ⟨by have := E0.out; omega, HY.out⟩, HBR.out⟩
                  case measure => simp [intOf]; omega
            · obtain rfl : k = hh.length := by omega
              have HALL_8 : Hid (∀ x ∈ hh.take (hh.length), x.length ≤ 100 ∧ ∀ y ∈ x, y.length ≤ 30) := HINV
              rw [List.take_length] at HALL_8
              have HBR := hid hbr
              clear hbr
              go_wp2_with fail
              clear p0
              go_loopw [10] (fun v10 wr => ∃ k : Nat, v10 = .int .i64 k ∧ k ≤ pp.length ∧ (∀ x ∈ pp.take (k), x.code.length ≤ 1000) ∧ Below W1.heap.size W1 wr) (fun v10 _ => pp.length - (intOf v10).toNat)
              case atStart => exact ⟨0, rfl, by omega, by simp, HBR.out⟩
              case round =>
                obtain ⟨k, rfl, hk, hinv, hbr⟩ := hrel
                have p0 : wr.cell? ⟨w.heap.size, 4, none⟩ = some (.slice A5 pp.length c5) := keep_cell hbr f4
                have HINV := hid hinv
                clear hinv
                by_cases hlt : k < pp.length
                · have hlt0 := hlt
                  obtain ⟨b1, o1, rfl, hc1⟩ := sl_in H4.out hlt (by omega)
                  obtain ⟨v1, hv1, hs1⟩ := R4.out.2 k hlt
                  obtain ⟨P1, q1, rfl⟩ := sl_exact hs1 (by omega) (m := pp[k].code.length) (instrsV_length _)
                  have d0 : W1.cell? ⟨b1, o1 + k * 3 + 2, none⟩ = some (.slice P1 pp[k].code.length q1) := by have := hc1 2 _ (part_get hv1 (by omega : 2 < 3)); simpa [Nat.add_assoc] using this
                  have z0 := keep_cell hbr d0
                  have FIN : Hid (pp[k].code.length ≤ 1000 → ∀ x ∈ pp.take (k + 1), x.code.length ≤ 1000) := hid (fun h => take_all (P := fun x : ProcD => x.code.length ≤ 1000) hlt HINV.out h)
                  have HBR := hid hbr
                  clear hc1 d0 hbr hv1 hs1
                  generalize pp[k].code.length = X at *
                  by_cases e0 : (1000 : Int) < (X : Int)
                  · have g0 : decide ((1000 : Int) < (X : Int)) = true := by simpa using e0
                    go_wp2_with fail
                    go_ret
                    exact ⟨false, rfl, fun h => (by cases h), HB1.out.trans ((HBR.out).mono HB1.out.size)⟩
                  have g0 : decide ((1000 : Int) < (X : Int)) = false := by simpa using e0
                  have E0 := hid e0
                  clear e0
                  go_wp2_with fail
                  go_roundw
                  case rel => exact ⟨k + 1, rfl, by omega, FIN.out (by have := E0.out; omega), HBR.out⟩
                  case measure => simp [intOf]; omega
                · obtain rfl : k = pp.length := by omega
                  have HALL_10 : Hid (∀ x ∈ pp.take (pp.length), x.code.length ≤ 1000) := HINV
                  rw [List.take_length] at HALL_10
                  have HBR := hid hbr
                  clear hbr
                  go_wp2_with fail
                  clear p0
                  go_ret
                  refine ⟨decide ((0 : Int) < L), rfl, fun h => ?_, HB1.out.trans ((HBR.out).mono HB1.out.size)⟩
                  have hL := of_decide_eq_true h
                  obtain ⟨a1, a2⟩ := HFU.out.2.2 hL
                  exact ⟨(show t.length ≤ 1000 by have := E0.out; omega), (show ss.length ≤ 100 by have := E1.out; omega), (show hh.length ≤ 100 by have := E2.out; omega), (show cc.length ≤ 100 by have := E3.out; omega), (show pp.length ≤ 100 by have := E4.out; omega), HALL_7.out, HALL_8.out, ⟨a1, (show cosN cc ≤ 300 by omega)⟩, HALL_10.out⟩
end Go.Proofs.Ytpnggkkfoipfhaa
