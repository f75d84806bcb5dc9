/- The law's sizes: deep, names, sized. -/
import Derived.Test.YtpnggkkfoipfhaaCL
set_option linter.unusedVariables false
namespace Go.Proofs.Ytpnggkkfoipfhaa
open Go.RowKit

mutual
def coN : CoD → Nat
  | .mk _ _ _ f u => 1 + (cosN f + cosN u)
def cosN : List CoD → Nat
  | [] => 0
  | c :: l => coN c + cosN l
end
mutual
def SmallCo : CoD → Prop
  | .mk t n m f u => t.length ≤ 1000 ∧ n.length ≤ 1000 ∧ m.length ≤ 1000 ∧ SmallCos f ∧ SmallCos u
def SmallCos : List CoD → Prop
  | [] => True
  | c :: l => SmallCo c ∧ SmallCos l
end
theorem smallCos_mem : ∀ {l : List CoD}, SmallCos l ↔ ∀ x ∈ l, SmallCo x
  | [] => by simp [SmallCos]
  | c :: l => by
    rw [SmallCos, smallCos_mem (l := l)]
    simp
theorem cosN_app : ∀ (l m : List CoD), cosN (l ++ m) = cosN l + cosN m
  | [], m => by simp [cosN]
  | c :: l, m => by
    rw [List.cons_append, cosN, cosN, cosN_app l m]; omega
/-- What deep tells of one coercion; of some of them, of which so many may be. -/
def DeepOk (c : CoD) (most : Nat) (left r : Int) : Prop := 0 ≤ r ∧ r ≤ left ∧ (0 < r → coH c ≤ most ∧ SmallCo c ∧ (coN c : Int) + r ≤ left)
def Fit (most : Nat) (L0 : Int) (l : List CoD) (L : Int) : Prop := 0 ≤ L ∧ L ≤ L0 ∧ (0 < L → (∀ x ∈ l, coH x ≤ most ∧ SmallCo x) ∧ (cosN l : Int) + L ≤ L0)
theorem Fit.none (most : Nat) {L0 : Int} (h : 0 ≤ L0) : Fit most L0 [] L0 := ⟨h, Int.le_refl _, fun _ => ⟨by simp, by simp [cosN]⟩⟩
theorem Fit.zero {most : Nat} {L0 L : Int} {l m : List CoD} (h : Fit most L0 l L) (h0 : ¬ 0 < L) : Fit most L0 m L := ⟨h.1, h.2.1, fun k => absurd k h0⟩
theorem Fit.step {most : Nat} {L0 L r : Int} {l : List CoD} {x : CoD} (h : Fit most L0 l L) (h0 : 0 < L) (k : DeepOk x most L r) : Fit most L0 (l ++ [x]) r := by
  obtain ⟨a1, a2, a3⟩ := h
  obtain ⟨b1, b2, b3⟩ := k
  obtain ⟨c1, c2⟩ := a3 h0
  refine ⟨b1, by omega, fun hr => ?_⟩
  obtain ⟨d1, d2, d3⟩ := b3 hr
  refine ⟨fun y hy => ?_, ?_⟩
  · rcases List.mem_append.1 hy with hy | hy
    · exact c1 y hy
    · rw [List.mem_singleton] at hy; subst hy; exact ⟨d1, d2⟩
  · rw [cosN_app]; simp only [cosN]; omega
theorem Fit.deep {most : Nat} {left r : Int} {t : List Int} {n : List (Bt × Int)} {m : List Bt} {f u : List CoD} (h : Fit most (left - 1) (f ++ u) r) (ht : ¬ 1000 < (t.length : Int)) (hn : ¬ 1000 < (n.length : Int)) (hm : ¬ 1000 < (m.length : Int)) : DeepOk (.mk t n m f u) (most + 1) left r := by
  obtain ⟨a1, a2, a3⟩ := h
  refine ⟨a1, by omega, fun hr => ?_⟩
  obtain ⟨c1, c2⟩ := a3 hr
  refine ⟨?_, ?_, ?_⟩
  · rw [coH]
    have h1 : cosH f ≤ most := cosH_mem.2 fun x hx => (c1 x (List.mem_append_left _ hx)).1
    have h2 : cosH u ≤ most := cosH_mem.2 fun x hx => (c1 x (List.mem_append_right _ hx)).1
    omega
  · rw [SmallCo]
    exact ⟨by omega, by omega, by omega, smallCos_mem.2 fun x hx => (c1 x (List.mem_append_left _ hx)).2, smallCos_mem.2 fun x hx => (c1 x (List.mem_append_right _ hx)).2⟩
  · rw [coN]; rw [cosN_app] at c2; omega
theorem DeepOk.zero {c : CoD} {most : Nat} {left : Int} (h : 0 < left) : DeepOk c most left 0 := ⟨Int.le_refl _, by omega, fun h => absurd h (by omega)⟩
theorem take_one {α : Type} {l : List α} {k : Nat} (h : k < l.length) : l.take (k + 1) = l.take k ++ [l[k]] := List.take_succ_eq_append_getElem h

def DeepC (c : CoD) : Prop := ∀ (w : World) (x : List Value) (most : Nat) (left : Int), CoR w w.heap.size x c → most ≤ 1000 → 0 < left → left ≤ 300 →
    Calls Try.prog 16 #[.agg x.toArray, .int .i64 most, .int .i64 left] w fun e w' => ∃ r, e = .returned (.int .i64 r) ∧ DeepOk c most left r ∧ Below w.heap.size w w'
set_option maxRecDepth 100000 in
set_option maxHeartbeats 8000000 in
theorem deep_step (t : List Int) (n : List (Bt × Int)) (m : List Bt) (f u : List CoD) (Hf : ∀ x ∈ f, DeepC x) (Hu : ∀ x ∈ u, DeepC x) : DeepC (.mk t n m f u) := by
  intro w x most left ha hmost hl0 hl3
  obtain ⟨A1, c1, A2, c2, A3, c3, A4, c4, A5, c5, xf, xu, rfl, s1, s2, s3, s4, r4, s5, r5⟩ := co_parts ha
  have l1 := (sl_len s1).2; have l2 := (sl_len s2).2; have l3 := (sl_len s3).2; have l4 := (sl_len s4).2; have l5 := (sl_len s5).2
  clear ha
  have hz1 := heap_alloc_new w (.cells #[.slice A1 t.length c1, .slice A2 n.length c2, .slice A3 m.length c3, .slice A4 f.length c4, .slice A5 u.length c5] 42)
  obtain ⟨W1, hW1⟩ : ∃ W1, W1 = w.alloc (.cells #[.slice A1 t.length c1, .slice A2 n.length c2, .slice A3 m.length c3, .slice A4 f.length c4, .slice A5 u.length c5] 42) := ⟨_, rfl⟩
  have hb1 : Below w.heap.size w W1 := by rw [hW1]; exact (Below.refl _ _).alloc (Nat.le_refl _) _
  rw [← hW1] at hz1
  have HWE := hid hW1
  have HB1 := hid hb1
  have HBS := hid hb1.size
  have f3 : W1.cell? ⟨w.heap.size, 3, none⟩ = some (.slice A4 f.length c4) := (cell_of_row _ _ _ _ _ _ hz1).trans rfl
  have f4 : W1.cell? ⟨w.heap.size, 4, none⟩ = some (.slice A5 u.length c5) := (cell_of_row _ _ _ _ _ _ hz1).trans rfl
  have H3 : Hid (Sl W1 w.heap.size 5 (.slice A4 f.length c4) xf) := hid (Sl.below s4 hb1)
  have R3 := hid (r4.keep hb1)
  have H4 : Hid (Sl W1 w.heap.size 5 (.slice A5 u.length c5) xu) := hid (Sl.below s5 hb1)
  have R4 := hid (r5.keep hb1)
  have HF := hid Hf
  have HU := hid Hu
  clear s1 s2 s3 s4 s5 r4 r5 hz1 hb1 hW1 Hf Hu
  have HZ : Hid (DeepOk (.mk t n m f u) most left 0) := hid (DeepOk.zero hl0)
  by_cases e0 : most = 0
  · have g0 : (((most : Int) == 0) = true) := by simp [e0]
    clear f3 f4
    go_enter Try.func16, Try.ntmps16
    go_wp2_with fail
    go_ret
    exact ⟨0, rfl, HZ.out, by rw [← HWE.out]; exact HB1.out⟩
  have g0 : (((most : Int) == 0) = false) := by simp [e0]
  by_cases e1 : 1000 < (t.length : Int)
  · have g1 : (decide ((1000 : Int) < (t.length : Int)) = true) := by simp [e1]
    clear f3 f4
    go_enter Try.func16, Try.ntmps16
    go_wp2_with fail
    go_ret
    exact ⟨0, rfl, HZ.out, by rw [← HWE.out]; exact HB1.out⟩
  have g1 : (decide ((1000 : Int) < (t.length : Int)) = false) := by simp; omega
  by_cases e2 : 1000 < (n.length : Int)
  · have g2 : (decide ((1000 : Int) < (n.length : Int)) = true) := by simp [e2]
    clear f3 f4
    go_enter Try.func16, Try.ntmps16
    go_wp2_with fail
    go_ret
    exact ⟨0, rfl, HZ.out, by rw [← HWE.out]; exact HB1.out⟩
  have g2 : (decide ((1000 : Int) < (n.length : Int)) = false) := by simp; omega
  by_cases e3 : 1000 < (m.length : Int)
  · have g3 : (decide ((1000 : Int) < (m.length : Int)) = true) := by simp [e3]
    clear f3 f4
    go_enter Try.func16, Try.ntmps16
    go_wp2_with fail
    go_ret
    exact ⟨0, rfl, HZ.out, by rw [← HWE.out]; exact HB1.out⟩
  have g3 : (decide ((1000 : Int) < (m.length : Int)) = false) := by simp; omega
  by_cases e4 : left < (f.length : Int)
  · have g4 : (decide (left < (f.length : Int)) = true) := by simp [e4]
    clear f3 f4
    go_enter Try.func16, Try.ntmps16
    go_wp2_with fail
    go_ret
    exact ⟨0, rfl, HZ.out, by rw [← HWE.out]; exact HB1.out⟩
  have g4 : (decide (left < (f.length : Int)) = false) := by simp; omega
  by_cases e5 : left < (u.length : Int)
  · have g5 : (decide (left < (u.length : Int)) = true) := by simp [e5]
    clear f3 f4
    go_enter Try.func16, Try.ntmps16
    go_wp2_with fail
    go_ret
    exact ⟨0, rfl, HZ.out, by rw [← HWE.out]; exact HB1.out⟩
  have g5 : (decide (left < (u.length : Int)) = false) := by simp; omega
  obtain ⟨q, rfl⟩ : ∃ q, most = q + 1 := ⟨most - 1, by omega⟩
  have E1 := hid e1; have E2 := hid e2; have E3 := hid e3
  clear e0 e1 e2 e3 e4 e5 HZ
  go_enter Try.func16, Try.ntmps16
  go_wp2_with fail
  clear g0 g1 g2 g3 g4 g5
  go_loopw [2, 7] (fun v2 v7 wr => ∃ (k : Nat) (L : Int), v2 = .int .i64 L ∧ v7 = .int .i64 k ∧ k ≤ f.length ∧ Fit q (left - 1) ((f.take k)) L ∧ Below W1.heap.size W1 wr) (fun _ v7 _ => f.length - (intOf v7).toNat)
  case atStart => exact ⟨0, _, rfl, rfl, by omega, Fit.none q (by omega), by rw [← HWE.out]; exact Below.refl _ _⟩
  case round =>
    obtain ⟨k, L, rfl, rfl, hk, hfit, hbr⟩ := hrel
    have p0 : wr.cell? ⟨w.heap.size, 3, none⟩ = some (.slice A4 f.length c4) := keep_cell hbr f3
    have HFT := hid hfit
    obtain ⟨hL0, hL1, _⟩ := hfit
    by_cases hlt : k < f.length
    · by_cases hL : 0 < L
      · have hlt0 := hlt
        have g0 : decide ((0 : Int) < L) = true := by simpa using hL
        obtain ⟨b1, o1, rfl, hc1⟩ := sl_in H3.out hlt (by omega)
        have hr1 := R3.out.at k hlt
        obtain ⟨P11, m11, q11, P12, m12, q12, P13, m13, q13, P14, m14, q14, P15, m15, q15, hv1⟩ := hr1.slices
        rw [hv1] at hr1
        have d10 : W1.cell? ⟨b1, o1 + k * 5, none⟩ = some (.slice P11 m11 q11) := by have := hc1 0 _ (part_get hv1 (by omega : 0 < 5)); simpa [Nat.add_assoc] using this
        have d11 : W1.cell? ⟨b1, o1 + k * 5 + 1, none⟩ = some (.slice P12 m12 q12) := by have := hc1 1 _ (part_get hv1 (by omega : 1 < 5)); simpa [Nat.add_assoc] using this
        have d12 : W1.cell? ⟨b1, o1 + k * 5 + 2, none⟩ = some (.slice P13 m13 q13) := by have := hc1 2 _ (part_get hv1 (by omega : 2 < 5)); simpa [Nat.add_assoc] using this
        have d13 : W1.cell? ⟨b1, o1 + k * 5 + 3, none⟩ = some (.slice P14 m14 q14) := by have := hc1 3 _ (part_get hv1 (by omega : 3 < 5)); simpa [Nat.add_assoc] using this
        have d14 : W1.cell? ⟨b1, o1 + k * 5 + 4, none⟩ = some (.slice P15 m15 q15) := by have := hc1 4 _ (part_get hv1 (by omega : 4 < 5)); simpa [Nat.add_assoc] using this
        have z0 := keep_cell hbr d10
        have z1 := keep_cell hbr d11
        have z2 := keep_cell hbr d12
        have z3 := keep_cell hbr d13
        have z4 := keep_cell hbr d14
        have HP := hid ((HF).out _ (List.getElem_mem hlt) wr [.slice P11 m11 q11, .slice P12 m12 q12, .slice P13 m13 q13, .slice P14 m14 q14, .slice P15 m15 q15] q L (hr1.far HBS.out hbr) (by omega) hL (by omega))
        have FIN : Hid (∀ r, DeepOk f[k] q L r → Fit q (left - 1) ((f.take (k + 1))) r) := hid (fun r h => by rw [take_one hlt]; exact HFT.out.step hL h)
        generalize f[k] = X at *
        have HBR := hid hbr
        clear hc1 hv1 hr1 d10 d11 d12 d13 d14 hbr
        go_wp2_with fail
        refine HP.out.mono ?_
        rintro e w5 ⟨r, rfl, hd5, hb5⟩
        have HD5 := hid hd5
        have HB5 := hid (HBR.out.trans (hb5.mono HBR.out.size))
        clear hd5 hb5 z0 z1 z2 z3 z4 p0
        go_wp2_with fail
        go_roundw
        case rel => exact ⟨k + 1, r, rfl, rfl, by omega, FIN.out r HD5.out, HB5.out⟩
        case measure => simp [intOf]; omega
      · have g0 : decide ((0 : Int) < L) = false := by simpa using hL
        have HFU : Hid (Fit q (left - 1) (f) L) := hid (HFT.out.zero hL)
        have HBR := hid hbr
        clear hbr
        go_wp2_with fail
        clear p0
        go_loopw [2, 8] (fun v2 v8 wr => ∃ (k : Nat) (L : Int), v2 = .int .i64 L ∧ v8 = .int .i64 k ∧ k ≤ u.length ∧ Fit q (left - 1) (f ++ (u.take k)) L ∧ Below W1.heap.size W1 wr) (fun _ v8 _ => u.length - (intOf v8).toNat)
        case atStart => exact ⟨0, _, rfl, rfl, by omega, by simpa using HFU.out, HBR.out⟩
        case round =>
          obtain ⟨k, L, rfl, rfl, hk, hfit, hbr⟩ := hrel
          have p0 : wr.cell? ⟨w.heap.size, 4, none⟩ = some (.slice A5 u.length c5) := keep_cell hbr f4
          have HFT := hid hfit
          obtain ⟨hL0, hL1, _⟩ := hfit
          by_cases hlt : k < u.length
          · by_cases hL : 0 < L
            · have hlt0 := hlt
              have g0 : decide ((0 : Int) < L) = true := by simpa using hL
              obtain ⟨b1, o1, rfl, hc1⟩ := sl_in H4.out hlt (by omega)
              have hr1 := R4.out.at k hlt
              obtain ⟨P11, m11, q11, P12, m12, q12, P13, m13, q13, P14, m14, q14, P15, m15, q15, hv1⟩ := hr1.slices
              rw [hv1] at hr1
              have d10 : W1.cell? ⟨b1, o1 + k * 5, none⟩ = some (.slice P11 m11 q11) := by have := hc1 0 _ (part_get hv1 (by omega : 0 < 5)); simpa [Nat.add_assoc] using this
              have d11 : W1.cell? ⟨b1, o1 + k * 5 + 1, none⟩ = some (.slice P12 m12 q12) := by have := hc1 1 _ (part_get hv1 (by omega : 1 < 5)); simpa [Nat.add_assoc] using this
              have d12 : W1.cell? ⟨b1, o1 + k * 5 + 2, none⟩ = some (.slice P13 m13 q13) := by have := hc1 2 _ (part_get hv1 (by omega : 2 < 5)); simpa [Nat.add_assoc] using this
              have d13 : W1.cell? ⟨b1, o1 + k * 5 + 3, none⟩ = some (.slice P14 m14 q14) := by have := hc1 3 _ (part_get hv1 (by omega : 3 < 5)); simpa [Nat.add_assoc] using this
              have d14 : W1.cell? ⟨b1, o1 + k * 5 + 4, none⟩ = some (.slice P15 m15 q15) := by have := hc1 4 _ (part_get hv1 (by omega : 4 < 5)); simpa [Nat.add_assoc] using this
              have z0 := keep_cell hbr d10
              have z1 := keep_cell hbr d11
              have z2 := keep_cell hbr d12
              have z3 := keep_cell hbr d13
              have z4 := keep_cell hbr d14
              have HP := hid ((HU).out _ (List.getElem_mem hlt) wr [.slice P11 m11 q11, .slice P12 m12 q12, .slice P13 m13 q13, .slice P14 m14 q14, .slice P15 m15 q15] q L (hr1.far HBS.out hbr) (by omega) hL (by omega))
              have FIN : Hid (∀ r, DeepOk u[k] q L r → Fit q (left - 1) (f ++ (u.take (k + 1))) r) := hid (fun r h => by rw [take_one hlt]; rw [← List.append_assoc]; exact HFT.out.step hL h)
              generalize u[k] = X at *
              have HBR := hid hbr
              clear hc1 hv1 hr1 d10 d11 d12 d13 d14 hbr
              go_wp2_with fail
              refine HP.out.mono ?_
              rintro e w5 ⟨r, rfl, hd5, hb5⟩
              have HD5 := hid hd5
              have HB5 := hid (HBR.out.trans (hb5.mono HBR.out.size))
              clear hd5 hb5 z0 z1 z2 z3 z4 p0
              go_wp2_with fail
              go_roundw
              case rel => exact ⟨k + 1, r, rfl, rfl, by omega, FIN.out r HD5.out, HB5.out⟩
              case measure => simp [intOf]; omega
            · have g0 : decide ((0 : Int) < L) = false := by simpa using hL
              have HFU : Hid (Fit q (left - 1) (f ++ u) L) := hid (HFT.out.zero hL)
              have HBR := hid hbr
              clear hbr
              go_wp2_with fail
              clear p0
              go_ret
              exact ⟨L, rfl, HFU.out.deep (by have := E1.out; omega) (by have := E2.out; omega) (by have := E3.out; omega), HB1.out.trans (HBR.out.mono HB1.out.size)⟩
          · obtain rfl : k = u.length := by omega
            have HFU : Hid (Fit q (left - 1) (f ++ u) L) := hid (by have := HFT.out; rw [List.take_length] at this; exact this)
            have HBR := hid hbr
            clear hbr
            go_wp2_with fail
            clear p0
            go_ret
            exact ⟨L, rfl, HFU.out.deep (by have := E1.out; omega) (by have := E2.out; omega) (by have := E3.out; omega), HB1.out.trans (HBR.out.mono HB1.out.size)⟩
    · obtain rfl : k = f.length := by omega
      have HFU : Hid (Fit q (left - 1) (f) L) := hid (by have := HFT.out; rw [List.take_length] at this; exact this)
      have HBR := hid hbr
      clear hbr
      go_wp2_with fail
      clear p0
      go_loopw [2, 8] (fun v2 v8 wr => ∃ (k : Nat) (L : Int), v2 = .int .i64 L ∧ v8 = .int .i64 k ∧ k ≤ u.length ∧ Fit q (left - 1) (f ++ (u.take k)) L ∧ Below W1.heap.size W1 wr) (fun _ v8 _ => u.length - (intOf v8).toNat)
      case atStart => exact ⟨0, _, rfl, rfl, by omega, by simpa using HFU.out, HBR.out⟩
      case round =>
        obtain ⟨k, L, rfl, rfl, hk, hfit, hbr⟩ := hrel
        have p0 : wr.cell? ⟨w.heap.size, 4, none⟩ = some (.slice A5 u.length c5) := keep_cell hbr f4
        have HFT := hid hfit
        obtain ⟨hL0, hL1, _⟩ := hfit
        by_cases hlt : k < u.length
        · by_cases hL : 0 < L
          · have hlt0 := hlt
            have g0 : decide ((0 : Int) < L) = true := by simpa using hL
            obtain ⟨b1, o1, rfl, hc1⟩ := sl_in H4.out hlt (by omega)
            have hr1 := R4.out.at k hlt
            obtain ⟨P11, m11, q11, P12, m12, q12, P13, m13, q13, P14, m14, q14, P15, m15, q15, hv1⟩ := hr1.slices
            rw [hv1] at hr1
            have d10 : W1.cell? ⟨b1, o1 + k * 5, none⟩ = some (.slice P11 m11 q11) := by have := hc1 0 _ (part_get hv1 (by omega : 0 < 5)); simpa [Nat.add_assoc] using this
            have d11 : W1.cell? ⟨b1, o1 + k * 5 + 1, none⟩ = some (.slice P12 m12 q12) := by have := hc1 1 _ (part_get hv1 (by omega : 1 < 5)); simpa [Nat.add_assoc] using this
            have d12 : W1.cell? ⟨b1, o1 + k * 5 + 2, none⟩ = some (.slice P13 m13 q13) := by have := hc1 2 _ (part_get hv1 (by omega : 2 < 5)); simpa [Nat.add_assoc] using this
            have d13 : W1.cell? ⟨b1, o1 + k * 5 + 3, none⟩ = some (.slice P14 m14 q14) := by have := hc1 3 _ (part_get hv1 (by omega : 3 < 5)); simpa [Nat.add_assoc] using this
            have d14 : W1.cell? ⟨b1, o1 + k * 5 + 4, none⟩ = some (.slice P15 m15 q15) := by have := hc1 4 _ (part_get hv1 (by omega : 4 < 5)); simpa [Nat.add_assoc] using this
            have z0 := keep_cell hbr d10
            have z1 := keep_cell hbr d11
            have z2 := keep_cell hbr d12
            have z3 := keep_cell hbr d13
            have z4 := keep_cell hbr d14
            have HP := hid ((HU).out _ (List.getElem_mem hlt) wr [.slice P11 m11 q11, .slice P12 m12 q12, .slice P13 m13 q13, .slice P14 m14 q14, .slice P15 m15 q15] q L (hr1.far HBS.out hbr) (by omega) hL (by omega))
            have FIN : Hid (∀ r, DeepOk u[k] q L r → Fit q (left - 1) (f ++ (u.take (k + 1))) r) := hid (fun r h => by rw [take_one hlt]; rw [← List.append_assoc]; exact HFT.out.step hL h)
            generalize u[k] = X at *
            have HBR := hid hbr
            clear hc1 hv1 hr1 d10 d11 d12 d13 d14 hbr
            go_wp2_with fail
            refine HP.out.mono ?_
            rintro e w5 ⟨r, rfl, hd5, hb5⟩
            have HD5 := hid hd5
            have HB5 := hid (HBR.out.trans (hb5.mono HBR.out.size))
            clear hd5 hb5 z0 z1 z2 z3 z4 p0
            go_wp2_with fail
            go_roundw
            case rel => exact ⟨k + 1, r, rfl, rfl, by omega, FIN.out r HD5.out, HB5.out⟩
            case measure => simp [intOf]; omega
          · have g0 : decide ((0 : Int) < L) = false := by simpa using hL
            have HFU : Hid (Fit q (left - 1) (f ++ u) L) := hid (HFT.out.zero hL)
            have HBR := hid hbr
            clear hbr
            go_wp2_with fail
            clear p0
            go_ret
            exact ⟨L, rfl, HFU.out.deep (by have := E1.out; omega) (by have := E2.out; omega) (by have := E3.out; omega), HB1.out.trans (HBR.out.mono HB1.out.size)⟩
        · obtain rfl : k = u.length := by omega
          have HFU : Hid (Fit q (left - 1) (f ++ u) L) := hid (by have := HFT.out; rw [List.take_length] at this; exact this)
          have HBR := hid hbr
          clear hbr
          go_wp2_with fail
          clear p0
          go_ret
          exact ⟨L, rfl, HFU.out.deep (by have := E1.out; omega) (by have := E2.out; omega) (by have := E3.out; omega), HB1.out.trans (HBR.out.mono HB1.out.size)⟩
theorem deep_all : ∀ (k : Nat) (c : CoD), SizeOf.sizeOf c < k → DeepC c
  | 0, c, h => absurd h (by omega)
  | k + 1, .mk t n m f u, h => by
    simp only [CoD.mk.sizeOf_spec] at h
    exact deep_step t n m f u (fun x hx => deep_all k x (by have := List.sizeOf_lt_of_mem hx; omega)) (fun x hx => deep_all k x (by have := List.sizeOf_lt_of_mem hx; omega))
theorem deep_any (c : CoD) : DeepC c := deep_all _ c (Nat.lt_succ_self _)
end Go.Proofs.Ytpnggkkfoipfhaa
