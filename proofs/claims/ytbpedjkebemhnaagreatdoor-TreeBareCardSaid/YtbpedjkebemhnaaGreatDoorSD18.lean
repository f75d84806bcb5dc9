/- GO, YJ, VE, YQ -/
import Derived.Test.YtbpedjkebemhnaaGreatDoorSD06
import Derived.Test.YtbpedjkebemhnaaGreatDoorSD17
import Derived.Deep.Cut
import Derived.Deep.CutBlock
import Derived.Deep.CutRange
import Derived.Test.YtbpedjkebemhnaaGreatDoorSD16
import Derived.Test.YtbpedjkebemhnaaGreatDoorSD08
set_option linter.unusedSimpArgs false
set_option linter.unusedVariables false
section
/- Texts that belong together: UV, UW. -/
/- The law's measure of a type: heavy. -/
set_option linter.unusedVariables false
namespace Go.Proofs.YtbpedjkebemhnaaGreatDoor
open Go.RowKit

def HvC (t : TyD) : Prop := ∀ (w : World) (z : List Value) (m : Nat), TyR w w.heap.size z t → 1 ≤ m → m ≤ 1000000 →
  Calls Tryz.prog 14 #[.agg z.toArray, .int .i64 (m : Int)] w fun e w' => e = .returned (.int .i64 (heavyB t m : Nat)) ∧ Below w.heap.size w w'
theorem drop_cons {α : Type} {l : List α} {i : Nat} (h : i < l.length) : l.drop i = l[i] :: l.drop (i + 1) := List.drop_eq_getElem_cons h
set_option maxRecDepth 100000 in
set_option maxHeartbeats 4000000 in
theorem heavy_step (t : TyD) (ih : ∀ x ∈ t.kids, HvC x) : HvC t := by
  intro w z m hr hm1 hm
  obtain ⟨k, nm, ns, ks⟩ := t
  have ih : ∀ x ∈ ks, HvC x := ih
  obtain ⟨A1, c1, A2, c2, xk, rfl, s1, s2, r2⟩ := hr.parts
  have l1 := (t_sl_len s1).2
  have l2 := (t_sl_len s2).2
  obtain ⟨W1, hW1⟩ : ∃ W1, W1 = w.alloc (.cells #[.int .i64 k, sv nm, .slice A1 ns.length c1, .slice A2 ks.length c2] 32) := ⟨_, rfl⟩
  have hb1 : Below w.heap.size w W1 := by rw [hW1]; exact (Below.refl _ _).alloc (Nat.le_refl _) _
  have hbx : W1.heap[w.heap.size]? = some (.cells #[.int .i64 k, sv nm, .slice A1 ns.length c1, .slice A2 ks.length c2] 32 (0, 0)) := by rw [hW1]; exact heap_alloc_new w _
  have HWE := hid hW1
  have HB1 := hid hb1
  have HBX := hid hbx
  have HT : Hid (heavyB (.mk k nm ns ks) m = if m < ks.length ∨ m < ns.length then 0 else heaviesB ks (m - 1)) := hid (by rw [heavyB])
  rw [HT.out]
  have HS := hid (And.intro (Sl.more (Sl.below s2 hb1) hb1.size) ((r2.keep hb1).more hb1.size))
  have HIH := hid ih
  clear hr s1 s2 r2 hb1 hbx ih HT
  have hsm : Below w.heap.size w W1 := HB1.out
  by_cases ha : m < ks.length
  · have g1 : decide ((m : Int) < (ks.length : Int)) = true := by simp; omega
    have HE : Hid ((if m < ks.length ∨ m < ns.length then 0 else heaviesB ks (m - 1)) = 0) := hid (if_pos (.inl ha))
    rw [HE.out]
    rw [hW1] at hsm
    have HSM := hid hsm
    clear hsm hW1
    go_enter Tryz.func14, Tryz.ntmps14
    go_wp2_with fail
    go_ret
    exact ⟨rfl, HSM.out⟩
  by_cases hc : m < ns.length
  · have g1 : decide ((m : Int) < (ks.length : Int)) = false := by simp; omega
    have g2 : decide ((m : Int) < (ns.length : Int)) = true := by simp; omega
    have HE : Hid ((if m < ks.length ∨ m < ns.length then 0 else heaviesB ks (m - 1)) = 0) := hid (if_pos (.inr hc))
    rw [HE.out]
    rw [hW1] at hsm
    have HSM := hid hsm
    clear hsm hW1
    go_enter Tryz.func14, Tryz.ntmps14
    go_wp2_with fail
    go_ret
    exact ⟨rfl, HSM.out⟩
  have g1 : decide ((m : Int) < (ks.length : Int)) = false := by simp; omega
  have g2 : decide ((m : Int) < (ns.length : Int)) = false := by simp; omega
  have HE : Hid ((if m < ks.length ∨ m < ns.length then 0 else heaviesB ks (m - 1)) = heaviesB ks (m - 1)) := hid (if_neg (by omega))
  rw [HE.out]
  clear HE
  obtain ⟨p, rfl⟩ : ∃ p, m = p + 1 := ⟨m - 1, by omega⟩
  rw [show p + 1 - 1 = p from rfl]
  obtain ⟨a, hA⟩ : ∃ a, ks.length = a := ⟨_, rfl⟩
  rw [hA] at g1 l2 HBX hW1 HWE HS ⊢
  have HA := hid hA
  clear hA hsm
  rw [HA.out] at ha
  have e1 : ¬ (p : Int) + 1 < (a : Int) := by omega
  have e2 : ¬ (p : Int) + 1 < (ns.length : Int) := by omega
  have g1 : decide ((p : Int) + 1 < (a : Int)) = false := decide_eq_false e1
  have g2 : decide ((p : Int) + 1 < (ns.length : Int)) = false := decide_eq_false e2
  clear ha hc
  go_enter Tryz.func14, Tryz.ntmps14
  go_wp2_with fail
  rw [← hW1]
  clear hW1 e1 e2 g1 g2
  go_loopw [1, 5] (fun v1 v5 wr => ∃ i c : Nat, v5 = .int .i64 i ∧ v1 = .int .i64 c ∧ i ≤ a ∧ c ≤ p ∧ heaviesB (ks.drop i) c = heaviesB ks p ∧ Below W1.heap.size W1 wr) (fun _ v5 _ => a - (intOf v5).toNat)
  case atStart => exact ⟨0, p, rfl, rfl, by omega, by omega, rfl, Below.refl _ _⟩
  case round =>
    obtain ⟨i, c, rfl, rfl, hi, hcp, hinv, hbr⟩ := hrel
    obtain ⟨_, _, _, q3⟩ := t_row4 ((hbr.block _ (block_lt HBX.out)).trans HBX.out)
    have HI := hid hinv
    have HB := hid hbr
    clear hinv
    by_cases hlt : i < a
    · have hil : i < ks.length := by rw [HA.out]; exact hlt
      rcases Nat.eq_zero_or_pos c with rfl | hc0
      · have HZ : Hid (heaviesB ks p = 0) := hid (by rw [← HI.out, heavies_zero])
        try rw [HZ.out]
        have HZB := hid (HB1.out.trans (HB.out.mono HB1.out.size))
        clear hbr
        go_wp2_with fail
        go_ret
        exact ⟨by first | rfl | (rw [HZ.out]; rfl), HZB.out⟩
      · have hs2 : Sl wr wr.heap.size 4 (.slice A2 a c2) xk := Sl.more (Sl.below HS.out.1 hbr) hbr.size
        have hr2 : TysR wr wr.heap.size xk ks := (HS.out.2.keep hbr).more hbr.size
        obtain ⟨b2, o2, kk, ss, A3, n3, c3, A4, n4, c4, rfl, hr1, e0, e1, e2, e3⟩ := elem_at hs2 hr2 hil HA.out.symm
        have HH := hid (HIH.out _ (List.getElem_mem hil) wr _ c hr1 hc0 (by omega))
        have hle := heavy_le ks[i] c
        have HN : Hid (heaviesB (ks.drop (i + 1)) (heavyB ks[i] c) = heaviesB ks p) := hid (by rw [← HI.out, drop_cons hil, heavies_cons hc0])
        have g3 : decide ((0 : Int) < (c : Int)) = true := by simp; omega
        clear hs2 hr2 hr1 hbr
        generalize heavyB ks[i] c = q at *
        go_wp2_with fail
        refine HH.out.mono ?_
        rintro e w2 ⟨rfl, hb⟩
        have HB2 := hid (HB.out.trans (hb.mono HB.out.size))
        clear hb
        go_wp2_with fail
        go_roundw
        case rel => exact ⟨i + 1, q, rfl, rfl, by omega, by omega, HN.out, HB2.out⟩
        case measure => simp [intOf]; omega
    · obtain rfl : i = a := by omega
      have HZ : Hid (heaviesB ks p = c) := hid (by rw [← HI.out, List.drop_of_length_le (by rw [HA.out]; omega), heaviesB])
      try rw [HZ.out]
      have HZB := hid (HB1.out.trans (HB.out.mono HB1.out.size))
      clear hbr
      go_wp2_with fail
      go_ret
      exact ⟨by first | rfl | (rw [HZ.out]; rfl), HZB.out⟩
theorem heavy_ind : ∀ (N : Nat) (t : TyD), cntT t ≤ N → HvC t
  | 0, t, h => absurd (cnt_pos t) (by omega)
  | N + 1, t, h => heavy_step t fun x hx => heavy_ind N x (by
    obtain ⟨k, nm, ns, ks⟩ := t
    have := cnt_mem (show x ∈ ks from hx)
    rw [cntT] at h
    omega)
theorem heavy_any (t : TyD) : HvC t := heavy_ind _ t (Nat.le_refl _)
end Go.Proofs.YtbpedjkebemhnaaGreatDoor

/- The law's measure of a node: weight. -/
set_option linter.unusedVariables false
namespace Go.Proofs.YtbpedjkebemhnaaGreatDoor
open Go.RowKit

def NoD.kids : NoD → List NoD | .mk _ _ _ _ _ _ _ k => k
def WtD (t : NoD) : Prop := ∀ (w : World) (z : List Value) (m : Nat), NoR w w.heap.size z t → okN t → 1 ≤ m → m ≤ 1000000 →
  Calls Tryz.prog 11 #[.agg z.toArray, .int .i64 (m : Int)] w fun e w' => e = .returned (.int .i64 (weightB t m : Nat)) ∧ Below w.heap.size w w'
set_option maxRecDepth 100000 in
set_option maxHeartbeats 8000000 in
theorem weight_step (t : NoD) (ih : ∀ x ∈ t.kids, WtD x) : WtD t := by
  intro w z m hr hfit hm1 hm
  obtain ⟨k, text, n, li, co, ts, ns, ks⟩ := t
  have ih : ∀ x ∈ ks, WtD x := ih
  rw [okN] at hfit
  obtain ⟨_, ht, _, _, _, _, _, hfk⟩ := hfit
  obtain ⟨A1, c1, A2, c2, A3, c3, xt, xk, rfl, s1, r1, s2, s3, r3⟩ := hr.parts
  have l1 := (t_sl_len s1).2
  have l2 := (t_sl_len s2).2
  have l3 := (t_sl_len s3).2
  have hsz := sv_size text
  obtain ⟨W1, hW1⟩ : ∃ W1, W1 = w.alloc (.cells #[.int .i64 k, sv text, .int .i64 n, .int .i64 li, .int .i64 co, .slice A1 ts.length c1, .slice A2 ns.length c2, .slice A3 ks.length c3] 26) := ⟨_, rfl⟩
  have hb1 : Below w.heap.size w W1 := by rw [hW1]; exact (Below.refl _ _).alloc (Nat.le_refl _) _
  have hbx : W1.heap[w.heap.size]? = some (.cells #[.int .i64 k, sv text, .int .i64 n, .int .i64 li, .int .i64 co, .slice A1 ts.length c1, .slice A2 ns.length c2, .slice A3 ks.length c3] 26 (0, 0)) := by rw [hW1]; exact heap_alloc_new w _
  have HB1 := hid hb1
  have HBX := hid hbx
  have HT : Hid (weightB (.mk k text n li co ts ns ks) m = if m < ks.length ∨ m < ts.length ∨ m < ns.length ∨ 5000 < text.length then 0 else weightsB ks (heaviesB ts (m - 1))) := hid (by rw [weightB])
  rw [HT.out]
  have HS1 := hid (And.intro (Sl.more (Sl.below s1 hb1) hb1.size) ((r1.keep hb1).more hb1.size))
  have HS3 := hid (And.intro (Sl.more (Sl.below s3 hb1) hb1.size) ((r3.keep hb1).more hb1.size))
  have HIH := hid ih
  have HFK := hid hfk
  unfold maxLen at ht
  clear hr s1 r1 s2 s3 r3 hbx ih HT hfk
  obtain ⟨a, hA⟩ : ∃ a, ks.length = a := ⟨_, rfl⟩
  obtain ⟨b, hB⟩ : ∃ b, ts.length = b := ⟨_, rfl⟩
  obtain ⟨d, hD⟩ : ∃ d, ns.length = d := ⟨_, rfl⟩
  obtain ⟨g, hG⟩ : ∃ g, text.length = g := ⟨_, rfl⟩
  rw [hA, hB, hD] at hW1 HBX ⊢
  rw [hA] at HS3 l3
  rw [hB] at HS1 l1
  rw [hD] at l2
  rw [hG] at hsz ht ⊢
  have HA := hid hA
  have HBL := hid hB
  clear hA hB hD hG
  by_cases e1 : m < a
  · have g1 : decide ((m : Int) < (a : Int)) = true := by simp; omega
    have HE : Hid ((if m < a ∨ m < b ∨ m < d ∨ 5000 < g then 0 else weightsB ks (heaviesB ts (m - 1))) = 0) := hid (if_pos (.inl e1))
    rw [HE.out]
    rw [hW1] at hb1
    have HSM := hid hb1
    clear hb1 hW1
    go_enter Tryz.func11, Tryz.ntmps11
    go_wp2_with fail
    go_ret
    exact ⟨rfl, HSM.out⟩
  have g1 : decide ((m : Int) < (a : Int)) = false := by simp; omega
  by_cases e2 : m < b
  · have g2 : decide ((m : Int) < (b : Int)) = true := by simp; omega
    have HE : Hid ((if m < a ∨ m < b ∨ m < d ∨ 5000 < g then 0 else weightsB ks (heaviesB ts (m - 1))) = 0) := hid (if_pos (.inr (.inl e2)))
    rw [HE.out]
    rw [hW1] at hb1
    have HSM := hid hb1
    clear hb1 hW1
    go_enter Tryz.func11, Tryz.ntmps11
    go_wp2_with fail
    go_ret
    exact ⟨rfl, HSM.out⟩
  have g2 : decide ((m : Int) < (b : Int)) = false := by simp; omega
  by_cases e3 : m < d
  · have g3 : decide ((m : Int) < (d : Int)) = true := by simp; omega
    have HE : Hid ((if m < a ∨ m < b ∨ m < d ∨ 5000 < g then 0 else weightsB ks (heaviesB ts (m - 1))) = 0) := hid (if_pos (.inr (.inr (.inl e3))))
    rw [HE.out]
    rw [hW1] at hb1
    have HSM := hid hb1
    clear hb1 hW1
    go_enter Tryz.func11, Tryz.ntmps11
    go_wp2_with fail
    go_ret
    exact ⟨rfl, HSM.out⟩
  have g3 : decide ((m : Int) < (d : Int)) = false := by simp; omega
  by_cases e4 : 5000 < g
  · have g4 : decide ((5000 : Int) < (g : Int)) = true := by simp; omega
    have HE : Hid ((if m < a ∨ m < b ∨ m < d ∨ 5000 < g then 0 else weightsB ks (heaviesB ts (m - 1))) = 0) := hid (if_pos (.inr (.inr (.inr e4))))
    rw [HE.out]
    rw [hW1] at hb1
    have HSM := hid hb1
    clear hb1 hW1
    go_enter Tryz.func11, Tryz.ntmps11
    go_wp2_with fail
    go_ret
    exact ⟨rfl, HSM.out⟩
  have g4 : decide ((5000 : Int) < (g : Int)) = false := by simp; omega
  have HE : Hid ((if m < a ∨ m < b ∨ m < d ∨ 5000 < g then 0 else weightsB ks (heaviesB ts (m - 1))) = weightsB ks (heaviesB ts (m - 1))) := hid (if_neg (by omega))
  rw [HE.out]
  clear HE hb1
  obtain ⟨p, rfl⟩ : ∃ p, m = p + 1 := ⟨m - 1, by omega⟩
  rw [show p + 1 - 1 = p from rfl]
  have f1 : ¬ (p : Int) + 1 < (a : Int) := by omega
  have f2 : ¬ (p : Int) + 1 < (b : Int) := by omega
  have f3 : ¬ (p : Int) + 1 < (d : Int) := by omega
  have g1 : decide ((p : Int) + 1 < (a : Int)) = false := decide_eq_false f1
  have g2 : decide ((p : Int) + 1 < (b : Int)) = false := decide_eq_false f2
  have g3 : decide ((p : Int) + 1 < (d : Int)) = false := decide_eq_false f3
  clear e1 e2 e3 e4
  go_enter Tryz.func11, Tryz.ntmps11
  go_wp2_with fail
  rw [← hW1]
  clear hW1 f1 f2 f3 g1 g2 g3 g4
  go_loopw [1, 5] (fun v1 v5 wr => ∃ i c : Nat, v5 = .int .i64 i ∧ v1 = .int .i64 c ∧ i ≤ b ∧ c ≤ p ∧ heaviesB (ts.drop i) c = heaviesB ts p ∧ Below W1.heap.size W1 wr) (fun _ v5 _ => b - (intOf v5).toNat)
  case atStart => exact ⟨0, p, rfl, rfl, by omega, by omega, rfl, Below.refl _ _⟩
  case round =>
    obtain ⟨i, c, rfl, rfl, hi, hcp, hinv, hbr⟩ := hrel
    obtain ⟨_, _, _, _, _, q5, _, _⟩ := t_row8 ((hbr.block _ (block_lt HBX.out)).trans HBX.out)
    have HI := hid hinv
    have HB := hid hbr
    clear hinv
    by_cases hgo : i < b ∧ 0 < c
    · obtain ⟨hlt, hc0⟩ := hgo
      have hil : i < ts.length := by rw [HBL.out]; exact hlt
      have hs2 : Sl wr wr.heap.size 4 (.slice A1 b c1) xt := Sl.more (Sl.below HS1.out.1 hbr) hbr.size
      have hr2 : TysR wr wr.heap.size xt ts := (HS1.out.2.keep hbr).more hbr.size
      obtain ⟨b2, o2, kk, ss, A4, n4, c4, A5, n5, c5, rfl, hr1, e0, e1, e2, e3⟩ := elem_at hs2 hr2 hil HBL.out.symm
      have HH := hid (heavy_any ts[i] wr _ c hr1 hc0 (by omega))
      have hle := heavy_le ts[i] c
      have HN : Hid (heaviesB (ts.drop (i + 1)) (heavyB ts[i] c) = heaviesB ts p) := hid (by rw [← HI.out, drop_cons hil, heavies_cons hc0])
      have g5 : decide ((0 : Int) < (c : Int)) = true := by simp; omega
      clear hs2 hr2 hr1 hbr
      generalize heavyB ts[i] c = q at *
      go_wp2_with fail
      refine HH.out.mono ?_
      rintro e w2 ⟨rfl, hb⟩
      have HB2 := hid (HB.out.trans (hb.mono HB.out.size))
      clear hb
      go_wp2_with fail
      go_roundw
      case rel => exact ⟨i + 1, q, rfl, rfl, by omega, by omega, HN.out, HB2.out⟩
      case measure => simp [intOf]; omega
    · have HZ : Hid (heaviesB ts p = c) := hid (by
        rw [← HI.out]
        rcases Nat.eq_zero_or_pos c with rfl | h0
        · rw [heavies_zero]
        · rw [List.drop_of_length_le (by rw [HBL.out]; omega), heaviesB])
      try rw [HZ.out]
      clear HI hbr
      have hexit : (i < b ∧ c = 0) ∨ i = b := by omega
      have HC0 : Hid (i < b → ¬ (0 : Int) < (c : Int)) := hid (fun h h2 => hgo ⟨h, by omega⟩)
      rcases hexit with ⟨hlt, hcz⟩ | rfl
      all_goals
        clear hgo
        try (have f5 := HC0.out hlt; have g5 : decide ((0 : Int) < (c : Int)) = false := decide_eq_false f5)
        try clear hcz
        go_wp2_with fail
        go_loopw [1, 6] (fun v1 v6 wr => ∃ i c' : Nat, v6 = .int .i64 i ∧ v1 = .int .i64 c' ∧ i ≤ a ∧ c' ≤ p ∧ weightsB (ks.drop i) c' = weightsB ks (heaviesB ts p) ∧ Below W1.heap.size W1 wr) (fun _ v6 _ => a - (intOf v6).toNat)
        case atStart => exact ⟨0, _, rfl, rfl, by omega, by omega, by first | rfl | (rw [HZ.out]; rfl), HB.out⟩
        case round =>
          obtain ⟨i2, c', rfl, rfl, hi2, hcp2, hinv2, hbr2⟩ := hrel
          obtain ⟨_, _, _, _, _, _, _, q7⟩ := t_row8 ((hbr2.block _ (block_lt HBX.out)).trans HBX.out)
          have HI2 := hid hinv2
          have HB2 := hid hbr2
          clear hinv2
          by_cases hgo2 : i2 < a ∧ 0 < c'
          · obtain ⟨hlt2, hc02⟩ := hgo2
            have hil2 : i2 < ks.length := by rw [HA.out]; exact hlt2
            have hs3 : Sl wr wr.heap.size 8 (.slice A3 a c3) xk := Sl.more (Sl.below HS3.out.1 hbr2) hbr2.size
            have hr3 : NosR wr wr.heap.size xk ks := (HS3.out.2.keep hbr2).more hbr2.size
            obtain ⟨b2, o2, kk, ss, w2, w3, w4, A4, n4, c4, A5, n5, c5, A6, n6, c6, rfl, hr1, e0, e1, e2, e3, e4, e5, e6, e7⟩ := node_at hs3 hr3 hil2 HA.out.symm
            have HH := hid (HIH.out _ (List.getElem_mem hil2) wr _ c' hr1 (okNs_mem.1 HFK.out _ (List.getElem_mem hil2)) hc02 (by omega))
            have hle := weight_le ks[i2] c'
            have HN : Hid (weightsB (ks.drop (i2 + 1)) (weightB ks[i2] c') = weightsB ks (heaviesB ts p)) := hid (by rw [← HI2.out, drop_cons hil2, weights_cons hc02])
            have g5 : decide ((0 : Int) < (c' : Int)) = true := by simp; omega
            clear hs3 hr3 hr1 hbr2
            generalize weightB ks[i2] c' = q at *
            go_wp2_with fail
            refine HH.out.mono ?_
            rintro e wq ⟨rfl, hb⟩
            have HB3 := hid (HB2.out.trans (hb.mono HB2.out.size))
            clear hb
            go_wp2_with fail
            go_roundw
            case rel => exact ⟨i2 + 1, q, rfl, rfl, by omega, by omega, HN.out, HB3.out⟩
            case measure => simp [intOf]; omega
          · have HZ2 : Hid (weightsB ks (heaviesB ts p) = c') := hid (by
              rw [← HI2.out]
              rcases Nat.eq_zero_or_pos c' with rfl | h0
              · rw [weights_zero]
              · rw [List.drop_of_length_le (by rw [HA.out]; omega), weightsB])
            try rw [HZ2.out]
            have HZB := hid (HB1.out.trans (HB2.out.mono HB1.out.size))
            have hexit2 : (i2 < a ∧ c' = 0) ∨ i2 = a := by omega
            clear hbr2 hgo2
            rcases hexit2 with ⟨hlt2, rfl⟩ | rfl
            · go_wp2_with fail
              go_ret
              exact ⟨by first | rfl | (rw [HZ2.out]; rfl), HZB.out⟩
            · go_wp2_with fail
              go_ret
              exact ⟨by first | rfl | (rw [HZ2.out]; rfl), HZB.out⟩
theorem weight_ind : ∀ (N : Nat) (t : NoD), cntN t ≤ N → WtD t
  | 0, t, h => absurd (cntN_pos t) (by omega)
  | N + 1, t, h => weight_step t fun x hx => weight_ind N x (by
    obtain ⟨k, text, n, li, co, ts, ns, ks⟩ := t
    have := cntN_mem (show x ∈ ks from hx)
    rw [cntN] at h
    omega)
theorem weight_any (t : NoD) : WtD t := weight_ind _ t (Nat.le_refl _)
end Go.Proofs.YtbpedjkebemhnaaGreatDoor
end
section
/- The law's measure of a module, and lists of texts that are the same. -/
set_option linter.unusedVariables false
namespace Go.Proofs.YtbpedjkebemhnaaGreatDoor
open Go.RowKit

theorem cntTs_snoc (l : List TyD) (t : TyD) : cntTs (l ++ [t]) = cntTs l + cntT t := by
  induction l with
  | nil => simp [cntTs]
  | cons x l ih => rw [List.cons_append, cntTs, cntTs, ih]; omega
/-- A function of not too many of anything. -/
structure SmD (d : DeD) : Prop where
  vars : d.vars.length ≤ 100
  types : d.types.length ≤ 100
  bounds : ∀ v ∈ d.vars, cntT v.bound ≤ 100000
  sorts : cntTs d.types ≤ 100000
  body : cntN d.body ≤ 100000
def SmallSays (m : MoD) (w : World) (e : Ending) (w' : World) : Prop := ∃ b : Bool, e = .returned (.bool b) ∧ (b = true → SmM m) ∧ Below w.heap.size w w'
theorem says_no {m : MoD} {w w' : World} (h : Below w.heap.size w w') : SmallSays m w (.returned (.bool false)) w' := ⟨false, rfl, fun h => (by cases h), h⟩
set_option maxRecDepth 100000 in
set_option maxHeartbeats 8000000 in
theorem small_any (m : MoD) (w : World) (z : List Value) (hr : MoR w w.heap.size z m) (hok : okM m) (k : Nat) (hk : k ≤ 2000) :
    Calls Tryz.prog 17 #[.agg z.toArray, .int .i64 (k : Int)] w (SmallSays m w) := by
  obtain ⟨A1, c1, A2, c2, xi, xd, rfl, s1, r1, s2, r2⟩ := hr.parts
  have l1 := (t_sl_len s1).2
  have l2 := (t_sl_len s2).2
  obtain ⟨W, hW⟩ : ∃ W, w.alloc (.cells #[.slice A1 m.imps.length c1, .slice A2 m.decls.length c2] 39) = W := ⟨_, rfl⟩
  have hb1 : Below w.heap.size w W := by rw [← hW]; exact (Below.refl _ _).alloc (Nat.le_refl _) _
  have HBX : Hid (W.heap[w.heap.size]? = some (.cells #[.slice A1 m.imps.length c1, .slice A2 m.decls.length c2] 39 (0, 0))) := hid (by rw [← hW]; exact heap_alloc_new w _)
  have HI := hid (And.intro (Sl.more (Sl.below s1 hb1) hb1.size) (r1.imp fun _ _ h => (h.keep hb1).more hb1.size))
  have HD := hid (And.intro (Sl.more (Sl.below s2 hb1) hb1.size) (r2.imp fun _ _ h => (h.keep hb1).more hb1.size))
  have HOK := hid hok
  have HB1 := hid hb1
  have HWE := hid hW
  have HEND : Hid (∀ w', Below W.heap.size W w' → m.imps.length ≤ 100 → m.decls.length ≤ 100 → (∀ i ∈ m.imps, i.names.length ≤ 100) → (∀ d ∈ m.decls, SmD d) → SmallSays m w (.returned (.bool true)) w') := hid (fun w' h a1 a2 a3 a4 =>
    ⟨true, rfl, fun _ => ⟨a1, a2, a3, fun d hd => (a4 d hd).vars, fun d hd => (a4 d hd).types, fun d hd => (a4 d hd).bounds, fun d hd => (a4 d hd).sorts, fun d hd => (a4 d hd).body⟩, hb1.trans (h.mono hb1.size)⟩)
  have HNO : Hid (∀ w', Below W.heap.size W w' → SmallSays m w (.returned (.bool false)) w') := hid (fun w' h => says_no (hb1.trans (h.mono hb1.size)))
  clear hr s1 r1 s2 r2 hb1 hok
  obtain ⟨is, his⟩ : ∃ x, m.imps = x := ⟨_, rfl⟩
  obtain ⟨ds, hds⟩ : ∃ x, m.decls = x := ⟨_, rfl⟩
  have HOI := hid HOK.out.1
  have HOD := hid HOK.out.2
  rw [his, hds] at HBX hW HEND
  rw [his] at HI HOI l1
  rw [hds] at HD HOD l2
  rw [his, hds]
  obtain ⟨a, hA⟩ : ∃ a, is.length = a := ⟨_, rfl⟩
  obtain ⟨d, hDl⟩ : ∃ d, ds.length = d := ⟨_, rfl⟩
  rw [hA, hDl] at HBX hW HEND
  rw [hA] at HI l1
  rw [hDl] at HD l2
  rw [hA, hDl]
  have HA := hid hA
  have HDL := hid hDl
  clear his hds hA hDl HOK HWE
  generalize hP : SmallSays m w = P at *
  clear hP
  obtain ⟨g0, g1⟩ := t_row2 HBX.out
  by_cases ha : 100 < a
  · have ga : decide ((100 : Int) < (a : Int)) = true := by simp; omega
    go_enter Tryz.func17, Tryz.ntmps17
    go_wp2_with fail
    exact HNO.out _ (Below.refl _ _)
  have ga : decide ((100 : Int) < (a : Int)) = false := by simp; omega
  by_cases hd : 100 < d
  · have gd : decide ((100 : Int) < (d : Int)) = true := by simp; omega
    go_enter Tryz.func17, Tryz.ntmps17
    go_wp2_with fail
    exact HNO.out _ (Below.refl _ _)
  have gd : decide ((100 : Int) < (d : Int)) = false := by simp; omega
  go_enter Tryz.func17, Tryz.ntmps17
  go_wp2_with fail
  clear g0 g1 ga gd
  go_loopw [5] (fun v5 wr => ∃ i : Nat, v5 = .int .i64 i ∧ i ≤ a ∧ (∀ j (h : j < is.length), j < i → is[j].names.length ≤ 100) ∧ Below W.heap.size W wr) (fun v5 _ => a - (intOf v5).toNat)
  case atStart => exact ⟨0, rfl, by omega, fun j _ h => (by omega), Below.refl _ _⟩
  case round =>
    obtain ⟨i, rfl, hi, hall, hbr⟩ := hrel
    have HAL := hid hall
    have HBR := hid hbr
    clear hall
    obtain ⟨g0, g1⟩ := t_row2 ((hbr.block _ (block_lt HBX.out)).trans HBX.out)
    by_cases hlt : i < a
    · have hil : i < is.length := by rw [HA.out]; exact hlt
      obtain ⟨b2, o2, A6, c6, hA6, hn6, d0, d1, d2, d3⟩ := imp_at (Sl.more (Sl.below HI.out.1 hbr) hbr.size) (HI.out.2.imp fun _ _ h => (h.keep hbr).more hbr.size) hil HA.out.symm
      have hl6 := (t_sl_len hn6).2
      have HST : Hid (is[i].names.length ≤ 100 → ∀ j (h : j < is.length), j < i + 1 → is[j].names.length ≤ 100) := hid (fun h j hj hji => by
        rcases Nat.lt_or_ge j i with h1 | h1
        · exact HAL.out j hj h1
        · obtain rfl : j = i := by omega
          exact h)
      generalize is[i].names.length = n at *
      generalize is[i].from_ = X at *
      generalize is[i].line = li at *
      generalize is[i].col = co at *
      clear hn6 hbr d2 d3 d0
      subst hA6
      by_cases hn : 100 < n
      · have gn : decide ((100 : Int) < (n : Int)) = true := by simp; omega
        go_wp2_with fail
        exact HNO.out _ HBR.out
      · have gn : decide ((100 : Int) < (n : Int)) = false := by simp; omega
        have HS2 := hid (HST.out (by omega))
        clear hn HST
        go_wp2_with fail
        go_roundw
        case rel => exact ⟨i + 1, rfl, by omega, HS2.out, HBR.out⟩
        case measure => simp [intOf]; omega
    · obtain rfl : i = a := by omega
      have HIM : Hid (∀ x ∈ is, x.names.length ≤ 100) := hid (fun x hx => by
        obtain ⟨j, hj, rfl⟩ := List.getElem_of_mem hx
        exact HAL.out j hj (by have := HA.out; omega))
      clear hlt HAL hbr
      go_wp2_with fail
      clear g0 g1
      go_loopw [1, 6] (fun v1 v6 wr => ∃ i c : Nat, v6 = .int .i64 i ∧ v1 = .int .i64 c ∧ i ≤ d ∧ c ≤ 2000 ∧ (0 < c → ∀ j (h : j < ds.length), j < i → SmD ds[j]) ∧ Below W.heap.size W wr) (fun _ v6 _ => d - (intOf v6).toNat)
      case atStart => exact ⟨0, k, rfl, rfl, by omega, hk, fun _ j _ h => (by omega), HBR.out⟩
      case round =>
        obtain ⟨i, c, rfl, rfl, hi, hc, hall, hbr⟩ := hrel
        have HAL := hid hall
        have HBR := hid hbr
        clear hall
        obtain ⟨g0, g1⟩ := t_row2 ((hbr.block _ (block_lt HBX.out)).trans HBX.out)
        by_cases hlt : i < d
        · rcases Nat.eq_zero_or_pos c with rfl | hc0
          · clear hbr
            go_wp2_with fail
            exact HNO.out _ HBR.out
          have gc : decide ((0 : Int) < (c : Int)) = true := by simp; omega
          have hil : i < ds.length := by rw [HDL.out]; exact hlt
          obtain ⟨b2, o2, A6, c6, A7, c7, kk, s, n1, l1', cc, A3, n3, c3, A4, n4, c4, A5, n5, c5, xv, xt, hA6, t1, t2, t3, t4, t5, dd0, dd1, dd2, dd3, dd4, dd5, dd6, dd7, dd8, dd9, dd10, dd11, dd12, dd13, dd14⟩ := decl_at2 (Sl.more (Sl.below HD.out.1 hbr) hbr.size) (HD.out.2.imp fun _ _ h => (h.keep hbr).more hbr.size) hil HDL.out.symm
          have hv6 := (t_sl_len t1).2
          have hv7 := (t_sl_len t3).2
          have HVV := hid (And.intro t1 t2)
          have HTT := hid (And.intro t3 t4)
          have HBB := hid t5
          have HODI := hid (HOD.out _ (List.getElem_mem hil))
          have HALL : Hid (∀ j (h : j < ds.length), j < i → SmD ds[j]) := hid (HAL.out hc0)
          have HST : Hid (SmD ds[i] → ∀ j (h : j < ds.length), j < i + 1 → SmD ds[j]) := hid (fun h j hj hji => by
            rcases Nat.lt_or_ge j i with h1 | h1
            · exact HALL.out j hj h1
            · obtain rfl : j = i := by omega
              exact h)
          clear t1 t2 t3 t4 t5
          generalize ds[i] = D at *
          obtain ⟨vs, hvs⟩ : ∃ x, D.vars = x := ⟨_, rfl⟩
          obtain ⟨ts, hts⟩ : ∃ x, D.types = x := ⟨_, rfl⟩
          obtain ⟨nv, hnv⟩ : ∃ x, vs.length = x := ⟨_, rfl⟩
          obtain ⟨nt, hnt⟩ : ∃ x, ts.length = x := ⟨_, rfl⟩
          have HVS := hid hvs
          have HTS := hid hts
          have HNV := hid hnv
          have HNT := hid hnt
          rw [hvs, hnv] at dd2 hv6
          rw [hts, hnt] at dd4 hv7
          rw [hvs] at HVV
          rw [hts] at HTT
          rw [hnv] at HVV
          rw [hnt] at HTT
          generalize D.name = NM at *
          generalize D.param = PM at *
          generalize D.exp = ex at *
          generalize D.line = dl at *
          generalize D.col = dc at *
          obtain ⟨wA, hwA⟩ : ∃ wA, wr.alloc (.cells #[sv NM, .bool ex, .slice A6 nv c6, sv PM, .slice A7 nt c7, .int .i64 kk, .string s, .int .i64 n1, .int .i64 l1', .int .i64 cc, .slice A3 n3 c3, .slice A4 n4 c4, .slice A5 n5 c5, .int .i64 dl, .int .i64 dc] 65) = wA := ⟨_, rfl⟩
          have hbA : Below wr.heap.size wr wA := by rw [← hwA]; exact (Below.refl _ _).alloc (Nat.le_refl _) _
          have HROW : Hid (wA.heap[wr.heap.size]? = some (.cells #[sv NM, .bool ex, .slice A6 nv c6, sv PM, .slice A7 nt c7, .int .i64 kk, .string s, .int .i64 n1, .int .i64 l1', .int .i64 cc, .slice A3 n3 c3, .slice A4 n4 c4, .slice A5 n5 c5, .int .i64 dl, .int .i64 dc] 65 (0, 0))) := hid (by rw [← hwA]; exact heap_alloc_new wr _)
          have HBA := hid hbA
          have HRA : Hid (Below W.heap.size W wA) := hid (hbr.trans (hbA.mono hbr.size))
          have f2 := row_cell (j := 2) HROW.out rfl
          have f4 := row_cell (j := 4) HROW.out rfl
          clear hvs hts hnv hnt hbA hbr
          subst hA6
          by_cases hnv : 100 < nv
          · have gv : decide ((100 : Int) < (nv : Int)) = true := by simp; omega
            go_wp2_with fail
            exact HNO.out _ HRA.out
          have gv : decide ((100 : Int) < (nv : Int)) = false := by simp; omega
          by_cases hnt : 100 < nt
          · have gt : decide ((100 : Int) < (nt : Int)) = true := by simp; omega
            go_wp2_with fail
            exact HNO.out _ HRA.out
          have gt : decide ((100 : Int) < (nt : Int)) = false := by simp; omega
          go_upto_block 4 with (fail)
          clear hwA dd0 dd1 dd2 dd3 dd4 dd5 dd6 dd7 dd8 dd9 dd10 dd11 dd12 dd13 dd14 f2 f4 gv gt gc g0 g1
          go_cut [1, 8] from 46 to 103 (fun v1 v8 wc => ∃ c : Nat, v1 = .int .i64 c ∧ c ≤ 2000 ∧ (0 < c → ∀ v ∈ vs, cntT v.bound ≤ 100000) ∧ Below wA.heap.size wA wc)
          case first =>
            go_wp2_with fail
            go_loopw [1, 8] (fun v1 v8 wx => ∃ i c : Nat, v8 = .int .i64 i ∧ v1 = .int .i64 c ∧ i ≤ nv ∧ c ≤ 2000 ∧ (0 < c → ∀ j (h : j < vs.length), j < i → cntT vs[j].bound ≤ 100000) ∧ Below wA.heap.size wA wx) (fun _ v8 _ => nv - (intOf v8).toNat)
            case atStart => exact ⟨0, c, rfl, rfl, by omega, hc, fun _ j _ h => (by omega), Below.refl _ _⟩
            case round =>
              obtain ⟨i2, c, rfl, rfl, hi2, hc, hall, hbx⟩ := hrel
              have HAL2 := hid hall
              have HBX2 := hid hbx
              clear hall
              have f2 := row_cell (j := 2) ((hbx.block _ (block_lt HROW.out)).trans HROW.out) rfl
              by_cases hlt2 : i2 < nv
              · rcases Nat.eq_zero_or_pos c with rfl | hc0
                · clear hbx
                  go_wp2_with fail
                  go_meet
                  case rel => exact ⟨0, rfl, by omega, fun h => (by omega), HBX2.out⟩
                have gc : decide ((0 : Int) < (c : Int)) = true := by simp; omega
                have hil2 : i2 < vs.length := by rw [HNV.out]; exact hlt2
                have hbw := HBA.out.trans (hbx.mono HBA.out.size)
                obtain ⟨b3, o3, k3, s3, A8, n8, c8, A9, n9, c9, hA9, hr9, hk9, e0, e1, e2, e3, e4⟩ := var_at (Sl.more (Sl.below HVV.out.1 hbw) hbw.size) (HVV.out.2.imp fun _ _ h => (h.keep hbw).more hbw.size) hil2 HNV.out.symm
                subst hA9
                have HH := hid (heavy_any vs[i2].bound _ _ c hr9 hc0 (by omega))
                have hcn := heavy_cnt vs[i2].bound c
                have hle := heavy_le vs[i2].bound c
                have HST2 : Hid (0 < heavyB vs[i2].bound c → ∀ j (h : j < vs.length), j < i2 + 1 → cntT vs[j].bound ≤ 100000) := hid (fun h0 j hj hji => by
                  rcases Nat.lt_or_ge j i2 with h1 | h1
                  · exact HAL2.out hc0 j hj h1
                  · obtain rfl : j = i2 := by omega
                    have := hcn h0
                    omega)
                generalize heavyB vs[i2].bound c = q at *
                clear hbx hr9 hk9 hbw hcn
                go_wp2_with fail
                refine HH.out.mono ?_
                rintro e w5 ⟨rfl, hb⟩
                have HB5 := hid (HBX2.out.trans (hb.mono HBX2.out.size))
                clear hb e0 e1 e2 e3 e4
                go_wp2_with fail
                go_roundw
                case rel => exact ⟨i2 + 1, q, rfl, rfl, by omega, by omega, HST2.out, HB5.out⟩
                case measure => simp [intOf]; omega
              · obtain rfl : i2 = nv := by omega
                have HV9 : Hid (0 < c → ∀ v ∈ vs, cntT v.bound ≤ 100000) := hid (fun h0 v hv => by
                  obtain ⟨j, hj, rfl⟩ := List.getElem_of_mem hv
                  exact HAL2.out h0 j hj (by have := HNV.out; omega))
                clear hbx hlt2
                go_wp2_with fail
                go_meet
                case rel => exact ⟨c, rfl, by omega, HV9.out, HBX2.out⟩
          case rest =>
            obtain ⟨c, rfl, hc, hvb, hbx⟩ := hcut
            have HVB := hid hvb
            have HBX2 := hid hbx
            clear hvb hbx
            go_upto_block 6 with (fail)
            go_cut [1, 9] from 46 to 103 (fun v1 v9 wd => ∃ c : Nat, v1 = .int .i64 c ∧ c ≤ 2000 ∧ (0 < c → (∀ v ∈ vs, cntT v.bound ≤ 100000) ∧ cntTs ts ≤ 100000) ∧ Below wA.heap.size wA wd)
            case first =>
              go_wp2_with fail
              go_loopw [1, 9] (fun v1 v9 wx => ∃ i c : Nat, v9 = .int .i64 i ∧ v1 = .int .i64 c ∧ i ≤ nt ∧ c ≤ 2000 ∧ (0 < c → (∀ v ∈ vs, cntT v.bound ≤ 100000) ∧ c + cntTs (ts.take i) ≤ 2000) ∧ Below wA.heap.size wA wx) (fun _ v9 _ => nt - (intOf v9).toNat)
              case atStart => exact ⟨0, c, rfl, rfl, by omega, hc, fun h => ⟨HVB.out h, by simpa [cntTs] using hc⟩, HBX2.out⟩
              case round =>
                obtain ⟨i2, c, rfl, rfl, hi2, hc, hall, hbx⟩ := hrel
                have HAL2 := hid hall
                have HBX3 := hid hbx
                clear hall
                have f4 := row_cell (j := 4) ((hbx.block _ (block_lt HROW.out)).trans HROW.out) rfl
                by_cases hlt2 : i2 < nt
                · rcases Nat.eq_zero_or_pos c with rfl | hc0
                  · clear hbx
                    go_wp2_with fail
                    go_meet
                    case rel => exact ⟨0, rfl, by omega, fun h => (by omega), HBX3.out⟩
                  have gc : decide ((0 : Int) < (c : Int)) = true := by simp; omega
                  have hil2 : i2 < ts.length := by rw [HNT.out]; exact hlt2
                  have hbw := HBA.out.trans (hbx.mono HBA.out.size)
                  obtain ⟨b3, o3, k3, s3, A8, n8, c8, A9, n9, c9, hA9, hr9, e1, e2, e3, e4⟩ := elem_at (Sl.more (Sl.below HTT.out.1 hbw) hbw.size) ((HTT.out.2.keep hbw).more hbw.size) hil2 HNT.out.symm
                  subst hA9
                  have HH := hid (heavy_any ts[i2] _ _ c hr9 hc0 (by omega))
                  have hcn := heavy_cnt ts[i2] c
                  have hle := heavy_le ts[i2] c
                  have HST2 : Hid (0 < heavyB ts[i2] c → (∀ v ∈ vs, cntT v.bound ≤ 100000) ∧ heavyB ts[i2] c + cntTs (ts.take (i2 + 1)) ≤ 2000) := hid (fun h0 => by
                    obtain ⟨h1, h2⟩ := HAL2.out hc0
                    refine ⟨h1, ?_⟩
                    rw [t_take hil2, cntTs_snoc]
                    have := hcn h0
                    omega)
                  generalize heavyB ts[i2] c = q at *
                  clear hbx hr9 hbw hcn
                  go_wp2_with fail
                  refine HH.out.mono ?_
                  rintro e w5 ⟨rfl, hb⟩
                  have HB5 := hid (HBX3.out.trans (hb.mono HBX3.out.size))
                  clear hb e1 e2 e3 e4
                  go_wp2_with fail
                  go_roundw
                  case rel => exact ⟨i2 + 1, q, rfl, rfl, by omega, by omega, HST2.out, HB5.out⟩
                  case measure => simp [intOf]; omega
                · obtain rfl : i2 = nt := by omega
                  have HV9 : Hid (0 < c → (∀ v ∈ vs, cntT v.bound ≤ 100000) ∧ cntTs ts ≤ 100000) := hid (fun h0 => by
                    obtain ⟨h1, h2⟩ := HAL2.out h0
                    rw [List.take_of_length_le (by have := HNT.out; omega)] at h2
                    exact ⟨h1, by omega⟩)
                  clear hbx hlt2
                  go_wp2_with fail
                  go_meet
                  case rel => exact ⟨c, rfl, by omega, HV9.out, HBX3.out⟩
            case rest =>
              obtain ⟨c, rfl, hc, hvb, hbx⟩ := hcut
              have HVB9 := hid hvb
              have HBX4 := hid hbx
              have HRW := hid (HRA.out.trans (hbx.mono HRA.out.size))
              have hrow9 := (hbx.block _ (block_lt HROW.out)).trans HROW.out
              rcases Nat.eq_zero_or_pos c with rfl | hc0
              · clear hvb hbx hrow9
                go_wp2_with fail
                go_roundw
                case rel => exact ⟨i + 1, 0, rfl, rfl, by omega, by omega, fun h => (by omega), HRW.out⟩
                case measure => simp [intOf]; omega
              have gc : decide ((0 : Int) < (c : Int)) = true := by simp; omega
              obtain ⟨h1, h2⟩ := hvb hc0
              have hbw := HBA.out.trans (hbx.mono HBA.out.size)
              have HH := hid (weight_any D.body _ _ c ((HBB.out.keep hbw).more hbw.size) HODI.out.2.2.2.2.1 hc0 (by omega))
              have hcn := weight_cnt D.body c
              have hle := weight_le D.body c
              have HST2 : Hid (0 < weightB D.body c → ∀ j (h : j < ds.length), j < i + 1 → SmD ds[j]) := hid (fun h0 => HST.out (by
                refine ⟨?_, ?_, ?_, ?_, ?_⟩
                · rw [HVS.out, HNV.out]; omega
                · rw [HTS.out, HNT.out]; omega
                · rw [HVS.out]; exact h1
                · rw [HTS.out]; exact h2
                · have := hcn h0; omega))
              obtain ⟨g0, g1, g2, g3, g4, g5, g6, g7, g8, g9, g10, g11, g12, g13, g14⟩ := t_row15 hrow9
              generalize weightB D.body c = q at *
              clear hbx hvb hbw h1 h2 hcn hrow9
              go_wp2_with fail
              refine HH.out.mono ?_
              rintro e w5 ⟨rfl, hb⟩
              have HB5 := hid (HRW.out.trans (hb.mono HRW.out.size))
              clear hb g0 g1 g2 g3 g4 g5 g6 g7 g8 g9 g10 g11 g12 g13 g14
              go_wp2_with fail
              go_roundw
              case rel => exact ⟨i + 1, q, rfl, rfl, by omega, by omega, HST2.out, HB5.out⟩
              case measure => simp [intOf]; omega
        · obtain rfl : i = d := by omega
          rcases Nat.eq_zero_or_pos c with rfl | hc0
          · clear hbr
            go_wp2_with fail
            exact HNO.out _ HBR.out
          have gc : decide ((0 : Int) < (c : Int)) = true := by simp; omega
          have HSD : Hid (∀ x ∈ ds, SmD x) := hid (fun x hx => by
            obtain ⟨j, hj, rfl⟩ := List.getElem_of_mem hx
            exact HAL.out hc0 j hj (by have := HDL.out; omega))
          clear hbr hlt
          go_wp2_with fail
          exact HEND.out _ HBR.out (by omega) (by omega) HIM.out HSD.out
end Go.Proofs.YtbpedjkebemhnaaGreatDoor
end
section
/- The law's awake: four examples. -/
set_option linter.unusedVariables false
namespace Go.Proofs.YtbpedjkebemhnaaGreatDoor
open Go.RowKit

def aN : NoD := .mk 4 [97] 0 0 0 [] [] []
def fiveN : NoD := .mk 0 [] 5 0 0 [] [] []
def isN : NoD := .mk 12 [] 2 0 0 [] [] [aN]
def bN : NoD := .mk 14 [45] 0 0 0 [] [] [aN, fiveN]
def cN : NoD := .mk 7 [] 0 0 0 [] [] [aN, isN]
def noN : NoD := .mk 4 [] 0 0 0 [] [] []
theorem itoa_five : Lib.itoa 5 = [53] := by
  have h1 := Lib.itoa_nonneg 5
  rw [Lib.decDigits_one (by decide)] at h1
  exact h1
set_option maxRecDepth 100000 in
theorem b_text : exprT bN = [40, 97, 32, 45, 32, 53, 41] := by
  have h : nodeB 25 bN = true := by kernel_rfl
  unfold exprT
  rw [h, if_pos rfl]
  show [40] ++ ([97] ++ ([32] ++ ([45] ++ ([32] ++ (Lib.itoa 5 ++ ([41] ++ [])))))) = _
  rw [itoa_five]
  rfl
set_option maxRecDepth 100000 in
theorem c_text : exprT cN = [97, 40, 40, 97, 32, 105, 115, 32, 105, 110, 116, 41, 41] := by kernel_rfl
set_option maxRecDepth 100000 in
theorem no_text : exprT noN = [] := by kernel_rfl
set_option maxRecDepth 100000 in
theorem any_text : typeS (.mk 0 [] [] []) = [97, 110, 121] := by kernel_rfl
theorem leaf_r (w : World) (B : Nat) (k n : Int) (s : Bt) : NoR w B [.int .i64 k, sv s, .int .i64 n, .int .i64 0, .int .i64 0, .slice none 0 0, .slice none 0 0, .slice none 0 0] (.mk k s n 0 0 [] [] []) :=
  .mk (Sl.nil _ _ _) .nil (Sl.nil _ _ _) (Sl.nil _ _ _) .nil
theorem row_sl {w : World} {B g k n : Nat} {cs : Array Value} {T : TypeId} (h : w.heap[g]? = some (.cells cs T (0, 0))) (hg : g < B) (hk : cs.size = n * k) (hn : n ≤ maxLen) : Sl w B k (.slice (some ⟨g, 0, none⟩) n n) cs.toList := by
  refine ⟨_, n, n, rfl, by simpa using hk, Nat.le_refl _, hn, fun _ => ⟨g, 0, rfl, hg, fun j u hu => ?_⟩⟩
  rw [Nat.zero_add, cell_of_row _ _ _ _ _ (0, 0) h]
  simpa using hu
theorem alloc_at {w : World} {g : Nat} {x : Obj} (o : Obj) (h : w.heap[g]? = some x) : (w.alloc o).heap[g]? = some x := block_turn h (Turn.alloc (fun _ => False) _ o) (fun h => h)
set_option maxRecDepth 100000 in
set_option maxHeartbeats 4000000 in
theorem awake_any (w : World) (hX : LaidT w) : Calls Tryz.prog 10 #[] w fun e w' => e = .returned (.bool true) ∧ Below w.heap.size w w' := by
  obtain ⟨w1, h1⟩ : ∃ x, w.alloc (.cells #[.int .i64 4, .string ⟨#[97]⟩, .int .i64 0, .int .i64 0, .int .i64 0, .slice none 0 0, .slice none 0 0, .slice none 0 0] 26) = x := ⟨_, rfl⟩
  have s1 : w1.heap.size = w.heap.size + 1 := by rw [← h1, World.size_alloc]
  have bb1 : w1.heap[w.heap.size]? = some (.cells #[.int .i64 4, .string ⟨#[97]⟩, .int .i64 0, .int .i64 0, .int .i64 0, .slice none 0 0, .slice none 0 0, .slice none 0 0] 26 (0, 0)) := by rw [← h1]; exact heap_alloc_new _ _
  obtain ⟨w2, h2⟩ : ∃ x, w1.alloc (.cells #[.int .i64 4, .string ⟨#[97]⟩, .int .i64 0, .int .i64 0, .int .i64 0, .slice none 0 0, .slice none 0 0, .slice none 0 0, .int .i64 0, .string ⟨#[]⟩, .int .i64 5, .int .i64 0, .int .i64 0, .slice none 0 0, .slice none 0 0, .slice none 0 0] 26) = x := ⟨_, rfl⟩
  have s2 : w2.heap.size = w.heap.size + 1 + 1 := by rw [← h2, World.size_alloc, s1]
  have bb2 : w2.heap[w.heap.size + 1]? = some (.cells #[.int .i64 4, .string ⟨#[97]⟩, .int .i64 0, .int .i64 0, .int .i64 0, .slice none 0 0, .slice none 0 0, .slice none 0 0, .int .i64 0, .string ⟨#[]⟩, .int .i64 5, .int .i64 0, .int .i64 0, .slice none 0 0, .slice none 0 0, .slice none 0 0] 26 (0, 0)) := by rw [← h2, ← s1]; exact heap_alloc_new _ _
  obtain ⟨w3, h3⟩ : ∃ x, w2.alloc (.cells #[.int .i64 14, .string ⟨#[45]⟩, .int .i64 0, .int .i64 0, .int .i64 0, .slice none 0 0, .slice none 0 0, .slice (some ⟨w.heap.size + 1, 0, none⟩) 2 2] 26) = x := ⟨_, rfl⟩
  have s3 : w3.heap.size = w.heap.size + 1 + 1 + 1 := by rw [← h3, World.size_alloc, s2]
  have bb3 : w3.heap[w.heap.size + 1 + 1]? = some (.cells #[.int .i64 14, .string ⟨#[45]⟩, .int .i64 0, .int .i64 0, .int .i64 0, .slice none 0 0, .slice none 0 0, .slice (some ⟨w.heap.size + 1, 0, none⟩) 2 2] 26 (0, 0)) := by rw [← h3, ← s2]; exact heap_alloc_new _ _
  obtain ⟨w4, h4⟩ : ∃ x, w3.alloc (.cells #[.int .i64 4, .string ⟨#[97]⟩, .int .i64 0, .int .i64 0, .int .i64 0, .slice none 0 0, .slice none 0 0, .slice none 0 0] 26) = x := ⟨_, rfl⟩
  have s4 : w4.heap.size = w.heap.size + 1 + 1 + 1 + 1 := by rw [← h4, World.size_alloc, s3]
  have bb4 : w4.heap[w.heap.size + 1 + 1 + 1]? = some (.cells #[.int .i64 4, .string ⟨#[97]⟩, .int .i64 0, .int .i64 0, .int .i64 0, .slice none 0 0, .slice none 0 0, .slice none 0 0] 26 (0, 0)) := by rw [← h4, ← s3]; exact heap_alloc_new _ _
  obtain ⟨w5, h5⟩ : ∃ x, w4.alloc (.cells #[.int .i64 4, .string ⟨#[97]⟩, .int .i64 0, .int .i64 0, .int .i64 0, .slice none 0 0, .slice none 0 0, .slice none 0 0, .int .i64 12, .string ⟨#[]⟩, .int .i64 2, .int .i64 0, .int .i64 0, .slice none 0 0, .slice none 0 0, .slice (some ⟨w.heap.size + 1 + 1 + 1, 0, none⟩) 1 1] 26) = x := ⟨_, rfl⟩
  have s5 : w5.heap.size = w.heap.size + 1 + 1 + 1 + 1 + 1 := by rw [← h5, World.size_alloc, s4]
  have bb5 : w5.heap[w.heap.size + 1 + 1 + 1 + 1]? = some (.cells #[.int .i64 4, .string ⟨#[97]⟩, .int .i64 0, .int .i64 0, .int .i64 0, .slice none 0 0, .slice none 0 0, .slice none 0 0, .int .i64 12, .string ⟨#[]⟩, .int .i64 2, .int .i64 0, .int .i64 0, .slice none 0 0, .slice none 0 0, .slice (some ⟨w.heap.size + 1 + 1 + 1, 0, none⟩) 1 1] 26 (0, 0)) := by rw [← h5, ← s4]; exact heap_alloc_new _ _
  obtain ⟨w6, h6⟩ : ∃ x, w5.alloc (.cells #[.int .i64 7, .string ⟨#[]⟩, .int .i64 0, .int .i64 0, .int .i64 0, .slice none 0 0, .slice none 0 0, .slice (some ⟨w.heap.size + 1 + 1 + 1 + 1, 0, none⟩) 2 2] 26) = x := ⟨_, rfl⟩
  have s6 : w6.heap.size = w.heap.size + 1 + 1 + 1 + 1 + 1 + 1 := by rw [← h6, World.size_alloc, s5]
  have bb6 : w6.heap[w.heap.size + 1 + 1 + 1 + 1 + 1]? = some (.cells #[.int .i64 7, .string ⟨#[]⟩, .int .i64 0, .int .i64 0, .int .i64 0, .slice none 0 0, .slice none 0 0, .slice (some ⟨w.heap.size + 1 + 1 + 1 + 1, 0, none⟩) 2 2] 26 (0, 0)) := by rw [← h6, ← s5]; exact heap_alloc_new _ _
  have hbl : Below w.heap.size w w6 := by
    rw [← h6, ← h5, ← h4, ← h3, ← h2, ← h1]
    exact ((((((Below.refl _ _).alloc (Nat.le_refl _) _).alloc (by simp) _).alloc (by simp; omega) _).alloc (by simp; omega) _).alloc (by simp; omega) _).alloc (by simp; omega) _
  have r2 : w6.heap[w.heap.size + 1]? = some (.cells #[.int .i64 4, .string ⟨#[97]⟩, .int .i64 0, .int .i64 0, .int .i64 0, .slice none 0 0, .slice none 0 0, .slice none 0 0, .int .i64 0, .string ⟨#[]⟩, .int .i64 5, .int .i64 0, .int .i64 0, .slice none 0 0, .slice none 0 0, .slice none 0 0] 26 (0, 0)) := by rw [← h6, ← h5, ← h4, ← h3]; exact alloc_at _ (alloc_at _ (alloc_at _ (alloc_at _ bb2)))
  have r4 : w6.heap[w.heap.size + 1 + 1 + 1]? = some (.cells #[.int .i64 4, .string ⟨#[97]⟩, .int .i64 0, .int .i64 0, .int .i64 0, .slice none 0 0, .slice none 0 0, .slice none 0 0] 26 (0, 0)) := by rw [← h6, ← h5]; exact alloc_at _ (alloc_at _ bb4)
  have r5 : w6.heap[w.heap.size + 1 + 1 + 1 + 1]? = some (.cells #[.int .i64 4, .string ⟨#[97]⟩, .int .i64 0, .int .i64 0, .int .i64 0, .slice none 0 0, .slice none 0 0, .slice none 0 0, .int .i64 12, .string ⟨#[]⟩, .int .i64 2, .int .i64 0, .int .i64 0, .slice none 0 0, .slice none 0 0, .slice (some ⟨w.heap.size + 1 + 1 + 1, 0, none⟩) 1 1] 26 (0, 0)) := by rw [← h6]; exact alloc_at _ bb5
  have hW : (((((w.alloc (.cells #[.int .i64 4, .string ⟨#[97]⟩, .int .i64 0, .int .i64 0, .int .i64 0, .slice none 0 0, .slice none 0 0, .slice none 0 0] 26)).alloc (.cells #[.int .i64 4, .string ⟨#[97]⟩, .int .i64 0, .int .i64 0, .int .i64 0, .slice none 0 0, .slice none 0 0, .slice none 0 0, .int .i64 0, .string ⟨#[]⟩, .int .i64 5, .int .i64 0, .int .i64 0, .slice none 0 0, .slice none 0 0, .slice none 0 0] 26)).alloc (.cells #[.int .i64 14, .string ⟨#[45]⟩, .int .i64 0, .int .i64 0, .int .i64 0, .slice none 0 0, .slice none 0 0, .slice (some ⟨w.heap.size + 1, 0, none⟩) 2 2] 26)).alloc (.cells #[.int .i64 4, .string ⟨#[97]⟩, .int .i64 0, .int .i64 0, .int .i64 0, .slice none 0 0, .slice none 0 0, .slice none 0 0] 26)).alloc (.cells #[.int .i64 4, .string ⟨#[97]⟩, .int .i64 0, .int .i64 0, .int .i64 0, .slice none 0 0, .slice none 0 0, .slice none 0 0, .int .i64 12, .string ⟨#[]⟩, .int .i64 2, .int .i64 0, .int .i64 0, .slice none 0 0, .slice none 0 0, .slice (some ⟨w.heap.size + 1 + 1 + 1, 0, none⟩) 1 1] 26)).alloc (.cells #[.int .i64 7, .string ⟨#[]⟩, .int .i64 0, .int .i64 0, .int .i64 0, .slice none 0 0, .slice none 0 0, .slice (some ⟨w.heap.size + 1 + 1 + 1 + 1, 0, none⟩) 2 2] 26) = w6 := by rw [h1, h2, h3, h4, h5, h6]
  have hB : NoR w6 w6.heap.size [.int .i64 14, .string ⟨#[45]⟩, .int .i64 0, .int .i64 0, .int .i64 0, .slice none 0 0, .slice none 0 0, .slice (some ⟨w.heap.size + 1, 0, none⟩) 2 2] bN := .mk (text := [45]) (Sl.nil _ _ _) .nil (Sl.nil _ _ _) (row_sl r2 (by rw [s6]; omega) rfl (by decide)) (.cons (leaf_r _ _ 4 0 [97]) (.cons (leaf_r _ _ 0 5 []) .nil))
  have hI : NoR w6 w6.heap.size [.int .i64 12, .string ⟨#[]⟩, .int .i64 2, .int .i64 0, .int .i64 0, .slice none 0 0, .slice none 0 0, .slice (some ⟨w.heap.size + 1 + 1 + 1, 0, none⟩) 1 1] isN := .mk (text := []) (Sl.nil _ _ _) .nil (Sl.nil _ _ _) (row_sl r4 (by rw [s6]; omega) rfl (by decide)) (.cons (leaf_r _ _ 4 0 [97]) .nil)
  have hC : NoR w6 w6.heap.size [.int .i64 7, .string ⟨#[]⟩, .int .i64 0, .int .i64 0, .int .i64 0, .slice none 0 0, .slice none 0 0, .slice (some ⟨w.heap.size + 1 + 1 + 1 + 1, 0, none⟩) 2 2] cN := .mk (text := []) (Sl.nil _ _ _) .nil (Sl.nil _ _ _) (row_sl r5 (by rw [s6]; omega) rfl (by decide)) (.cons (leaf_r _ _ 4 0 [97]) (.cons hI .nil))
  have hX6 := hX.below hbl
  have E1 := texpr_any w6 _ bN hB (by simp [bN, aN, fiveN, okN, okNs, In64, maxLen]) (by simp [bN, aN, fiveN, cntN, cntNs, cntTs]) hX6
  rw [b_text] at E1
  have E1 := hid E1
  have E2 := hid (fun w7 (h : Below w6.heap.size w6 w7) => texpr_any w7 _ cN (hC.far (Nat.le_refl _) h) (by simp [cN, aN, isN, okN, okNs, In64, maxLen]) (by simp [cN, aN, isN, cntN, cntNs, cntTs]) (hX6.below h))
  rw [c_text] at E2
  have E3 := hid (fun w7 (h : Below w6.heap.size w6 w7) => texpr_any w7 _ noN (leaf_r w7 w7.heap.size 4 0 []) (by simp [noN, okN, okNs, In64, maxLen]) (by simp [noN, cntN, cntNs, cntTs]) (hX6.below h))
  rw [no_text] at E3
  have E4 := hid (fun w7 (h : Below w6.heap.size w6 w7) => ttype_any w7 [.int .i64 0, sv [], .slice none 0 0, .slice none 0 0] (.mk 0 [] [] []) (.mk (Sl.nil _ _ _) (Sl.nil _ _ _) .nil) (by simp [okT, okTs, In64, maxLen]) (by simp [cntT, cntTs]) (hX6.below h))
  rw [any_text] at E4
  have HC6 := hid bb6
  have HW := hid hW
  have HB := hid hbl
  clear hX hX6 hB hI hC r2 r4 r5 bb1 bb2 bb3 bb4 bb5 bb6 s1 s2 s3 s4 s5 s6 h1 h2 h3 h4 h5 h6 hW hbl
  go_enter Tryz.func10, Tryz.ntmps10
  go_wp2_with fail
  have hW := HW.out
  rw [hW]
  clear hW
  refine E1.out.mono ?_
  rintro e w7 ⟨rfl, hb⟩
  have HB7 := hid hb
  obtain ⟨g0, g1, g2, g3, g4, g5, g6, g7⟩ := t_row8 ((hb.block _ (block_lt HC6.out)).trans HC6.out)
  clear hb
  go_wp2_with fail
  refine (E2.out _ HB7.out).mono ?_
  rintro e w8 ⟨rfl, hb⟩
  have HB8 := hid (HB7.out.trans (hb.mono HB7.out.size))
  clear hb g0 g1 g2 g3 g4 g5 g6 g7
  go_wp2_with fail
  refine (E3.out _ HB8.out).mono ?_
  rintro e w9 ⟨rfl, hb⟩
  have HB9 := hid (HB8.out.trans (hb.mono HB8.out.size))
  clear hb
  go_wp2_with fail
  refine (E4.out _ HB9.out).mono ?_
  rintro e w10 ⟨rfl, hb⟩
  have HB10 := hid (HB9.out.trans (hb.mono HB9.out.size))
  clear hb
  go_wp2_with fail
  go_ret
  exact ⟨rfl, HB.out.trans (HB10.out.mono HB.out.size)⟩
end Go.Proofs.YtbpedjkebemhnaaGreatDoor
end
section
/- The law TreePieces walked. -/
set_option linter.unusedVariables false
namespace Go.Proofs.YtbpedjkebemhnaaGreatDoor
open Go.RowKit

theorem trow_one {α : Type} {R : List Value → α → Prop} {k : Nat} {z : List Value} {c : α} (hz : z.length = k) (h : R z c) : TRow R k z [c] := by
  have := TRow.cons (R := R) hz h .nil
  rwa [List.append_nil] at this
end Go.Proofs.YtbpedjkebemhnaaGreatDoor
end
