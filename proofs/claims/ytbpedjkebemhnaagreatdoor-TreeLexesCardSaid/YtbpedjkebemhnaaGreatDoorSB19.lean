/- GO, XO, ZL, VW, VY -/
import Derived.Test.YtbpedjkebemhnaaGreatDoorSB09
import Derived.Test.YtbpedjkebemhnaaGreatDoorSB10
import Derived.Test.YtbpedjkebemhnaaGreatDoorSB06
import Derived.Test.YtbpedjkebemhnaaGreatDoorSB01
import Derived.Test.YtbpedjkebemhnaaGreatDoorSB18
import Derived.Test.YtbpedjkebemhnaaGreatDoorSB04
import Derived.Test.YtbpedjkebemhnaaGreatDoorCards
import Derived.Test.YtbpedjkebemhnaaGreatDoorTie
import Derived.ProofKit
import Derived.OpenShut
import Derived.LaidMore
import Derived.LaidSub
import Derived.Stop.Joined
import Derived.Stop.LaidErr
import Derived.Lib.LaidTab
import Derived.Deep.DeepHandedRow
import Derived.Deep.DeepWitnessRowRef
set_option linter.unusedSimpArgs false
set_option linter.unusedVariables false
section
/- Texts that belong together: UV, UW. -/
/- The law's measure of a type: heavy. -/
set_option linter.unusedVariables false
namespace Go.Proofs.YtbpedjkebemhnaaGreatDoor
open Go.RowKit

def HvC (t : TyD) : Prop := ∀ (w : World) (z : List Value) (m : Nat), TyR w w.heap.size z t → 1 ≤ m → m ≤ 1000000 →
  Calls Tryz.prog 14 #[.agg z.toArray, .int .i64 (m : Int)] w fun e w' => e = .returned (.int .i64 (heavyB t m : Nat)) ∧ Below w.heap.size w w'
theorem drop_cons {α : Type} {l : List α} {i : Nat} (h : i < l.length) : l.drop i = l[i] :: l.drop (i + 1) := List.drop_eq_getElem_cons h
set_option maxRecDepth 100000 in
set_option maxHeartbeats 4000000 in
theorem heavy_step (t : TyD) (ih : ∀ x ∈ t.kids, HvC x) : HvC t := by
  intro w z m hr hm1 hm
  obtain ⟨k, nm, ns, ks⟩ := t
  have ih : ∀ x ∈ ks, HvC x := ih
  obtain ⟨A1, c1, A2, c2, xk, rfl, s1, s2, r2⟩ := hr.parts
  have l1 := (t_sl_len s1).2
  have l2 := (t_sl_len s2).2
  obtain ⟨W1, hW1⟩ : ∃ W1, W1 = w.alloc (.cells #[.int .i64 k, sv nm, .slice A1 ns.length c1, .slice A2 ks.length c2] 32) := ⟨_, rfl⟩
  have hb1 : Below w.heap.size w W1 := by rw [hW1]; exact (Below.refl _ _).alloc (Nat.le_refl _) _
  have hbx : W1.heap[w.heap.size]? = some (.cells #[.int .i64 k, sv nm, .slice A1 ns.length c1, .slice A2 ks.length c2] 32 (0, 0)) := by rw [hW1]; exact heap_alloc_new w _
  have HWE := hid hW1
  have HB1 := hid hb1
  have HBX := hid hbx
  have HT : Hid (heavyB (.mk k nm ns ks) m = if m < ks.length ∨ m < ns.length then 0 else heaviesB ks (m - 1)) := hid (by rw [heavyB])
  rw [HT.out]
  have HS := hid (And.intro (Sl.more (Sl.below s2 hb1) hb1.size) ((r2.keep hb1).more hb1.size))
  have HIH := hid ih
  clear hr s1 s2 r2 hb1 hbx ih HT
  have hsm : Below w.heap.size w W1 := HB1.out
  by_cases ha : m < ks.length
  · have g1 : decide ((m : Int) < (ks.length : Int)) = true := by simp; omega
    have HE : Hid ((if m < ks.length ∨ m < ns.length then 0 else heaviesB ks (m - 1)) = 0) := hid (if_pos (.inl ha))
    rw [HE.out]
    rw [hW1] at hsm
    have HSM := hid hsm
    clear hsm hW1
    go_enter Tryz.func14, Tryz.ntmps14
    go_wp2_with fail
    go_ret
    exact ⟨rfl, HSM.out⟩
  by_cases hc : m < ns.length
  · have g1 : decide ((m : Int) < (ks.length : Int)) = false := by simp; omega
    have g2 : decide ((m : Int) < (ns.length : Int)) = true := by simp; omega
    have HE : Hid ((if m < ks.length ∨ m < ns.length then 0 else heaviesB ks (m - 1)) = 0) := hid (if_pos (.inr hc))
    rw [HE.out]
    rw [hW1] at hsm
    have HSM := hid hsm
    clear hsm hW1
    go_enter Tryz.func14, Tryz.ntmps14
    go_wp2_with fail
    go_ret
    exact ⟨rfl, HSM.out⟩
  have g1 : decide ((m : Int) < (ks.length : Int)) = false := by simp; omega
  have g2 : decide ((m : Int) < (ns.length : Int)) = false := by simp; omega
  have HE : Hid ((if m < ks.length ∨ m < ns.length then 0 else heaviesB ks (m - 1)) = heaviesB ks (m - 1)) := hid (if_neg (by omega))
  rw [HE.out]
  clear HE
  obtain ⟨p, rfl⟩ : ∃ p, m = p + 1 := ⟨m - 1, by omega⟩
  rw [show p + 1 - 1 = p from rfl]
  obtain ⟨a, hA⟩ : ∃ a, ks.length = a := ⟨_, rfl⟩
  rw [hA] at g1 l2 HBX hW1 HWE HS ⊢
  have HA := hid hA
  clear hA hsm
  rw [HA.out] at ha
  have e1 : ¬ (p : Int) + 1 < (a : Int) := by omega
  have e2 : ¬ (p : Int) + 1 < (ns.length : Int) := by omega
  have g1 : decide ((p : Int) + 1 < (a : Int)) = false := decide_eq_false e1
  have g2 : decide ((p : Int) + 1 < (ns.length : Int)) = false := decide_eq_false e2
  clear ha hc
  go_enter Tryz.func14, Tryz.ntmps14
  go_wp2_with fail
  rw [← hW1]
  clear hW1 e1 e2 g1 g2
  go_loopw [1, 5] (fun v1 v5 wr => ∃ i c : Nat, v5 = .int .i64 i ∧ v1 = .int .i64 c ∧ i ≤ a ∧ c ≤ p ∧ heaviesB (ks.drop i) c = heaviesB ks p ∧ Below W1.heap.size W1 wr) (fun _ v5 _ => a - (intOf v5).toNat)
  case atStart => exact ⟨0, p, rfl, rfl, by omega, by omega, rfl, Below.refl _ _⟩
  case round =>
    obtain ⟨i, c, rfl, rfl, hi, hcp, hinv, hbr⟩ := hrel
    obtain ⟨_, _, _, q3⟩ := t_row4 ((hbr.block _ (block_lt HBX.out)).trans HBX.out)
    have HI := hid hinv
    have HB := hid hbr
    clear hinv
    by_cases hlt : i < a
    · have hil : i < ks.length := by rw [HA.out]; exact hlt
      rcases Nat.eq_zero_or_pos c with rfl | hc0
      · have HZ : Hid (heaviesB ks p = 0) := hid (by rw [← HI.out, heavies_zero])
        try rw [HZ.out]
        have HZB := hid (HB1.out.trans (HB.out.mono HB1.out.size))
        clear hbr
        go_wp2_with fail
        go_ret
        exact ⟨by first | rfl | (rw [HZ.out]; rfl), HZB.out⟩
      · have hs2 : Sl wr wr.heap.size 4 (.slice A2 a c2) xk := Sl.more (Sl.below HS.out.1 hbr) hbr.size
        have hr2 : TysR wr wr.heap.size xk ks := (HS.out.2.keep hbr).more hbr.size
        obtain ⟨b2, o2, kk, ss, A3, n3, c3, A4, n4, c4, rfl, hr1, e0, e1, e2, e3⟩ := elem_at hs2 hr2 hil HA.out.symm
        have HH := hid (HIH.out _ (List.getElem_mem hil) wr _ c hr1 hc0 (by omega))
        have hle := heavy_le ks[i] c
        have HN : Hid (heaviesB (ks.drop (i + 1)) (heavyB ks[i] c) = heaviesB ks p) := hid (by rw [← HI.out, drop_cons hil, heavies_cons hc0])
        have g3 : decide ((0 : Int) < (c : Int)) = true := by simp; omega
        clear hs2 hr2 hr1 hbr
        generalize heavyB ks[i] c = q at *
        go_wp2_with fail
        refine HH.out.mono ?_
        rintro e w2 ⟨rfl, hb⟩
        have HB2 := hid (HB.out.trans (hb.mono HB.out.size))
        clear hb
        go_wp2_with fail
        go_roundw
        case rel => exact ⟨i + 1, q, rfl, rfl, by omega, by omega, HN.out, HB2.out⟩
        case measure => simp [intOf]; omega
    · obtain rfl : i = a := by omega
      have HZ : Hid (heaviesB ks p = c) := hid (by rw [← HI.out, List.drop_of_length_le (by rw [HA.out]; omega), heaviesB])
      try rw [HZ.out]
      have HZB := hid (HB1.out.trans (HB.out.mono HB1.out.size))
      clear hbr
      go_wp2_with fail
      go_ret
      exact ⟨by first | rfl | (rw [HZ.out]; rfl), HZB.out⟩
theorem heavy_ind : ∀ (N : Nat) (t : TyD), cntT t ≤ N → HvC t
  | 0, t, h => absurd (cnt_pos t) (by omega)
  | N + 1, t, h => heavy_step t fun x hx => heavy_ind N x (by
    obtain ⟨k, nm, ns, ks⟩ := t
    have := cnt_mem (show x ∈ ks from hx)
    rw [cntT] at h
    omega)
theorem heavy_any (t : TyD) : HvC t := heavy_ind _ t (Nat.le_refl _)
end Go.Proofs.YtbpedjkebemhnaaGreatDoor

/- The law's measure of a node: weight. -/
set_option linter.unusedVariables false
namespace Go.Proofs.YtbpedjkebemhnaaGreatDoor
open Go.RowKit

def NoD.kids : NoD → List NoD | .mk _ _ _ _ _ _ _ k => k
def WtD (t : NoD) : Prop := ∀ (w : World) (z : List Value) (m : Nat), NoR w w.heap.size z t → okN t → 1 ≤ m → m ≤ 1000000 →
  Calls Tryz.prog 11 #[.agg z.toArray, .int .i64 (m : Int)] w fun e w' => e = .returned (.int .i64 (weightB t m : Nat)) ∧ Below w.heap.size w w'
set_option maxRecDepth 100000 in
set_option maxHeartbeats 8000000 in
theorem weight_step (t : NoD) (ih : ∀ x ∈ t.kids, WtD x) : WtD t := by
  intro w z m hr hfit hm1 hm
  obtain ⟨k, text, n, li, co, ts, ns, ks⟩ := t
  have ih : ∀ x ∈ ks, WtD x := ih
  rw [okN] at hfit
  obtain ⟨_, ht, _, _, _, _, _, hfk⟩ := hfit
  obtain ⟨A1, c1, A2, c2, A3, c3, xt, xk, rfl, s1, r1, s2, s3, r3⟩ := hr.parts
  have l1 := (t_sl_len s1).2
  have l2 := (t_sl_len s2).2
  have l3 := (t_sl_len s3).2
  have hsz := sv_size text
  obtain ⟨W1, hW1⟩ : ∃ W1, W1 = w.alloc (.cells #[.int .i64 k, sv text, .int .i64 n, .int .i64 li, .int .i64 co, .slice A1 ts.length c1, .slice A2 ns.length c2, .slice A3 ks.length c3] 26) := ⟨_, rfl⟩
  have hb1 : Below w.heap.size w W1 := by rw [hW1]; exact (Below.refl _ _).alloc (Nat.le_refl _) _
  have hbx : W1.heap[w.heap.size]? = some (.cells #[.int .i64 k, sv text, .int .i64 n, .int .i64 li, .int .i64 co, .slice A1 ts.length c1, .slice A2 ns.length c2, .slice A3 ks.length c3] 26 (0, 0)) := by rw [hW1]; exact heap_alloc_new w _
  have HB1 := hid hb1
  have HBX := hid hbx
  have HT : Hid (weightB (.mk k text n li co ts ns ks) m = if m < ks.length ∨ m < ts.length ∨ m < ns.length ∨ 5000 < text.length then 0 else weightsB ks (heaviesB ts (m - 1))) := hid (by rw [weightB])
  rw [HT.out]
  have HS1 := hid (And.intro (Sl.more (Sl.below s1 hb1) hb1.size) ((r1.keep hb1).more hb1.size))
  have HS3 := hid (And.intro (Sl.more (Sl.below s3 hb1) hb1.size) ((r3.keep hb1).more hb1.size))
  have HIH := hid ih
  have HFK := hid hfk
  unfold maxLen at ht
  clear hr s1 r1 s2 s3 r3 hbx ih HT hfk
  obtain ⟨a, hA⟩ : ∃ a, ks.length = a := ⟨_, rfl⟩
  obtain ⟨b, hB⟩ : ∃ b, ts.length = b := ⟨_, rfl⟩
  obtain ⟨d, hD⟩ : ∃ d, ns.length = d := ⟨_, rfl⟩
  obtain ⟨g, hG⟩ : ∃ g, text.length = g := ⟨_, rfl⟩
  rw [hA, hB, hD] at hW1 HBX ⊢
  rw [hA] at HS3 l3
  rw [hB] at HS1 l1
  rw [hD] at l2
  rw [hG] at hsz ht ⊢
  have HA := hid hA
  have HBL := hid hB
  clear hA hB hD hG
  by_cases e1 : m < a
  · have g1 : decide ((m : Int) < (a : Int)) = true := by simp; omega
    have HE : Hid ((if m < a ∨ m < b ∨ m < d ∨ 5000 < g then 0 else weightsB ks (heaviesB ts (m - 1))) = 0) := hid (if_pos (.inl e1))
    rw [HE.out]
    rw [hW1] at hb1
    have HSM := hid hb1
    clear hb1 hW1
    go_enter Tryz.func11, Tryz.ntmps11
    go_wp2_with fail
    go_ret
    exact ⟨rfl, HSM.out⟩
  have g1 : decide ((m : Int) < (a : Int)) = false := by simp; omega
  by_cases e2 : m < b
  · have g2 : decide ((m : Int) < (b : Int)) = true := by simp; omega
    have HE : Hid ((if m < a ∨ m < b ∨ m < d ∨ 5000 < g then 0 else weightsB ks (heaviesB ts (m - 1))) = 0) := hid (if_pos (.inr (.inl e2)))
    rw [HE.out]
    rw [hW1] at hb1
    have HSM := hid hb1
    clear hb1 hW1
    go_enter Tryz.func11, Tryz.ntmps11
    go_wp2_with fail
    go_ret
    exact ⟨rfl, HSM.out⟩
  have g2 : decide ((m : Int) < (b : Int)) = false := by simp; omega
  by_cases e3 : m < d
  · have g3 : decide ((m : Int) < (d : Int)) = true := by simp; omega
    have HE : Hid ((if m < a ∨ m < b ∨ m < d ∨ 5000 < g then 0 else weightsB ks (heaviesB ts (m - 1))) = 0) := hid (if_pos (.inr (.inr (.inl e3))))
    rw [HE.out]
    rw [hW1] at hb1
    have HSM := hid hb1
    clear hb1 hW1
    go_enter Tryz.func11, Tryz.ntmps11
    go_wp2_with fail
    go_ret
    exact ⟨rfl, HSM.out⟩
  have g3 : decide ((m : Int) < (d : Int)) = false := by simp; omega
  by_cases e4 : 5000 < g
  · have g4 : decide ((5000 : Int) < (g : Int)) = true := by simp; omega
    have HE : Hid ((if m < a ∨ m < b ∨ m < d ∨ 5000 < g then 0 else weightsB ks (heaviesB ts (m - 1))) = 0) := hid (if_pos (.inr (.inr (.inr e4))))
    rw [HE.out]
    rw [hW1] at hb1
    have HSM := hid hb1
    clear hb1 hW1
    go_enter Tryz.func11, Tryz.ntmps11
    go_wp2_with fail
    go_ret
    exact ⟨rfl, HSM.out⟩
  have g4 : decide ((5000 : Int) < (g : Int)) = false := by simp; omega
  have HE : Hid ((if m < a ∨ m < b ∨ m < d ∨ 5000 < g then 0 else weightsB ks (heaviesB ts (m - 1))) = weightsB ks (heaviesB ts (m - 1))) := hid (if_neg (by omega))
  rw [HE.out]
  clear HE hb1
  obtain ⟨p, rfl⟩ : ∃ p, m = p + 1 := ⟨m - 1, by omega⟩
  rw [show p + 1 - 1 = p from rfl]
  have f1 : ¬ (p : Int) + 1 < (a : Int) := by omega
  have f2 : ¬ (p : Int) + 1 < (b : Int) := by omega
  have f3 : ¬ (p : Int) + 1 < (d : Int) := by omega
  have g1 : decide ((p : Int) + 1 < (a : Int)) = false := decide_eq_false f1
  have g2 : decide ((p : Int) + 1 < (b : Int)) = false := decide_eq_false f2
  have g3 : decide ((p : Int) + 1 < (d : Int)) = false := decide_eq_false f3
  clear e1 e2 e3 e4
  go_enter Tryz.func11, Tryz.ntmps11
  go_wp2_with fail
  rw [← hW1]
  clear hW1 f1 f2 f3 g1 g2 g3 g4
  go_loopw [1, 5] (fun v1 v5 wr => ∃ i c : Nat, v5 = .int .i64 i ∧ v1 = .int .i64 c ∧ i ≤ b ∧ c ≤ p ∧ heaviesB (ts.drop i) c = heaviesB ts p ∧ Below W1.heap.size W1 wr) (fun _ v5 _ => b - (intOf v5).toNat)
  case atStart => exact ⟨0, p, rfl, rfl, by omega, by omega, rfl, Below.refl _ _⟩
  case round =>
    obtain ⟨i, c, rfl, rfl, hi, hcp, hinv, hbr⟩ := hrel
    obtain ⟨_, _, _, _, _, q5, _, _⟩ := t_row8 ((hbr.block _ (block_lt HBX.out)).trans HBX.out)
    have HI := hid hinv
    have HB := hid hbr
    clear hinv
    by_cases hgo : i < b ∧ 0 < c
    · obtain ⟨hlt, hc0⟩ := hgo
      have hil : i < ts.length := by rw [HBL.out]; exact hlt
      have hs2 : Sl wr wr.heap.size 4 (.slice A1 b c1) xt := Sl.more (Sl.below HS1.out.1 hbr) hbr.size
      have hr2 : TysR wr wr.heap.size xt ts := (HS1.out.2.keep hbr).more hbr.size
      obtain ⟨b2, o2, kk, ss, A4, n4, c4, A5, n5, c5, rfl, hr1, e0, e1, e2, e3⟩ := elem_at hs2 hr2 hil HBL.out.symm
      have HH := hid (heavy_any ts[i] wr _ c hr1 hc0 (by omega))
      have hle := heavy_le ts[i] c
      have HN : Hid (heaviesB (ts.drop (i + 1)) (heavyB ts[i] c) = heaviesB ts p) := hid (by rw [← HI.out, drop_cons hil, heavies_cons hc0])
      have g5 : decide ((0 : Int) < (c : Int)) = true := by simp; omega
      clear hs2 hr2 hr1 hbr
      generalize heavyB ts[i] c = q at *
      go_wp2_with fail
      refine HH.out.mono ?_
      rintro e w2 ⟨rfl, hb⟩
      have HB2 := hid (HB.out.trans (hb.mono HB.out.size))
      clear hb
      go_wp2_with fail
      go_roundw
      case rel => exact ⟨i + 1, q, rfl, rfl, by omega, by omega, HN.out, HB2.out⟩
      case measure => simp [intOf]; omega
    · have HZ : Hid (heaviesB ts p = c) := hid (by
        rw [← HI.out]
        rcases Nat.eq_zero_or_pos c with rfl | h0
        · rw [heavies_zero]
        · rw [List.drop_of_length_le (by rw [HBL.out]; omega), heaviesB])
      try rw [HZ.out]
      clear HI hbr
      have hexit : (i < b ∧ c = 0) ∨ i = b := by omega
      have HC0 : Hid (i < b → ¬ (0 : Int) < (c : Int)) := hid (fun h h2 => hgo ⟨h, by omega⟩)
      rcases hexit with ⟨hlt, hcz⟩ | rfl
      all_goals
        clear hgo
        try (have f5 := HC0.out hlt; have g5 : decide ((0 : Int) < (c : Int)) = false := decide_eq_false f5)
        try clear hcz
        go_wp2_with fail
        go_loopw [1, 6] (fun v1 v6 wr => ∃ i c' : Nat, v6 = .int .i64 i ∧ v1 = .int .i64 c' ∧ i ≤ a ∧ c' ≤ p ∧ weightsB (ks.drop i) c' = weightsB ks (heaviesB ts p) ∧ Below W1.heap.size W1 wr) (fun _ v6 _ => a - (intOf v6).toNat)
        case atStart => exact ⟨0, _, rfl, rfl, by omega, by omega, by first | rfl | (rw [HZ.out]; rfl), HB.out⟩
        case round =>
          obtain ⟨i2, c', rfl, rfl, hi2, hcp2, hinv2, hbr2⟩ := hrel
          obtain ⟨_, _, _, _, _, _, _, q7⟩ := t_row8 ((hbr2.block _ (block_lt HBX.out)).trans HBX.out)
          have HI2 := hid hinv2
          have HB2 := hid hbr2
          clear hinv2
          by_cases hgo2 : i2 < a ∧ 0 < c'
          · obtain ⟨hlt2, hc02⟩ := hgo2
            have hil2 : i2 < ks.length := by rw [HA.out]; exact hlt2
            have hs3 : Sl wr wr.heap.size 8 (.slice A3 a c3) xk := Sl.more (Sl.below HS3.out.1 hbr2) hbr2.size
            have hr3 : NosR wr wr.heap.size xk ks := (HS3.out.2.keep hbr2).more hbr2.size
            obtain ⟨b2, o2, kk, ss, w2, w3, w4, A4, n4, c4, A5, n5, c5, A6, n6, c6, rfl, hr1, e0, e1, e2, e3, e4, e5, e6, e7⟩ := node_at hs3 hr3 hil2 HA.out.symm
            have HH := hid (HIH.out _ (List.getElem_mem hil2) wr _ c' hr1 (okNs_mem.1 HFK.out _ (List.getElem_mem hil2)) hc02 (by omega))
            have hle := weight_le ks[i2] c'
            have HN : Hid (weightsB (ks.drop (i2 + 1)) (weightB ks[i2] c') = weightsB ks (heaviesB ts p)) := hid (by rw [← HI2.out, drop_cons hil2, weights_cons hc02])
            have g5 : decide ((0 : Int) < (c' : Int)) = true := by simp; omega
            clear hs3 hr3 hr1 hbr2
            generalize weightB ks[i2] c' = q at *
            go_wp2_with fail
            refine HH.out.mono ?_
            rintro e wq ⟨rfl, hb⟩
            have HB3 := hid (HB2.out.trans (hb.mono HB2.out.size))
            clear hb
            go_wp2_with fail
            go_roundw
            case rel => exact ⟨i2 + 1, q, rfl, rfl, by omega, by omega, HN.out, HB3.out⟩
            case measure => simp [intOf]; omega
          · have HZ2 : Hid (weightsB ks (heaviesB ts p) = c') := hid (by
              rw [← HI2.out]
              rcases Nat.eq_zero_or_pos c' with rfl | h0
              · rw [weights_zero]
              · rw [List.drop_of_length_le (by rw [HA.out]; omega), weightsB])
            try rw [HZ2.out]
            have HZB := hid (HB1.out.trans (HB2.out.mono HB1.out.size))
            have hexit2 : (i2 < a ∧ c' = 0) ∨ i2 = a := by omega
            clear hbr2 hgo2
            rcases hexit2 with ⟨hlt2, rfl⟩ | rfl
            · go_wp2_with fail
              go_ret
              exact ⟨by first | rfl | (rw [HZ2.out]; rfl), HZB.out⟩
            · go_wp2_with fail
              go_ret
              exact ⟨by first | rfl | (rw [HZ2.out]; rfl), HZB.out⟩
theorem weight_ind : ∀ (N : Nat) (t : NoD), cntN t ≤ N → WtD t
  | 0, t, h => absurd (cntN_pos t) (by omega)
  | N + 1, t, h => weight_step t fun x hx => weight_ind N x (by
    obtain ⟨k, text, n, li, co, ts, ns, ks⟩ := t
    have := cntN_mem (show x ∈ ks from hx)
    rw [cntN] at h
    omega)
theorem weight_any (t : NoD) : WtD t := weight_ind _ t (Nat.le_refl _)
end Go.Proofs.YtbpedjkebemhnaaGreatDoor
end
section
/- The cells of a row of tokens (these lemmas stand in XP and XU as well, for the seats that were handed in before). -/
set_option linter.unusedVariables false
namespace Go.Proofs.YtbpedjkebemhnaaGreatDoor
open Go.RowKit

theorem tok_cells {w : World} {base n : Nat} {g c : Nat} {l : List TokD} (h : w.ownsRow base 55 4 (.slice (some ⟨g, 0, none⟩) n c) n (tokCells l)) {i : Nat} (hi : i < l.length) :
    w.cell? ⟨g, i * 4, none⟩ = some (.int .i64 l[i].kind) ∧ w.cell? ⟨g, i * 4 + 1, none⟩ = some (sv l[i].text) ∧ w.cell? ⟨g, i * 4 + 2, none⟩ = some (.int .i64 (l[i].line : Nat)) ∧ w.cell? ⟨g, i * 4 + 3, none⟩ = some (.int .i64 (l[i].col : Nat)) := by
  have hc := h.cells (g := g) rfl
  have key : ∀ (l : List TokD) (i : Nat) (hi : i < l.length), (tokCells l)[i * 4]? = some (.int .i64 l[i].kind) ∧ (tokCells l)[i * 4 + 1]? = some (sv l[i].text) ∧ (tokCells l)[i * 4 + 2]? = some (.int .i64 (l[i].line : Nat)) ∧ (tokCells l)[i * 4 + 3]? = some (.int .i64 (l[i].col : Nat)) := by
    intro l
    induction l with
    | nil => intro i hi; simp at hi
    | cons t l ih =>
      intro i hi
      have e : tokCells (t :: l) = tokV t ++ tokCells l := rfl
      have hl : (tokV t).length = 4 := rfl
      rw [e]
      rcases i with _ | i
      · exact ⟨rfl, rfl, rfl, rfl⟩
      · obtain ⟨a, b, c, d⟩ := ih i (by simpa using hi)
        rw [show (i + 1) * 4 = i * 4 + 4 from by omega]
        refine ⟨?_, ?_, ?_, ?_⟩
        · rw [List.getElem?_append_right (by omega), hl]; simpa using a
        · rw [List.getElem?_append_right (by omega), hl, show i * 4 + 4 + 1 - 4 = i * 4 + 1 from by omega]; simpa using b
        · rw [List.getElem?_append_right (by omega), hl, show i * 4 + 4 + 2 - 4 = i * 4 + 2 from by omega]; simpa using c
        · rw [List.getElem?_append_right (by omega), hl, show i * 4 + 4 + 3 - 4 = i * 4 + 3 from by omega]; simpa using d
  obtain ⟨a, b, c', d⟩ := key l i hi
  have h1 := hc _ _ a
  have h2 := hc _ _ b
  have h3 := hc _ _ c'
  have h4 := hc _ _ d
  rw [plain_add, Nat.zero_add] at h1 h2 h3 h4
  exact ⟨h1, h2, h3, h4⟩
theorem own_slice {w : World} {base : Nat} {e : TypeId} {k n : Nat} {v : Value} {xs : List Value} (h : w.ownsRow base e k v n xs) : ∃ A c, v = .slice A n c ∧ n ≤ maxLen := by
  rcases h.2 with ⟨rfl, rfl⟩ | ⟨g, cap, cur, rfl, hg, hb, hn, hm, r⟩
  · exact ⟨none, 0, rfl, Nat.zero_le _⟩
  · exact ⟨_, cap, rfl, Nat.le_trans hn hm⟩
end Go.Proofs.YtbpedjkebemhnaaGreatDoor
end
section
/- The law TreeLexes walked. -/
set_option linter.unusedVariables false
namespace Go.Proofs.YtbpedjkebemhnaaGreatDoor
open Go.RowKit

set_option maxRecDepth 100000 in
set_option maxHeartbeats 8000000 in
theorem treelexes_any (z : List Value) (t : NoD) (w : World) (hr : NoR w w.heap.size z t) (hok : okN t) (hL : LaidX w) :
    Calls Tryz.prog 8 #[.agg z.toArray] w fun e w' => e = .returned (.bool true) ∧ Below w.heap.size w w' := by
  have hX := hL.t
  obtain ⟨k, s, v2, v3, v4, A1, n1, c1, A2, n2, c2, A3, n3, c3, rfl⟩ := hr.shape
  obtain ⟨W, hW⟩ : ∃ W, w.alloc (.cells #[.int .i64 k, .string s, .int .i64 v2, .int .i64 v3, .int .i64 v4, .slice A1 n1 c1, .slice A2 n2 c2, .slice A3 n3 c3] 26) = W := ⟨_, rfl⟩
  have hb1 : Below w.heap.size w W := by rw [← hW]; exact (Below.refl _ _).alloc (Nat.le_refl _) _
  have hbx : W.heap[w.heap.size]? = some (.cells #[.int .i64 k, .string s, .int .i64 v2, .int .i64 v3, .int .i64 v4, .slice A1 n1 c1, .slice A2 n2 c2, .slice A3 n3 c3] 26 (0, 0)) := by rw [← hW]; exact heap_alloc_new w _
  have HA := awake_any W (hX.below hb1)
  rw [← hW] at HA
  have HA := hid HA
  have HFR := hid (fun (w1 : World) (h : Below W.heap.size W w1) => hr.far (Nat.le_refl _) (hb1.trans (h.mono hb1.size)))
  have HX := hid (hX.below hb1)
  have HLX := hid (hL.below hb1)
  have HB := hid hb1
  have HBX := hid hbx
  have HWE := hid hW
  have HOK := hid hok
  clear hr hX hL hb1 hbx hW hok
  go_enter Tryz.func8, Tryz.ntmps8
  go_wp2_with fail
  refine HA.out.mono ?_
  rintro e w2 ⟨rfl, hb⟩
  rw [HWE.out] at hb
  have HB2 := hid hb
  obtain ⟨g0, g1, g2, g3, g4, g5, g6, g7⟩ := t_row8 ((hb.block _ (block_lt HBX.out)).trans HBX.out)
  clear hb
  go_wp2_with fail
  refine (weight_any t w2 _ 300 (HFR.out w2 HB2.out) HOK.out (by omega) (by omega)).mono ?_
  rintro e w3 ⟨rfl, hb⟩
  have HB3 := hid (HB2.out.trans (hb.mono HB2.out.size))
  have hcn := weight_cnt t 300
  clear hb g0 g1 g2 g3 g4 g5 g6 g7
  obtain ⟨g0, g1, g2, g3, g4, g5, g6, g7⟩ := t_row8 ((HB3.out.block _ (block_lt HBX.out)).trans HBX.out)
  generalize weightB t 300 = q at *
  by_cases h0 : q = 0
  · have g : ((q : Int) == 0) = true := by rw [beq_iff_eq]; omega
    clear h0 hcn
    go_wp2_with fail
    go_ret
    exact ⟨rfl, HB.out.trans (HB3.out.mono HB.out.size)⟩
  have g : ((q : Int) == 0) = false := by rw [beq_eq_false_iff_ne]; omega
  have hc : cntN t ≤ 300 := by have := hcn (by omega); omega
  have hlaw := lexes_law t hc
  have HE := hid (texpr_any w3 _ t (HFR.out w3 HB3.out) HOK.out (by omega) (HX.out.below HB3.out))
  generalize exprT t = X at *
  clear h0 hcn hc
  go_wp2_with fail
  refine HE.out.mono ?_
  rintro e w4 ⟨rfl, hb⟩
  have HB4 := hid (HB3.out.trans (hb.mono HB3.out.size))
  clear hb g0 g1 g2 g3 g4 g5 g6 g7
  go_wp2_with fail
  refine (lex_any _ X (HLX.out.below HB4.out)).mono ?_
  rintro e w5 ⟨v, n, rfl, hrow, hb⟩
  have HB5 := hid (HB4.out.trans (hb.mono HB4.out.size))
  have HROW := hid hrow
  clear hb
  generalize hga : lexL X = ans at *
  obtain ⟨tx, lx, cx, ex⟩ := ans
  unfold diagV
  simp only []
  have hd := heap_alloc_new w5 (.cells #[.int .i64 0, .int .i64 (lx : Nat), .int .i64 (cx : Nat), .int .i64 ex] 51)
  have hd3 : (w5.alloc (.cells #[.int .i64 0, .int .i64 (lx : Nat), .int .i64 (cx : Nat), .int .i64 ex] 51)).cell? ⟨w5.heap.size, 3, none⟩ = some (.int .i64 ex) := (cell_of_row _ _ _ _ _ _ hd).trans rfl
  have HB6 : Hid (Below W.heap.size W (w5.alloc (.cells #[.int .i64 0, .int .i64 (lx : Nat), .int .i64 (cx : Nat), .int .i64 ex] 51))) := hid (HB5.out.alloc HB5.out.size _)
  have HROW6 := hid (hrow.alloc (.cells #[.int .i64 0, .int .i64 (lx : Nat), .int .i64 (cx : Nat), .int .i64 ex] 51))
  have hn1 : n = tx.length := by have := hrow.1; rw [tokCells_length] at this; simp only at this; omega
  subst hn1
  obtain ⟨A9, c9, rfl, hm9⟩ := own_slice hrow
  clear hrow HROW
  rcases hlaw with ⟨he, ht⟩ | ⟨l, hl, hdp, hl8⟩
  · simp only at he ht
    subst he ht
    go_wp2_with fail
    clear hd hd3
    go_loopw [6, 7] (fun v6 v7 wr => v6 = .int .i64 0 ∧ v7 = .int .i64 0 ∧ Below W.heap.size W wr) (fun _ _ _ => 0)
    case atStart => exact ⟨rfl, rfl, HB6.out⟩
    case round =>
      obtain ⟨rfl, rfl, hbr⟩ := hrel
      go_wp2_with fail
      go_ret
      exact ⟨rfl, HB.out.trans (hbr.mono HB.out.size)⟩
  · injection hl with h1 h2
    injection h2 with h2 h3
    injection h3 with h3 h4
    subst h1 h2 h3 h4
    have HDP := hid hdp
    have HGA := hid hga
    clear hdp hga
    go_wp2_with fail
    clear hd hd3
    go_loopw [6, 7] (fun v6 v7 wr => ∃ i c : Nat, v7 = .int .i64 i ∧ v6 = .int .i64 c ∧ i ≤ tx.length ∧ deepT 0 ((tx.take i).map ktOf) = some c ∧ c ≤ i ∧ wr.ownsRow w4.heap.size 55 4 (.slice A9 tx.length c9) tx.length (tokCells tx) ∧ Below W.heap.size W wr) (fun _ v7 _ => tx.length - (intOf v7).toNat)
    case atStart => exact ⟨0, 0, rfl, rfl, by omega, rfl, by omega, HROW6.out, HB6.out⟩
    case round =>
      obtain ⟨i, c, rfl, rfl, hi, hdc, hci, hrow, hbr⟩ := hrel
      have HDC := hid hdc
      have HROW := hid hrow
      have HBR := hid hbr
      clear hdc hbr
      by_cases hlt : i < tx.length
      · obtain ⟨c', e, s1, s2, s3⟩ := deep_step hlt HDP.out
        rw [HDC.out] at s1
        injection s1 with s1
        subst s1
        obtain ⟨g9, rfl⟩ : ∃ g, A9 = some ⟨g, 0, none⟩ := by
          rcases hrow.2 with ⟨h1, h2⟩ | ⟨g, cap, cur, h1, _⟩
          · omega
          · injection h1 with h1 _ _; exact ⟨g, h1⟩
        obtain ⟨d0, d1, _, _⟩ := tok_cells hrow hlt
        unfold ktOf stepD at s2
        simp only at s2
        have HS3 := hid s3
        clear s3 hrow
        generalize tx[i].kind = K at *
        generalize tx[i].text = T at *
        by_cases hk : K = 5
        · rw [if_pos hk] at s2
          have gk : (K != 5) = false := by rw [bne_eq_false_iff_eq]; exact hk
          clear hk
          have hx1 : c + 1 < 9223372036854775807 := by omega
          by_cases t1 : T = [40]
          · subst t1
            rw [if_pos (.inl rfl)] at s2
            injection s2 with s2
            subst s2
            go_wp2_with fail
            go_roundw
            case rel => exact ⟨i + 1, c + 1, rfl, rfl, by omega, HS3.out, by omega, HROW.out, HBR.out⟩
            case measure => simp [intOf]; omega
          by_cases t2 : T = [91]
          · subst t2
            rw [if_pos (.inr (.inl rfl))] at s2
            injection s2 with s2
            subst s2
            go_wp2_with fail
            go_roundw
            case rel => exact ⟨i + 1, c + 1, rfl, rfl, by omega, HS3.out, by omega, HROW.out, HBR.out⟩
            case measure => simp [intOf]; omega
          by_cases t3 : T = [123]
          · subst t3
            rw [if_pos (.inr (.inr rfl))] at s2
            injection s2 with s2
            subst s2
            go_wp2_with fail
            go_roundw
            case rel => exact ⟨i + 1, c + 1, rfl, rfl, by omega, HS3.out, by omega, HROW.out, HBR.out⟩
            case measure => simp [intOf]; omega
          rw [if_neg (by rintro (h | h | h) <;> contradiction)] at s2
          have q1 : (T == [40]) = false := by rw [beq_eq_false_iff_ne]; exact t1
          have q2 : (T == [91]) = false := by rw [beq_eq_false_iff_ne]; exact t2
          have q3 : (T == [123]) = false := by rw [beq_eq_false_iff_ne]; exact t3
          clear t1 t2 t3
          by_cases hcl : T = [41] ∨ T = [93] ∨ T = [125]
          · rw [if_pos hcl] at s2
            by_cases hc0 : c = 0
            · rw [if_pos hc0] at s2; cases s2
            rw [if_neg hc0] at s2
            injection s2 with s2
            obtain ⟨c2, rfl⟩ : ∃ c2, c = c2 + 1 := ⟨c - 1, by omega⟩
            obtain rfl : c2 = e := by omega
            have gz : decide ((c2 : Int) < 0) = false := by rw [decide_eq_false_iff_not]; omega
            clear hc0 s2
            rcases hcl with rfl | rfl | rfl
            all_goals
              go_wp2_with fail
              go_roundw
              case rel => exact ⟨i + 1, c2, rfl, by simp, by omega, HS3.out, by omega, HROW.out, HBR.out⟩
              case measure => simp [intOf]; omega
          · rw [if_neg hcl] at s2
            injection s2 with s2
            subst s2
            have q4 : (T == [41]) = false := by rw [beq_eq_false_iff_ne]; exact fun h => hcl (.inl h)
            have q5 : (T == [93]) = false := by rw [beq_eq_false_iff_ne]; exact fun h => hcl (.inr (.inl h))
            have q6 : (T == [125]) = false := by rw [beq_eq_false_iff_ne]; exact fun h => hcl (.inr (.inr h))
            clear hcl
            go_wp2_with fail
            go_roundw
            case rel => exact ⟨i + 1, c, rfl, rfl, by omega, HS3.out, by omega, HROW.out, HBR.out⟩
            case measure => simp [intOf]; omega
        · rw [if_neg hk] at s2
          injection s2 with s2
          subst s2
          have gk : (K != 5) = true := by rw [bne_iff_ne]; exact hk
          clear hk
          go_wp2_with fail
          go_roundw
          case rel => exact ⟨i + 1, c, rfl, rfl, by omega, HS3.out, by omega, HROW.out, HBR.out⟩
          case measure => simp [intOf]; omega
      · obtain rfl : i = tx.length := by omega
        rw [List.take_length] at HDC
        have hz := HDC.out.symm.trans HDP.out
        injection hz with hz
        subst hz
        clear hrow
        go_wp2_with fail
        go_ret
        exact ⟨rfl, HB.out.trans (HBR.out.mono HB.out.size)⟩
end Go.Proofs.YtbpedjkebemhnaaGreatDoor
end
section
/- What the tree rows' listed variables give the walks, and a world in which they read so. -/
set_option linter.unusedVariables false
namespace Go.Proofs.YtbpedjkebemhnaaGreatDoor
open Go.ChangeShapes Go.WideShapes Go.ChangeAt Go.RowKit

theorem own : ownKnob Tryz.prog.godebug = none := by kernel_rfl
theorem laidOut : laidOutB Tryz.prog = true := by kernel_rfl
theorem ascii_of {l : List (String × DataW Unit)} {W : World}
    (h1 : (l.filter fun x => x.1 == "strings.asciiSpace") = [("strings.asciiSpace", Lib.tabData .u8 Lib.asciiSpaceTab)])
    (h : laidMetH Tryz.prog l W) : Lib.TabIs Tryz.prog W "strings.asciiSpace" .u8 Lib.asciiSpaceTab := by
  have g1 := laidMetH.filter (fun x => x.1 == "strings.asciiSpace") h
  rw [h1] at g1
  rw [MakeChecks.laidMetH_plain _ _ _ (by kernel_rfl)] at g1
  exact Lib.tabIs_of_head (g := 0) (by kernel_rfl) (by kernel_rfl) Tryz.underlying120 Tryz.underlying5 (by kernel_rfl) (by kernel_rfl) g1
end Go.Proofs.YtbpedjkebemhnaaGreatDoor
end
section
/- What the listed variables of a row give that lexes, too. -/
set_option linter.unusedVariables false
namespace Go.Proofs.YtbpedjkebemhnaaGreatDoor
open Go.ChangeShapes Go.WideShapes Go.ChangeAt Go.RowKit

theorem star_es : "*" ++ "errors.errorString" = "*errors.errorString" := by decide
theorem row_es (u : TypeId) (h : Tryz.prog.typeName? 3 u = some "*errors.errorString") : u = 276 :=
  typeName_ptr_named (nm := "errors.errorString") (by rw [star_es]; kernel_rfl) (by kernel_rfl) (by decide) u (by rw [star_es]; exact h)

theorem laidW_of {l : List (String × DataW Unit)} {W : World} (hp : (l.all fun x => x.2.handleName?.isNone) = true)
    (h1 : (l.filter fun x => x.1 == "internal/strconv.uint64pow10") = [("internal/strconv.uint64pow10", Lib.tabData .u64 Lib.pow10Tab)])
    (h2 : (l.filter fun x => x.1 == "strconv.ErrSyntax") = [("strconv.ErrSyntax", Rows.laid_strconv_ErrSyntax)])
    (h3 : (l.filter fun x => x.1 == "strconv.ErrRange") = [("strconv.ErrRange", Rows.laid_strconv_ErrRange)])
    (h : laidMetH Tryz.prog l W) : LaidW W := by
  have g1 := laidMetH.filter (fun x => x.1 == "internal/strconv.uint64pow10") h
  have g2 := laidMetH.filter (fun x => x.1 == "strconv.ErrSyntax") h
  have g3 := laidMetH.filter (fun x => x.1 == "strconv.ErrRange") h
  rw [h1] at g1
  rw [h2] at g2
  rw [h3] at g3
  rw [MakeChecks.laidMetH_plain _ _ _ (by kernel_rfl)] at g1
  rw [MakeChecks.laidMetH_plain _ _ _ (by kernel_rfl)] at g2
  rw [MakeChecks.laidMetH_plain _ _ _ (by kernel_rfl)] at g3
  obtain ⟨a2, _, e2, _⟩ := laid_sentinel g2 (g := 3) (by kernel_rfl) (by kernel_rfl) Tryz.underlying78 row_es Tryz.underlying276 Tryz.underlying278 rfl rfl Tryz.underlying9 (by kernel_rfl) (by kernel_rfl)
  obtain ⟨a3, _, e3, _⟩ := laid_sentinel g3 (g := 4) (by kernel_rfl) (by kernel_rfl) Tryz.underlying78 row_es Tryz.underlying276 Tryz.underlying278 rfl rfl Tryz.underlying9 (by kernel_rfl) (by kernel_rfl)
  refine ⟨?_, ⟨_, _, e2⟩, ⟨_, _, e3⟩⟩
  exact Lib.tabIs_of_head (g := 5) (by kernel_rfl) (by kernel_rfl) Tryz.underlying258 Tryz.underlying213 (by kernel_rfl) (by kernel_rfl) g1
end Go.Proofs.YtbpedjkebemhnaaGreatDoor
end
