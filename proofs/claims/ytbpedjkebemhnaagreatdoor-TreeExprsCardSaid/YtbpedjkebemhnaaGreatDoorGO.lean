/- Texts that belong together: UV, UW. -/
import Derived.Test.YtbpedjkebemhnaaGreatDoorGK
import Derived.Test.YtbpedjkebemhnaaGreatDoorGL
/- The law's measure of a type: heavy. -/
set_option linter.unusedVariables false
namespace Go.Proofs.YtbpedjkebemhnaaGreatDoor
open Go.RowKit

def HvC (t : TyD) : Prop := ∀ (w : World) (z : List Value) (m : Nat), TyR w w.heap.size z t → 1 ≤ m → m ≤ 1000000 →
  Calls Tryz.prog 14 #[.agg z.toArray, .int .i64 (m : Int)] w fun e w' => e = .returned (.int .i64 (heavyB t m : Nat)) ∧ Below w.heap.size w w'
theorem drop_cons {α : Type} {l : List α} {i : Nat} (h : i < l.length) : l.drop i = l[i] :: l.drop (i + 1) := List.drop_eq_getElem_cons h
set_option maxRecDepth 100000 in
set_option maxHeartbeats 4000000 in
theorem heavy_step (t : TyD) (ih : ∀ x ∈ t.kids, HvC x) : HvC t := by
  intro w z m hr hm1 hm
  obtain ⟨k, nm, ns, ks⟩ := t
  have ih : ∀ x ∈ ks, HvC x := ih
  obtain ⟨A1, c1, A2, c2, xk, rfl, s1, s2, r2⟩ := hr.parts
  have l1 := (t_sl_len s1).2
  have l2 := (t_sl_len s2).2
  obtain ⟨W1, hW1⟩ : ∃ W1, W1 = w.alloc (.cells #[.int .i64 k, sv nm, .slice A1 ns.length c1, .slice A2 ks.length c2] 32) := ⟨_, rfl⟩
  have hb1 : Below w.heap.size w W1 := by rw [hW1]; exact (Below.refl _ _).alloc (Nat.le_refl _) _
  have hbx : W1.heap[w.heap.size]? = some (.cells #[.int .i64 k, sv nm, .slice A1 ns.length c1, .slice A2 ks.length c2] 32 (0, 0)) := by rw [hW1]; exact heap_alloc_new w _
  have HWE := hid hW1
  have HB1 := hid hb1
  have HBX := hid hbx
  have HT : Hid (heavyB (.mk k nm ns ks) m = if m < ks.length ∨ m < ns.length then 0 else heaviesB ks (m - 1)) := hid (by rw [heavyB])
  rw [HT.out]
  have HS := hid (And.intro (Sl.more (Sl.below s2 hb1) hb1.size) ((r2.keep hb1).more hb1.size))
  have HIH := hid ih
  clear hr s1 s2 r2 hb1 hbx ih HT
  have hsm : Below w.heap.size w W1 := HB1.out
  by_cases ha : m < ks.length
  · have g1 : decide ((m : Int) < (ks.length : Int)) = true := by simp; omega
    have HE : Hid ((if m < ks.length ∨ m < ns.length then 0 else heaviesB ks (m - 1)) = 0) := hid (if_pos (.inl ha))
    rw [HE.out]
    rw [hW1] at hsm
    have HSM := hid hsm
    clear hsm hW1
    go_enter Tryz.func14, Tryz.ntmps14
    go_wp2_with fail
    go_ret
    exact ⟨rfl, HSM.out⟩
  by_cases hc : m < ns.length
  · have g1 : decide ((m : Int) < (ks.length : Int)) = false := by simp; omega
    have g2 : decide ((m : Int) < (ns.length : Int)) = true := by simp; omega
    have HE : Hid ((if m < ks.length ∨ m < ns.length then 0 else heaviesB ks (m - 1)) = 0) := hid (if_pos (.inr hc))
    rw [HE.out]
    rw [hW1] at hsm
    have HSM := hid hsm
    clear hsm hW1
    go_enter Tryz.func14, Tryz.ntmps14
    go_wp2_with fail
    go_ret
    exact ⟨rfl, HSM.out⟩
  have g1 : decide ((m : Int) < (ks.length : Int)) = false := by simp; omega
  have g2 : decide ((m : Int) < (ns.length : Int)) = false := by simp; omega
  have HE : Hid ((if m < ks.length ∨ m < ns.length then 0 else heaviesB ks (m - 1)) = heaviesB ks (m - 1)) := hid (if_neg (by omega))
  rw [HE.out]
  clear HE
  obtain ⟨p, rfl⟩ : ∃ p, m = p + 1 := ⟨m - 1, by omega⟩
  rw [show p + 1 - 1 = p from rfl]
  obtain ⟨a, hA⟩ : ∃ a, ks.length = a := ⟨_, rfl⟩
  rw [hA] at g1 l2 HBX hW1 HWE HS ⊢
  have HA := hid hA
  clear hA hsm
  rw [HA.out] at ha
  have e1 : ¬ (p : Int) + 1 < (a : Int) := by omega
  have e2 : ¬ (p : Int) + 1 < (ns.length : Int) := by omega
  have g1 : decide ((p : Int) + 1 < (a : Int)) = false := decide_eq_false e1
  have g2 : decide ((p : Int) + 1 < (ns.length : Int)) = false := decide_eq_false e2
  clear ha hc
  go_enter Tryz.func14, Tryz.ntmps14
  go_wp2_with fail
  rw [← hW1]
  clear hW1 e1 e2 g1 g2
  go_loopw [1, 5] (fun v1 v5 wr => ∃ i c : Nat, v5 = .int .i64 i ∧ v1 = .int .i64 c ∧ i ≤ a ∧ c ≤ p ∧ heaviesB (ks.drop i) c = heaviesB ks p ∧ Below W1.heap.size W1 wr) (fun _ v5 _ => a - (intOf v5).toNat)
  case atStart => exact ⟨0, p, rfl, rfl, by omega, by omega, rfl, Below.refl _ _⟩
  case round =>
    obtain ⟨i, c, rfl, rfl, hi, hcp, hinv, hbr⟩ := hrel
    obtain ⟨_, _, _, q3⟩ := t_row4 ((hbr.block _ (block_lt HBX.out)).trans HBX.out)
    have HI := hid hinv
    have HB := hid hbr
    clear hinv
    by_cases hlt : i < a
    · have hil : i < ks.length := by rw [HA.out]; exact hlt
      rcases Nat.eq_zero_or_pos c with rfl | hc0
      · have HZ : Hid (heaviesB ks p = 0) := hid (by rw [← HI.out, heavies_zero])
        try rw [HZ.out]
        have HZB := hid (HB1.out.trans (HB.out.mono HB1.out.size))
        clear hbr
        go_wp2_with fail
        go_ret
        exact ⟨by first | rfl | (rw [HZ.out]; rfl), HZB.out⟩
      · have hs2 : Sl wr wr.heap.size 4 (.slice A2 a c2) xk := Sl.more (Sl.below HS.out.1 hbr) hbr.size
        have hr2 : TysR wr wr.heap.size xk ks := (HS.out.2.keep hbr).more hbr.size
        obtain ⟨b2, o2, kk, ss, A3, n3, c3, A4, n4, c4, rfl, hr1, e0, e1, e2, e3⟩ := elem_at hs2 hr2 hil HA.out.symm
        have HH := hid (HIH.out _ (List.getElem_mem hil) wr _ c hr1 hc0 (by omega))
        have hle := heavy_le ks[i] c
        have HN : Hid (heaviesB (ks.drop (i + 1)) (heavyB ks[i] c) = heaviesB ks p) := hid (by rw [← HI.out, drop_cons hil, heavies_cons hc0])
        have g3 : decide ((0 : Int) < (c : Int)) = true := by simp; omega
        clear hs2 hr2 hr1 hbr
        generalize heavyB ks[i] c = q at *
        go_wp2_with fail
        refine HH.out.mono ?_
        rintro e w2 ⟨rfl, hb⟩
        have HB2 := hid (HB.out.trans (hb.mono HB.out.size))
        clear hb
        go_wp2_with fail
        go_roundw
        case rel => exact ⟨i + 1, q, rfl, rfl, by omega, by omega, HN.out, HB2.out⟩
        case measure => simp [intOf]; omega
    · obtain rfl : i = a := by omega
      have HZ : Hid (heaviesB ks p = c) := hid (by rw [← HI.out, List.drop_of_length_le (by rw [HA.out]; omega), heaviesB])
      try rw [HZ.out]
      have HZB := hid (HB1.out.trans (HB.out.mono HB1.out.size))
      clear hbr
      go_wp2_with fail
      go_ret
      exact ⟨by first | rfl | (rw [HZ.out]; rfl), HZB.out⟩
theorem heavy_ind : ∀ (N : Nat) (t : TyD), cntT t ≤ N → HvC t
  | 0, t, h => absurd (cnt_pos t) (by omega)
  | N + 1, t, h => heavy_step t fun x hx => heavy_ind N x (by
    obtain ⟨k, nm, ns, ks⟩ := t
    have := cnt_mem (show x ∈ ks from hx)
    rw [cntT] at h
    omega)
theorem heavy_any (t : TyD) : HvC t := heavy_ind _ t (Nat.le_refl _)
end Go.Proofs.YtbpedjkebemhnaaGreatDoor

/- The law's measure of a node: weight. -/
set_option linter.unusedVariables false
namespace Go.Proofs.YtbpedjkebemhnaaGreatDoor
open Go.RowKit

def NoD.kids : NoD → List NoD | .mk _ _ _ _ _ _ _ k => k
def WtD (t : NoD) : Prop := ∀ (w : World) (z : List Value) (m : Nat), NoR w w.heap.size z t → okN t → 1 ≤ m → m ≤ 1000000 →
  Calls Tryz.prog 11 #[.agg z.toArray, .int .i64 (m : Int)] w fun e w' => e = .returned (.int .i64 (weightB t m : Nat)) ∧ Below w.heap.size w w'
set_option maxRecDepth 100000 in
set_option maxHeartbeats 8000000 in
theorem weight_step (t : NoD) (ih : ∀ x ∈ t.kids, WtD x) : WtD t := by
  intro w z m hr hfit hm1 hm
  obtain ⟨k, text, n, li, co, ts, ns, ks⟩ := t
  have ih : ∀ x ∈ ks, WtD x := ih
  rw [okN] at hfit
  obtain ⟨_, ht, _, _, _, _, _, hfk⟩ := hfit
  obtain ⟨A1, c1, A2, c2, A3, c3, xt, xk, rfl, s1, r1, s2, s3, r3⟩ := hr.parts
  have l1 := (t_sl_len s1).2
  have l2 := (t_sl_len s2).2
  have l3 := (t_sl_len s3).2
  have hsz := sv_size text
  obtain ⟨W1, hW1⟩ : ∃ W1, W1 = w.alloc (.cells #[.int .i64 k, sv text, .int .i64 n, .int .i64 li, .int .i64 co, .slice A1 ts.length c1, .slice A2 ns.length c2, .slice A3 ks.length c3] 26) := ⟨_, rfl⟩
  have hb1 : Below w.heap.size w W1 := by rw [hW1]; exact (Below.refl _ _).alloc (Nat.le_refl _) _
  have hbx : W1.heap[w.heap.size]? = some (.cells #[.int .i64 k, sv text, .int .i64 n, .int .i64 li, .int .i64 co, .slice A1 ts.length c1, .slice A2 ns.length c2, .slice A3 ks.length c3] 26 (0, 0)) := by rw [hW1]; exact heap_alloc_new w _
  have HB1 := hid hb1
  have HBX := hid hbx
  have HT : Hid (weightB (.mk k text n li co ts ns ks) m = if m < ks.length ∨ m < ts.length ∨ m < ns.length ∨ 5000 < text.length then 0 else weightsB ks (heaviesB ts (m - 1))) := hid (by rw [weightB])
  rw [HT.out]
  have HS1 := hid (And.intro (Sl.more (Sl.below s1 hb1) hb1.size) ((r1.keep hb1).more hb1.size))
  have HS3 := hid (And.intro (Sl.more (Sl.below s3 hb1) hb1.size) ((r3.keep hb1).more hb1.size))
  have HIH := hid ih
  have HFK := hid hfk
  unfold maxLen at ht
  clear hr s1 r1 s2 s3 r3 hbx ih HT hfk
  obtain ⟨a, hA⟩ : ∃ a, ks.length = a := ⟨_, rfl⟩
  obtain ⟨b, hB⟩ : ∃ b, ts.length = b := ⟨_, rfl⟩
  obtain ⟨d, hD⟩ : ∃ d, ns.length = d := ⟨_, rfl⟩
  obtain ⟨g, hG⟩ : ∃ g, text.length = g := ⟨_, rfl⟩
  rw [hA, hB, hD] at hW1 HBX ⊢
  rw [hA] at HS3 l3
  rw [hB] at HS1 l1
  rw [hD] at l2
  rw [hG] at hsz ht ⊢
  have HA := hid hA
  have HBL := hid hB
  clear hA hB hD hG
  by_cases e1 : m < a
  · have g1 : decide ((m : Int) < (a : Int)) = true := by simp; omega
    have HE : Hid ((if m < a ∨ m < b ∨ m < d ∨ 5000 < g then 0 else weightsB ks (heaviesB ts (m - 1))) = 0) := hid (if_pos (.inl e1))
    rw [HE.out]
    rw [hW1] at hb1
    have HSM := hid hb1
    clear hb1 hW1
    go_enter Tryz.func11, Tryz.ntmps11
    go_wp2_with fail
    go_ret
    exact ⟨rfl, HSM.out⟩
  have g1 : decide ((m : Int) < (a : Int)) = false := by simp; omega
  by_cases e2 : m < b
  · have g2 : decide ((m : Int) < (b : Int)) = true := by simp; omega
    have HE : Hid ((if m < a ∨ m < b ∨ m < d ∨ 5000 < g then 0 else weightsB ks (heaviesB ts (m - 1))) = 0) := hid (if_pos (.inr (.inl e2)))
    rw [HE.out]
    rw [hW1] at hb1
    have HSM := hid hb1
    clear hb1 hW1
    go_enter Tryz.func11, Tryz.ntmps11
    go_wp2_with fail
    go_ret
    exact ⟨rfl, HSM.out⟩
  have g2 : decide ((m : Int) < (b : Int)) = false := by simp; omega
  by_cases e3 : m < d
  · have g3 : decide ((m : Int) < (d : Int)) = true := by simp; omega
    have HE : Hid ((if m < a ∨ m < b ∨ m < d ∨ 5000 < g then 0 else weightsB ks (heaviesB ts (m - 1))) = 0) := hid (if_pos (.inr (.inr (.inl e3))))
    rw [HE.out]
    rw [hW1] at hb1
    have HSM := hid hb1
    clear hb1 hW1
    go_enter Tryz.func11, Tryz.ntmps11
    go_wp2_with fail
    go_ret
    exact ⟨rfl, HSM.out⟩
  have g3 : decide ((m : Int) < (d : Int)) = false := by simp; omega
  by_cases e4 : 5000 < g
  · have g4 : decide ((5000 : Int) < (g : Int)) = true := by simp; omega
    have HE : Hid ((if m < a ∨ m < b ∨ m < d ∨ 5000 < g then 0 else weightsB ks (heaviesB ts (m - 1))) = 0) := hid (if_pos (.inr (.inr (.inr e4))))
    rw [HE.out]
    rw [hW1] at hb1
    have HSM := hid hb1
    clear hb1 hW1
    go_enter Tryz.func11, Tryz.ntmps11
    go_wp2_with fail
    go_ret
    exact ⟨rfl, HSM.out⟩
  have g4 : decide ((5000 : Int) < (g : Int)) = false := by simp; omega
  have HE : Hid ((if m < a ∨ m < b ∨ m < d ∨ 5000 < g then 0 else weightsB ks (heaviesB ts (m - 1))) = weightsB ks (heaviesB ts (m - 1))) := hid (if_neg (by omega))
  rw [HE.out]
  clear HE hb1
  obtain ⟨p, rfl⟩ : ∃ p, m = p + 1 := ⟨m - 1, by omega⟩
  rw [show p + 1 - 1 = p from rfl]
  have f1 : ¬ (p : Int) + 1 < (a : Int) := by omega
  have f2 : ¬ (p : Int) + 1 < (b : Int) := by omega
  have f3 : ¬ (p : Int) + 1 < (d : Int) := by omega
  have g1 : decide ((p : Int) + 1 < (a : Int)) = false := decide_eq_false f1
  have g2 : decide ((p : Int) + 1 < (b : Int)) = false := decide_eq_false f2
  have g3 : decide ((p : Int) + 1 < (d : Int)) = false := decide_eq_false f3
  clear e1 e2 e3 e4
  go_enter Tryz.func11, Tryz.ntmps11
  go_wp2_with fail
  rw [← hW1]
  clear hW1 f1 f2 f3 g1 g2 g3 g4
  go_loopw [1, 5] (fun v1 v5 wr => ∃ i c : Nat, v5 = .int .i64 i ∧ v1 = .int .i64 c ∧ i ≤ b ∧ c ≤ p ∧ heaviesB (ts.drop i) c = heaviesB ts p ∧ Below W1.heap.size W1 wr) (fun _ v5 _ => b - (intOf v5).toNat)
  case atStart => exact ⟨0, p, rfl, rfl, by omega, by omega, rfl, Below.refl _ _⟩
  case round =>
    obtain ⟨i, c, rfl, rfl, hi, hcp, hinv, hbr⟩ := hrel
    obtain ⟨_, _, _, _, _, q5, _, _⟩ := t_row8 ((hbr.block _ (block_lt HBX.out)).trans HBX.out)
    have HI := hid hinv
    have HB := hid hbr
    clear hinv
    by_cases hgo : i < b ∧ 0 < c
    · obtain ⟨hlt, hc0⟩ := hgo
      have hil : i < ts.length := by rw [HBL.out]; exact hlt
      have hs2 : Sl wr wr.heap.size 4 (.slice A1 b c1) xt := Sl.more (Sl.below HS1.out.1 hbr) hbr.size
      have hr2 : TysR wr wr.heap.size xt ts := (HS1.out.2.keep hbr).more hbr.size
      obtain ⟨b2, o2, kk, ss, A4, n4, c4, A5, n5, c5, rfl, hr1, e0, e1, e2, e3⟩ := elem_at hs2 hr2 hil HBL.out.symm
      have HH := hid (heavy_any ts[i] wr _ c hr1 hc0 (by omega))
      have hle := heavy_le ts[i] c
      have HN : Hid (heaviesB (ts.drop (i + 1)) (heavyB ts[i] c) = heaviesB ts p) := hid (by rw [← HI.out, drop_cons hil, heavies_cons hc0])
      have g5 : decide ((0 : Int) < (c : Int)) = true := by simp; omega
      clear hs2 hr2 hr1 hbr
      generalize heavyB ts[i] c = q at *
      go_wp2_with fail
      refine HH.out.mono ?_
      rintro e w2 ⟨rfl, hb⟩
      have HB2 := hid (HB.out.trans (hb.mono HB.out.size))
      clear hb
      go_wp2_with fail
      go_roundw
      case rel => exact ⟨i + 1, q, rfl, rfl, by omega, by omega, HN.out, HB2.out⟩
      case measure => simp [intOf]; omega
    · have HZ : Hid (heaviesB ts p = c) := hid (by
        rw [← HI.out]
        rcases Nat.eq_zero_or_pos c with rfl | h0
        · rw [heavies_zero]
        · rw [List.drop_of_length_le (by rw [HBL.out]; omega), heaviesB])
      try rw [HZ.out]
      clear HI hbr
      have hexit : (i < b ∧ c = 0) ∨ i = b := by omega
      have HC0 : Hid (i < b → ¬ (0 : Int) < (c : Int)) := hid (fun h h2 => hgo ⟨h, by omega⟩)
      rcases hexit with ⟨hlt, hcz⟩ | rfl
      all_goals
        clear hgo
        try (have f5 := HC0.out hlt; have g5 : decide ((0 : Int) < (c : Int)) = false := decide_eq_false f5)
        try clear hcz
        go_wp2_with fail
        go_loopw [1, 6] (fun v1 v6 wr => ∃ i c' : Nat, v6 = .int .i64 i ∧ v1 = .int .i64 c' ∧ i ≤ a ∧ c' ≤ p ∧ weightsB (ks.drop i) c' = weightsB ks (heaviesB ts p) ∧ Below W1.heap.size W1 wr) (fun _ v6 _ => a - (intOf v6).toNat)
        case atStart => exact ⟨0, _, rfl, rfl, by omega, by omega, by first | rfl | (rw [HZ.out]; rfl), HB.out⟩
        case round =>
          obtain ⟨i2, c', rfl, rfl, hi2, hcp2, hinv2, hbr2⟩ := hrel
          obtain ⟨_, _, _, _, _, _, _, q7⟩ := t_row8 ((hbr2.block _ (block_lt HBX.out)).trans HBX.out)
          have HI2 := hid hinv2
          have HB2 := hid hbr2
          clear hinv2
          by_cases hgo2 : i2 < a ∧ 0 < c'
          · obtain ⟨hlt2, hc02⟩ := hgo2
            have hil2 : i2 < ks.length := by rw [HA.out]; exact hlt2
            have hs3 : Sl wr wr.heap.size 8 (.slice A3 a c3) xk := Sl.more (Sl.below HS3.out.1 hbr2) hbr2.size
            have hr3 : NosR wr wr.heap.size xk ks := (HS3.out.2.keep hbr2).more hbr2.size
            obtain ⟨b2, o2, kk, ss, w2, w3, w4, A4, n4, c4, A5, n5, c5, A6, n6, c6, rfl, hr1, e0, e1, e2, e3, e4, e5, e6, e7⟩ := node_at hs3 hr3 hil2 HA.out.symm
            have HH := hid (HIH.out _ (List.getElem_mem hil2) wr _ c' hr1 (okNs_mem.1 HFK.out _ (List.getElem_mem hil2)) hc02 (by omega))
            have hle := weight_le ks[i2] c'
            have HN : Hid (weightsB (ks.drop (i2 + 1)) (weightB ks[i2] c') = weightsB ks (heaviesB ts p)) := hid (by rw [← HI2.out, drop_cons hil2, weights_cons hc02])
            have g5 : decide ((0 : Int) < (c' : Int)) = true := by simp; omega
            clear hs3 hr3 hr1 hbr2
            generalize weightB ks[i2] c' = q at *
            go_wp2_with fail
            refine HH.out.mono ?_
            rintro e wq ⟨rfl, hb⟩
            have HB3 := hid (HB2.out.trans (hb.mono HB2.out.size))
            clear hb
            go_wp2_with fail
            go_roundw
            case rel => exact ⟨i2 + 1, q, rfl, rfl, by omega, by omega, HN.out, HB3.out⟩
            case measure => simp [intOf]; omega
          · have HZ2 : Hid (weightsB ks (heaviesB ts p) = c') := hid (by
              rw [← HI2.out]
              rcases Nat.eq_zero_or_pos c' with rfl | h0
              · rw [weights_zero]
              · rw [List.drop_of_length_le (by rw [HA.out]; omega), weightsB])
            try rw [HZ2.out]
            have HZB := hid (HB1.out.trans (HB2.out.mono HB1.out.size))
            have hexit2 : (i2 < a ∧ c' = 0) ∨ i2 = a := by omega
            clear hbr2 hgo2
            rcases hexit2 with ⟨hlt2, rfl⟩ | rfl
            · go_wp2_with fail
              go_ret
              exact ⟨by first | rfl | (rw [HZ2.out]; rfl), HZB.out⟩
            · go_wp2_with fail
              go_ret
              exact ⟨by first | rfl | (rw [HZ2.out]; rfl), HZB.out⟩
theorem weight_ind : ∀ (N : Nat) (t : NoD), cntN t ≤ N → WtD t
  | 0, t, h => absurd (cntN_pos t) (by omega)
  | N + 1, t, h => weight_step t fun x hx => weight_ind N x (by
    obtain ⟨k, text, n, li, co, ts, ns, ks⟩ := t
    have := cntN_mem (show x ∈ ks from hx)
    rw [cntN] at h
    omega)
theorem weight_any (t : NoD) : WtD t := weight_ind _ t (Nat.le_refl _)
end Go.Proofs.YtbpedjkebemhnaaGreatDoor
