/- UX, VD -/
import Derived.Test.YtbpedjkebemhnaaGreatDoorSA07
import Derived.Test.YtbpedjkebemhnaaGreatDoorSA04
import Derived.Test.YtbpedjkebemhnaaGreatDoorSA06
import Derived.Test.YtbpedjkebemhnaaGreatDoorSA19
set_option linter.unusedSimpArgs false
set_option linter.unusedVariables false
section
/- Which types are written ones: the reference. -/
set_option linter.unusedVariables false
namespace Go.Proofs.YtbpedjkebemhnaaGreatDoor
open Go.RowKit

/-- The contract of the reference's Written, so many within one another. -/
def RWrC (m : Nat) : Prop := ∀ (w : World) (z : List Value) (t : TyD), TyR w w.heap.size z t → okT t →
  Calls Tryz.prog 38 #[.agg z.toArray, .int .i64 (m : Int)] w fun e w' => e = .returned (.bool (writtenB m t)) ∧ Below w.heap.size w w'
set_option maxRecDepth 100000 in
theorem rwritten_zero : RWrC 0 := by
  intro w z t hr hok
  have hw : writtenB 0 t = false := rfl
  rw [hw]
  obtain ⟨k, s, A1, n1, c1, A2, n2, c2, rfl⟩ := hr.shape
  have HB : Hid (Below w.heap.size w (w.alloc (.cells #[.int .i64 k, .string s, .slice A1 n1 c1, .slice A2 n2 c2] 32))) := hid ((Below.refl _ _).alloc (Nat.le_refl _) _)
  clear hr hok hw
  go_enter Tryz.func38, Tryz.ntmps38
  go_wp2_with fail
  go_ret
  exact ⟨rfl, HB.out⟩
set_option maxRecDepth 100000 in
set_option maxHeartbeats 8000000 in
theorem rwritten_succ (m : Nat) (hm : m ≤ 40) (ih : RWrC m) : RWrC (m + 1) := by
  intro w z t hr hok
  obtain ⟨k, nm, ns, ks⟩ := t
  rw [okT] at hok
  obtain ⟨ok1, ok2, ok3, ok4⟩ := hok
  obtain ⟨A1, c1, A2, c2, xk, rfl, s1, s2, r2⟩ := hr.parts
  have l1 := (t_sl_len s1).2
  have l2 := (t_sl_len s2).2
  clear hr
  have hw : writtenB (m + 1) (.mk k nm ns ks) = (ns.all nameL && ks.all (writtenB m) && kindT k nm ns.length ks.length) := rfl
  rw [hw]
  clear hw
  have HQ0 : Hid (ns.length = 0 → ns.all nameL = true) := hid (fun h => by rw [List.length_eq_zero_iff.1 h]; rfl)
  obtain ⟨W1, hW1⟩ : ∃ W1, W1 = w.alloc (.cells #[.int .i64 k, sv nm, .slice A1 ns.length c1, .slice A2 ks.length c2] 32) := ⟨_, rfl⟩
  have hb1 : Below w.heap.size w W1 := by rw [hW1]; exact (Below.refl _ _).alloc (Nat.le_refl _) _
  have hbx : W1.heap[w.heap.size]? = some (.cells #[.int .i64 k, sv nm, .slice A1 ns.length c1, .slice A2 ks.length c2] 32 (0, 0)) := by rw [hW1]; exact heap_alloc_new w _
  have HB1 := hid hb1
  have HBX := hid hbx
  have HS1 := hid (Sl.more (Sl.below s1 hb1) hb1.size)
  have HS := hid (And.intro (Sl.more (Sl.below s2 hb1) hb1.size) ((r2.keep hb1).more hb1.size))
  have HN : Hid (∀ wr, Below W1.heap.size W1 wr → Calls Tryz.prog 47 #[.slice A1 ns.length c1] wr fun e w' => e = .returned (.bool (ns.all nameL)) ∧ Below wr.heap.size wr w') := hid (fun wr h => rnames_any _ ns wr (Sl.more (Sl.below HS1.out h) h.size) ok3)
  have HNM : Hid (∀ wx, Calls Tryz.prog 46 #[sv nm] wx fun e w' => e = .returned (.bool (nameL nm)) ∧ Below wx.heap.size wx w') := hid (fun wx => rname_any wx nm ok2)
  have HOK := hid (okTs_mem.1 ok4)
  have HIH := hid ih
  clear s1 s2 r2 ok1 ok2 ok3 ok4 ih hb1 hbx HS1
  obtain ⟨a, hA⟩ : ∃ a, ns.length = a := ⟨_, rfl⟩
  obtain ⟨b, hB⟩ : ∃ b, ks.length = b := ⟨_, rfl⟩
  rw [hA] at HN HBX hW1 l1 HQ0 ⊢
  rw [hB] at HS HBX hW1 l2 ⊢
  have HA := hid hA
  have HBB := hid hB
  clear hA hB
  generalize ns.all nameL = q at *
  have hmn : ¬ ((m : Int) + 1 < 1) := by omega
  have hmd : decide ((m : Int) + 1 < 1) = false := decide_eq_false hmn
  go_enter Tryz.func38, Tryz.ntmps38
  go_wp2_with fail
  rw [← hW1]
  clear hW1
  go_loopw [5] (fun v5 wr => ∃ i : Nat, v5 = .int .i64 i ∧ i ≤ b ∧ (ks.take i).all (writtenB m) = true ∧ Below W1.heap.size W1 wr) (fun v5 _ => b - (intOf v5).toNat)
  case atStart => exact ⟨0, rfl, by omega, rfl, Below.refl _ _⟩
  case round =>
    obtain ⟨i, rfl, hi, hinv, hbr⟩ := hrel
    obtain ⟨_, _, _, q3⟩ := t_row4 ((hbr.block _ (block_lt HBX.out)).trans HBX.out)
    have HI := hid hinv
    have HB := hid hbr
    clear hinv
    by_cases hlt : i < b
    · have hil : i < ks.length := by rw [HBB.out]; exact hlt
      have hs2 : Sl wr wr.heap.size 4 (.slice A2 b c2) xk := Sl.more (Sl.below HS.out.1 hbr) hbr.size
      have hr2 : TysR wr wr.heap.size xk ks := (HS.out.2.keep hbr).more hbr.size
      obtain ⟨b2, o2, kk, ss, A3, n3, c3, A4, n4, c4, rfl, hr1, e0, e1, e2, e3⟩ := elem_at hs2 hr2 hil HBB.out.symm
      have HH := hid (HIH.out wr _ _ hr1 (HOK.out _ (List.getElem_mem hil)))
      have hst := t_take hil
      clear hs2 hr2 hr1 hbr
      cases hq : writtenB m ks[i] with
      | false =>
        have HALL : Hid (ks.all (writtenB m) = false) := hid (by
          cases h : ks.all (writtenB m) with
          | false => rfl
          | true => rw [List.all_eq_true] at h; rw [h _ (List.getElem_mem hil)] at hq; cases hq)
        rw [hq] at HH
        clear hq hst
        generalize ks[i] = X at *
        go_wp2_with fail
        refine HH.out.mono ?_
        rintro e w2 ⟨rfl, hb⟩
        have HB2 := hid (HB1.out.trans ((HB.out.trans (hb.mono HB.out.size)).mono HB1.out.size))
        clear hb
        go_wp2_with fail
        go_ret
        exact ⟨by rw [HALL.out]; simp, HB2.out⟩
      | true =>
        rw [hq] at HH
        have HST : Hid ((ks.take (i + 1)).all (writtenB m) = true) := hid (by rw [hst, List.all_append, HI.out]; simp [hq])
        clear hq hst
        generalize ks[i] = X at *
        go_wp2_with fail
        refine HH.out.mono ?_
        rintro e w2 ⟨rfl, hb⟩
        have HB2 := hid (HB.out.trans (hb.mono HB.out.size))
        clear hb
        go_wp2_with fail
        go_roundw
        case rel => exact ⟨i + 1, rfl, by omega, HST.out, HB2.out⟩
        case measure => simp [intOf]; omega
    · obtain rfl : i = b := by omega
      have HKS : Hid (ks.all (writtenB m) = true) := hid (by have := HI.out; rwa [List.take_of_length_le (by rw [HBB.out]; omega)] at this)
      obtain ⟨_, _, q2, _⟩ := t_row4 ((hbr.block _ (block_lt HBX.out)).trans HBX.out)
      have HNN := hid (HN.out wr hbr)
      clear hbr HI hmn hmd
      go_wp2_with fail
      refine HNN.out.mono ?_
      rintro e w3 ⟨rfl, hb3⟩
      have hb3' := HB.out.trans (hb3.mono HB.out.size)
      obtain ⟨p0, p1, p2, p3⟩ := t_row4 ((hb3'.block _ (block_lt HBX.out)).trans HBX.out)
      have HB3 := hid (HB1.out.trans (hb3'.mono HB1.out.size))
      have HX3 := hid hb3'
      clear hb3 hb3' q2 q3 hlt
      by_cases n0 : k = 0
      · subst n0
        by_cases hnm : nm = []
        · subst hnm
          by_cases ha0 : a = 0
          · subst ha0
            by_cases hi0 : i = 0
            · subst hi0
              have HT : Hid (kindT 0 [] 0 0 = true) := hid (by simp [kindT])
              go_wp2_with fail
              go_ret
              exact ⟨by rw [HKS.out, HT.out, HQ0.out (by simp)]; rfl, HB3.out⟩
            · have hq : ((i : Int) == 0) = false := beq_eq_false_iff_ne.mpr (by omega)
              have HT : Hid (kindT 0 [] 0 i = false) := hid (by simp [kindT, hi0])
              clear hi0
              go_wp2_with fail
              go_ret
              exact ⟨by rw [HKS.out, HT.out]; simp, HB3.out⟩
          · have hq : ((a : Int) == 0) = false := beq_eq_false_iff_ne.mpr (by omega)
            have HT : Hid (kindT 0 [] a i = false) := hid (by simp [kindT, ha0])
            clear ha0
            go_wp2_with fail
            go_ret
            exact ⟨by rw [HKS.out, HT.out]; simp, HB3.out⟩
        · have hq : (nm == []) = false := by cases nm with | nil => exact absurd rfl hnm | cons c r => rfl
          have HT : Hid (kindT 0 nm a i = false) := hid (by simp [kindT, hnm])
          go_wp2_with fail
          go_ret
          exact ⟨by rw [HKS.out, HT.out]; simp, HB3.out⟩
      have q0 : (k == 0) = false := beq_eq_false_iff_ne.mpr n0
      by_cases n1 : k = 1
      · subst n1
        clear n0 q0
        by_cases hnm : nm = []
        · subst hnm
          by_cases ha0 : a = 0
          · subst ha0
            by_cases hi0 : i = 0
            · subst hi0
              have HT : Hid (kindT 1 [] 0 0 = true) := hid (by simp [kindT])
              go_wp2_with fail
              go_ret
              exact ⟨by rw [HKS.out, HT.out, HQ0.out (by simp)]; rfl, HB3.out⟩
            · have hq : ((i : Int) == 0) = false := beq_eq_false_iff_ne.mpr (by omega)
              have HT : Hid (kindT 1 [] 0 i = false) := hid (by simp [kindT, hi0])
              clear hi0
              go_wp2_with fail
              go_ret
              exact ⟨by rw [HKS.out, HT.out]; simp, HB3.out⟩
          · have hq : ((a : Int) == 0) = false := beq_eq_false_iff_ne.mpr (by omega)
            have HT : Hid (kindT 1 [] a i = false) := hid (by simp [kindT, ha0])
            clear ha0
            go_wp2_with fail
            go_ret
            exact ⟨by rw [HKS.out, HT.out]; simp, HB3.out⟩
        · have hq : (nm == []) = false := by cases nm with | nil => exact absurd rfl hnm | cons c r => rfl
          have HT : Hid (kindT 1 nm a i = false) := hid (by simp [kindT, hnm])
          go_wp2_with fail
          go_ret
          exact ⟨by rw [HKS.out, HT.out]; simp, HB3.out⟩
      have q1 : (k == 1) = false := beq_eq_false_iff_ne.mpr n1
      by_cases n2 : k = 2
      · subst n2
        clear n0 q0 n1 q1
        by_cases hnm : nm = []
        · subst hnm
          by_cases ha0 : a = 0
          · subst ha0
            by_cases hi0 : i = 0
            · subst hi0
              have HT : Hid (kindT 2 [] 0 0 = true) := hid (by simp [kindT])
              go_wp2_with fail
              go_ret
              exact ⟨by rw [HKS.out, HT.out, HQ0.out (by simp)]; rfl, HB3.out⟩
            · have hq : ((i : Int) == 0) = false := beq_eq_false_iff_ne.mpr (by omega)
              have HT : Hid (kindT 2 [] 0 i = false) := hid (by simp [kindT, hi0])
              clear hi0
              go_wp2_with fail
              go_ret
              exact ⟨by rw [HKS.out, HT.out]; simp, HB3.out⟩
          · have hq : ((a : Int) == 0) = false := beq_eq_false_iff_ne.mpr (by omega)
            have HT : Hid (kindT 2 [] a i = false) := hid (by simp [kindT, ha0])
            clear ha0
            go_wp2_with fail
            go_ret
            exact ⟨by rw [HKS.out, HT.out]; simp, HB3.out⟩
        · have hq : (nm == []) = false := by cases nm with | nil => exact absurd rfl hnm | cons c r => rfl
          have HT : Hid (kindT 2 nm a i = false) := hid (by simp [kindT, hnm])
          go_wp2_with fail
          go_ret
          exact ⟨by rw [HKS.out, HT.out]; simp, HB3.out⟩
      have q2 : (k == 2) = false := beq_eq_false_iff_ne.mpr n2
      by_cases n3 : k = 3
      · subst n3
        clear n0 q0 n1 q1 n2 q2
        by_cases hnm : nm = []
        · subst hnm
          by_cases ha0 : a = 0
          · subst ha0
            by_cases hi0 : i = 0
            · subst hi0
              have HT : Hid (kindT 3 [] 0 0 = true) := hid (by simp [kindT])
              go_wp2_with fail
              go_ret
              exact ⟨by rw [HKS.out, HT.out, HQ0.out (by simp)]; rfl, HB3.out⟩
            · have hq : ((i : Int) == 0) = false := beq_eq_false_iff_ne.mpr (by omega)
              have HT : Hid (kindT 3 [] 0 i = false) := hid (by simp [kindT, hi0])
              clear hi0
              go_wp2_with fail
              go_ret
              exact ⟨by rw [HKS.out, HT.out]; simp, HB3.out⟩
          · have hq : ((a : Int) == 0) = false := beq_eq_false_iff_ne.mpr (by omega)
            have HT : Hid (kindT 3 [] a i = false) := hid (by simp [kindT, ha0])
            clear ha0
            go_wp2_with fail
            go_ret
            exact ⟨by rw [HKS.out, HT.out]; simp, HB3.out⟩
        · have hq : (nm == []) = false := by cases nm with | nil => exact absurd rfl hnm | cons c r => rfl
          have HT : Hid (kindT 3 nm a i = false) := hid (by simp [kindT, hnm])
          go_wp2_with fail
          go_ret
          exact ⟨by rw [HKS.out, HT.out]; simp, HB3.out⟩
      have q3 : (k == 3) = false := beq_eq_false_iff_ne.mpr n3
      by_cases n4 : k = 4
      · subst n4
        clear n0 q0 n1 q1 n2 q2 n3 q3
        by_cases hnm : nm = []
        · subst hnm
          by_cases ha0 : a = 0
          · subst ha0
            by_cases hi0 : i = 0
            · subst hi0
              have HT : Hid (kindT 4 [] 0 0 = true) := hid (by simp [kindT])
              go_wp2_with fail
              go_ret
              exact ⟨by rw [HKS.out, HT.out, HQ0.out (by simp)]; rfl, HB3.out⟩
            · have hq : ((i : Int) == 0) = false := beq_eq_false_iff_ne.mpr (by omega)
              have HT : Hid (kindT 4 [] 0 i = false) := hid (by simp [kindT, hi0])
              clear hi0
              go_wp2_with fail
              go_ret
              exact ⟨by rw [HKS.out, HT.out]; simp, HB3.out⟩
          · have hq : ((a : Int) == 0) = false := beq_eq_false_iff_ne.mpr (by omega)
            have HT : Hid (kindT 4 [] a i = false) := hid (by simp [kindT, ha0])
            clear ha0
            go_wp2_with fail
            go_ret
            exact ⟨by rw [HKS.out, HT.out]; simp, HB3.out⟩
        · have hq : (nm == []) = false := by cases nm with | nil => exact absurd rfl hnm | cons c r => rfl
          have HT : Hid (kindT 4 nm a i = false) := hid (by simp [kindT, hnm])
          go_wp2_with fail
          go_ret
          exact ⟨by rw [HKS.out, HT.out]; simp, HB3.out⟩
      have q4 : (k == 4) = false := beq_eq_false_iff_ne.mpr n4
      by_cases n5 : k = 5
      · subst n5
        clear n0 q0 n1 q1 n2 q2 n3 q3 n4 q4
        by_cases hnm : nm = []
        · subst hnm
          by_cases hab : a = i
          · subst hab
            have HT : Hid (kindT 5 [] a a = true) := hid (by simp [kindT])
            cases q
            · go_wp2_with fail
              go_ret
              exact ⟨by rw [HKS.out, HT.out]; rfl, HB3.out⟩
            · go_wp2_with fail
              go_ret
              exact ⟨by rw [HKS.out, HT.out]; rfl, HB3.out⟩
          · have hq : ((a : Int) == (i : Int)) = false := beq_eq_false_iff_ne.mpr (by omega)
            have HT : Hid (kindT 5 [] a i = false) := hid (by simp [kindT, hab])
            clear hab
            cases q
            · go_wp2_with fail
              go_ret
              exact ⟨by rw [HKS.out, HT.out]; rfl, HB3.out⟩
            · go_wp2_with fail
              go_ret
              exact ⟨by rw [HKS.out, HT.out]; rfl, HB3.out⟩
        · have hq : (nm == []) = false := by cases nm with | nil => exact absurd rfl hnm | cons c r => rfl
          have HT : Hid (kindT 5 nm a i = false) := hid (by simp [kindT, hnm])
          go_wp2_with fail
          go_ret
          exact ⟨by rw [HKS.out, HT.out]; simp, HB3.out⟩
      have q5 : (k == 5) = false := beq_eq_false_iff_ne.mpr n5
      by_cases n6 : k = 6
      · subst n6
        clear n0 q0 n1 q1 n2 q2 n3 q3 n4 q4 n5 q5
        by_cases hnm : nm = []
        · subst hnm
          by_cases ha0 : a = 0
          · subst ha0
            by_cases hi0 : i = 2
            · subst hi0
              have HT : Hid (kindT 6 [] 0 2 = true) := hid (by simp [kindT])
              go_wp2_with fail
              go_ret
              exact ⟨by rw [HKS.out, HT.out, HQ0.out (by simp)]; rfl, HB3.out⟩
            · have hq : ((i : Int) == 2) = false := beq_eq_false_iff_ne.mpr (by omega)
              have HT : Hid (kindT 6 [] 0 i = false) := hid (by simp [kindT, hi0])
              clear hi0
              go_wp2_with fail
              go_ret
              exact ⟨by rw [HKS.out, HT.out]; simp, HB3.out⟩
          · have hq : ((a : Int) == 0) = false := beq_eq_false_iff_ne.mpr (by omega)
            have HT : Hid (kindT 6 [] a i = false) := hid (by simp [kindT, ha0])
            clear ha0
            go_wp2_with fail
            go_ret
            exact ⟨by rw [HKS.out, HT.out]; simp, HB3.out⟩
        · have hq : (nm == []) = false := by cases nm with | nil => exact absurd rfl hnm | cons c r => rfl
          have HT : Hid (kindT 6 nm a i = false) := hid (by simp [kindT, hnm])
          go_wp2_with fail
          go_ret
          exact ⟨by rw [HKS.out, HT.out]; simp, HB3.out⟩
      have q6 : (k == 6) = false := beq_eq_false_iff_ne.mpr n6
      by_cases n7 : k = 7
      · subst n7
        clear n0 q0 n1 q1 n2 q2 n3 q3 n4 q4 n5 q5 n6 q6
        by_cases hnm : nm = []
        · subst hnm
          by_cases ha0 : a = 0
          · subst ha0
            by_cases hi0 : 2 ≤ i
            · have hq : decide ((2 : Int) ≤ (i : Int)) = true := by simp; omega
              have HT : Hid (kindT 7 [] 0 i = true) := hid (by simp [kindT, hi0])
              clear hi0
              go_wp2_with fail
              go_ret
              exact ⟨by rw [HKS.out, HT.out, HQ0.out (by simp)]; rfl, HB3.out⟩
            · have hq : decide ((2 : Int) ≤ (i : Int)) = false := by simp; omega
              have HT : Hid (kindT 7 [] 0 i = false) := hid (by simp [kindT, hi0])
              clear hi0
              go_wp2_with fail
              go_ret
              exact ⟨by rw [HKS.out, HT.out]; simp, HB3.out⟩
          · have hq : ((a : Int) == 0) = false := beq_eq_false_iff_ne.mpr (by omega)
            have HT : Hid (kindT 7 [] a i = false) := hid (by simp [kindT, ha0])
            clear ha0
            go_wp2_with fail
            go_ret
            exact ⟨by rw [HKS.out, HT.out]; simp, HB3.out⟩
        · have hq : (nm == []) = false := by cases nm with | nil => exact absurd rfl hnm | cons c r => rfl
          have HT : Hid (kindT 7 nm a i = false) := hid (by simp [kindT, hnm])
          go_wp2_with fail
          go_ret
          exact ⟨by rw [HKS.out, HT.out]; simp, HB3.out⟩
      have q7 : (k == 7) = false := beq_eq_false_iff_ne.mpr n7
      by_cases n8 : k = 8
      · subst n8
        clear n0 q0 n1 q1 n2 q2 n3 q3 n4 q4 n5 q5 n6 q6 n7 q7
        by_cases hz : a = 0 ∧ i = 0
        · obtain ⟨rfl, rfl⟩ := hz
          have HT : Hid (kindT 8 nm 0 0 = nameL nm) := hid (by simp [kindT])
          go_wp2_with fail
          refine (HNM.out _).mono ?_
          rintro e w5 ⟨rfl, hb5⟩
          obtain ⟨p0, p1, p2, p3⟩ := t_row4 (((HX3.out.trans (hb5.mono HX3.out.size)).block _ (block_lt HBX.out)).trans HBX.out)
          have HB5 := hid (HB3.out.trans (hb5.mono HB3.out.size))
          clear hb5
          have hq := HQ0.out (by simp)
          subst hq
          cases hn : nameL nm
          · have HNN := hid hn
            clear hn
            go_wp2_with fail
            go_ret
            exact ⟨by rw [HKS.out, HT.out, HNN.out]; rfl, HB5.out⟩
          · have HNN := hid hn
            clear hn
            go_wp2_with fail
            go_ret
            exact ⟨by rw [HKS.out, HT.out, HNN.out]; rfl, HB5.out⟩
        · have HT : Hid (kindT 8 nm a i = false) := hid (by simp [kindT]; omega)
          by_cases ha : a = 0
          · subst ha
            have g1 : ((i : Int) == 0) = false := beq_eq_false_iff_ne.mpr (by omega)
            clear hz
            go_wp2_with fail
            refine (HNM.out _).mono ?_
            rintro e w5 ⟨rfl, hb5⟩
            obtain ⟨p0, p1, p2, p3⟩ := t_row4 (((HX3.out.trans (hb5.mono HX3.out.size)).block _ (block_lt HBX.out)).trans HBX.out)
            have HB5 := hid (HB3.out.trans (hb5.mono HB3.out.size))
            clear hb5
            cases hn : nameL nm
            · go_wp2_with fail
              go_ret
              exact ⟨by rw [HKS.out, HT.out]; simp, HB5.out⟩
            · go_wp2_with fail
              go_ret
              exact ⟨by rw [HKS.out, HT.out]; simp, HB5.out⟩
          · have g1 : ((a : Int) == 0) = false := beq_eq_false_iff_ne.mpr (by omega)
            clear hz ha
            go_wp2_with fail
            refine (HNM.out _).mono ?_
            rintro e w5 ⟨rfl, hb5⟩
            obtain ⟨p0, p1, p2, p3⟩ := t_row4 (((HX3.out.trans (hb5.mono HX3.out.size)).block _ (block_lt HBX.out)).trans HBX.out)
            have HB5 := hid (HB3.out.trans (hb5.mono HB3.out.size))
            clear hb5
            cases hn : nameL nm
            · go_wp2_with fail
              go_ret
              exact ⟨by rw [HKS.out, HT.out]; simp, HB5.out⟩
            · go_wp2_with fail
              go_ret
              exact ⟨by rw [HKS.out, HT.out]; simp, HB5.out⟩
      have q8 : (k == 8) = false := beq_eq_false_iff_ne.mpr n8
      have HT : Hid (kindT k nm a i = false) := hid (by
        unfold kindT
        rw [if_neg n8]
        by_cases h : nm ≠ [] ∨ k < 0 ∨ 7 < k
        · rw [if_pos h]
        · omega)
      clear n0 n1 n2 n3 n4 n5 n6 n7 n8
      go_wp2_with fail
      go_ret
      exact ⟨by rw [HKS.out, HT.out]; simp, HB3.out⟩
theorem rwritten_all : ∀ m : Nat, m ≤ 41 → RWrC m
  | 0, _ => rwritten_zero
  | m + 1, h => rwritten_succ m (by omega) (rwritten_all m (by omega))
end Go.Proofs.YtbpedjkebemhnaaGreatDoor
end
section
/- Which nodes are expressions: the reference. -/
set_option linter.unusedVariables false
namespace Go.Proofs.YtbpedjkebemhnaaGreatDoor
open Go.RowKit

/-- The contract of the reference's Node, so many within one another. -/
def RNdC (m : Nat) : Prop := ∀ (w : World) (z : List Value) (x : NoD), NoR w w.heap.size z x → okN x → cntN x ≤ 100000 →
  Calls Tryz.prog 34 #[.agg z.toArray, .int .i64 (m : Int)] w fun e w' => e = .returned (.bool (nodeB m x)) ∧ Below w.heap.size w w'
set_option maxRecDepth 100000 in
theorem rnode_zero : RNdC 0 := by
  intro w z x hr hok hc
  have hw : nodeB 0 x = false := rfl
  rw [hw]
  obtain ⟨k, s, n, l, o, A1, n1, c1, A2, n2, c2, A3, n3, c3, rfl⟩ := hr.shape
  have HB : Hid (Below w.heap.size w (w.alloc (.cells #[.int .i64 k, .string s, .int .i64 n, .int .i64 l, .int .i64 o, .slice A1 n1 c1, .slice A2 n2 c2, .slice A3 n3 c3] 26))) := hid ((Below.refl _ _).alloc (Nat.le_refl _) _)
  clear hr hok hw hc
  go_enter Tryz.func34, Tryz.ntmps34
  go_wp2_with fail
  go_ret
  exact ⟨rfl, HB.out⟩
theorem rtypes_le {k : Int} {a : Nat} (h : a ≤ 100000) : a ≤ rTypes k ↔ a ≤ (hasD k).types := by
  unfold rTypes
  by_cases h1 : k = 19
  · subst h1
    have h2 : (hasD 19).types = 1048576 := rfl
    rw [if_pos rfl, h2]
    omega
  · rw [if_neg h1]
set_option maxRecDepth 100000 in
set_option maxHeartbeats 8000000 in
theorem rnode_succ (m : Nat) (hm : m ≤ 40) (ih : RNdC m) : RNdC (m + 1) := by
  intro w z x hr hok hc
  obtain ⟨k, text, n, li, co, ts, ns, ks⟩ := x
  rw [okN] at hok
  obtain ⟨ok1, ok2, ok3, ok4, ok5, ok6, ok7, ok8⟩ := hok
  obtain ⟨A1, c1, A2, c2, A3, c3, xt, xk, rfl, s1, r1, s2, s3, r3⟩ := hr.parts
  have l1 := (t_sl_len s1).2
  have l2 := (t_sl_len s2).2
  have l3 := (t_sl_len s3).2
  rw [cntN] at hc
  have hta : ts.length ≤ 100000 := by have := cnts_len ts; omega
  have hkc : cntNs ks ≤ 100000 := by omega
  have hres0 := node_shape m k text n li co ts ns ks
  rw [own_kids] at hres0
  obtain ⟨res, hres⟩ : ∃ res, nodeB (m + 1) (.mk k text n li co ts ns ks) = res := ⟨_, rfl⟩
  rw [hres] at hres0 ⊢
  clear hres hr
  obtain ⟨W, hW⟩ : ∃ W, w.alloc (.cells #[.int .i64 k, sv text, .int .i64 n, .int .i64 li, .int .i64 co, .slice A1 ts.length c1, .slice A2 ns.length c2, .slice A3 ks.length c3] 26) = W := ⟨_, rfl⟩
  have hb1 : Below w.heap.size w W := by rw [← hW]; exact (Below.refl _ _).alloc (Nat.le_refl _) _
  have hbx : W.heap[w.heap.size]? = some (.cells #[.int .i64 k, sv text, .int .i64 n, .int .i64 li, .int .i64 co, .slice A1 ts.length c1, .slice A2 ns.length c2, .slice A3 ks.length c3] 26 (0, 0)) := by rw [← hW]; exact heap_alloc_new w _
  have HTT := hid (And.intro (Sl.more (Sl.below s1 hb1) hb1.size) ((r1.keep hb1).more hb1.size))
  have HKK := hid (And.intro (Sl.more (Sl.below s3 hb1) hb1.size) ((r3.keep hb1).more hb1.size))
  have hs2 := Sl.more (Sl.below s2 hb1) hb1.size
  have HNM := hid (fun wr (h : Below W.heap.size W wr) => rnames_any _ ns wr (Sl.more (Sl.below hs2 h) h.size) ok7)
  have HOT := hid ok6
  have HOK := hid (okNs_mem.1 ok8)
  have HIH := hid ih
  have HKC := hid hkc
  have HWR := hid (rwritten_all 16 (by omega))
  have HBX := hid hbx
  have HB1 := hid hb1
  have HRES := hid hres0
  have HWE := hid hW
  have hn64 := ok3
  have hok2 := ok2
  clear s1 r1 s2 s3 r3 ok1 ok2 ok3 ok4 ok5 ok6 ok7 ok8 ih hb1 hbx hres0 hs2 hW hkc hc
  obtain ⟨a, hA⟩ : ∃ a, ts.length = a := ⟨_, rfl⟩
  obtain ⟨b, hB⟩ : ∃ b, ns.length = b := ⟨_, rfl⟩
  obtain ⟨d, hD⟩ : ∃ d, ks.length = d := ⟨_, rfl⟩
  rw [hA] at l1 HTT HBX HWE HRES hta ⊢
  rw [hB] at l2 HNM HBX HWE HRES ⊢
  rw [hD] at l3 HKK HBX HWE HRES ⊢
  have HA := hid hA
  have HD := hid hD
  clear hA hB hD
  have hm0 : ¬ ((m : Int) + 1 < 1) := by omega
  have hm1 : decide ((m : Int) + 1 < 1) = false := decide_eq_false hm0
  generalize ns.all nameL = q at *
  by_cases h0 : k < 0
  · have g4 : decide (k < 0) = true := by simpa using h0
    have HF : Hid (res = false) := hid (by rw [HRES.out, decide_eq_false (by omega : ¬ (0 ≤ k ∧ k < 20))]; rfl)
    clear h0 hn64 hta
    go_enter Tryz.func34, Tryz.ntmps34
    go_wp2_with fail
    go_ret
    refine ⟨by rw [HF.out]; rfl, ?_⟩
    rw [HWE.out]
    exact HB1.out
  have g4 : decide (k < 0) = false := by simpa using h0
  by_cases h20 : 20 ≤ k
  · have g5 : decide (20 ≤ k) = true := by simpa using h20
    have HF : Hid (res = false) := hid (by rw [HRES.out, decide_eq_false (by omega : ¬ (0 ≤ k ∧ k < 20))]; rfl)
    clear h0 h20 hn64 hta
    go_enter Tryz.func34, Tryz.ntmps34
    go_wp2_with fail
    go_ret
    refine ⟨by rw [HF.out]; rfl, ?_⟩
    rw [HWE.out]
    exact HB1.out
  have g5 : decide (20 ≤ k) = false := by simpa using h20
  have HK0 := hid (show 0 ≤ k by omega)
  have HK20 := hid (show k < 20 by omega)
  have HRK : Hid (res = (numB k n && textB k text (hasD k).name && (decide ((hasD k).low ≤ a) && decide (a ≤ rTypes k)) && (decide ((hasD k).kids < 0 ∨ b = 0) && decide ((d : Int) = kidsOf (hasD k).kids b)) && q && ts.all (writtenB 16) && ks.all (nodeB m))) := hid (by
    have e : decide ((hasD k).low ≤ a ∧ a ≤ (hasD k).types) = (decide ((hasD k).low ≤ a) && decide (a ≤ rTypes k)) := by
      have h := rtypes_le (k := k) hta
      by_cases x1 : (hasD k).low ≤ a
      · by_cases x2 : a ≤ (hasD k).types
        · rw [decide_eq_true ⟨x1, x2⟩, decide_eq_true x1, decide_eq_true (h.2 x2)]; rfl
        · rw [decide_eq_false (fun y => x2 y.2), decide_eq_true x1, decide_eq_false (fun y => x2 (h.1 y))]; rfl
      · rw [decide_eq_false (fun y => x1 y.1), decide_eq_false x1]; rfl
    rw [HRES.out, decide_eq_true (by omega : 0 ≤ k ∧ k < 20), Bool.true_and, num_eq HK0.out HK20.out hn64, e])
  have HOW := hid (fun w1 => rown_any w1 k HK0.out HK20.out text n li co A1 a c1 A2 b c2 A3 d c3 hok2)
  have HSH := hid (rshape_any W k HK0.out HK20.out)
  rw [← HWE.out] at HSH
  have HKD8 : Hid ((hasD k).kids < 0 → k = 8) := hid (fun h => by
    have h8 : ∀ j : Int, j ≠ 8 → 0 ≤ (hasD j).kids := by
      intro j hj
      show (fun x : HasD => 0 ≤ x.kids) (hasD j)
      unfold hasD
      rw [if_neg hj]
      repeat' (refine ite_p (P := fun x : HasD => 0 ≤ x.kids) ?_ ?_)
      all_goals (show (0 : Int) ≤ _; decide)
    apply Classical.byContradiction
    intro h9
    have := h8 k h9
    omega)
  have HK8 : Hid (k = 8 → (hasD k).kids < 0) := hid (fun h => by subst h; decide)
  clear h0 h20 HRES hn64 hok2 hta
  generalize textB k text (hasD k).name = tb at *
  generalize numB k n = nb at *
  generalize (hasD k).name = hn at *
  generalize (hasD k).low = lo at *
  generalize rTypes k = hi at *
  generalize (hasD k).kids = kd at *
  by_cases hkd : kd < 0
  · have g6 : decide (kd < 0) = true := decide_eq_true hkd
    obtain rfl : k = 8 := HKD8.out hkd
    have HRR : Hid (res = (nb && tb && (decide (lo ≤ a) && decide (a ≤ hi)) && decide ((d : Int) = (b : Int)) && q && ts.all (writtenB 16) && ks.all (nodeB m))) := hid (by
      rw [HRK.out, decide_eq_true (show kd < 0 ∨ b = 0 from .inl hkd), Bool.true_and]
      unfold kidsOf
      rw [if_pos hkd])
    clear HRK HKD8 hkd HK8
    go_enter Tryz.func34, Tryz.ntmps34
    go_wp2_with fail
    refine HSH.out.mono ?_
    rintro e w2 ⟨rfl, rfl⟩
    have hW := HWE.out
    obtain ⟨p0, p1, p2, p3, p4, p5, p6, p7⟩ := t_row8 HBX.out
    clear hm0 hm1 g4 g5
    rw [hW]
    go_wp2_with fail
    refine (HOW.out _).mono ?_
    rintro e w3 ⟨rfl, hb3⟩
    have HB3 := hid hb3
    clear p0 p1 p2 p3 p4 p5 p6 p7 hW
    have hbb := HB3.out
    obtain ⟨p0, p1, p2, p3, p4, p5, p6, p7⟩ := t_row8 ((hbb.block _ (block_lt HBX.out)).trans HBX.out)
    clear hb3 hbb
    go_wp2_with fail
    refine (HNM.out w3 HB3.out).mono ?_
    rintro e w4 ⟨rfl, hb⟩
    have HB4 := hid (HB3.out.trans (hb.mono HB3.out.size))
    clear hb p0 p1 p2 p3 p4 p5 p6 p7
    obtain ⟨p0, p1, p2, p3, p4, p5, p6, p7⟩ := t_row8 ((HB4.out.block _ (block_lt HBX.out)).trans HBX.out)
    cases hnt : (tb && nb) with
    | false =>
      have HF : Hid (res = false) := hid (by rw [HRR.out]; cases tb <;> cases nb <;> simp at hnt ⊢)
      clear hnt
      go_wp2_with fail
      go_ret
      refine ⟨by rw [HF.out]; rfl, HB1.out.trans (HB4.out.mono HB1.out.size)⟩
    | true =>
      have HNT : Hid (tb = true ∧ nb = true) := hid (by simpa using hnt)
      clear hnt
      cases q with
      | false =>
        have HF : Hid (res = false) := hid (by rw [HRR.out]; simp)
        go_wp2_with fail
        go_ret
        refine ⟨by rw [HF.out]; rfl, HB1.out.trans (HB4.out.mono HB1.out.size)⟩
      | true =>
        by_cases h1 : a < lo
        · have g1 : decide ((a : Int) < (lo : Int)) = true := by simp; omega
          have HF : Hid (res = false) := hid (by rw [HRR.out, decide_eq_false (by omega : ¬ lo ≤ a)]; simp)
          go_wp2_with fail
          go_ret
          refine ⟨by rw [HF.out]; rfl, HB1.out.trans (HB4.out.mono HB1.out.size)⟩
        have g1 : decide ((a : Int) < (lo : Int)) = false := by simp; omega
        by_cases h2 : hi < a
        · have g2 : decide ((hi : Int) < (a : Int)) = true := by simp; omega
          have HF : Hid (res = false) := hid (by rw [HRR.out, decide_eq_false (by omega : ¬ a ≤ hi)]; simp)
          go_wp2_with fail
          go_ret
          refine ⟨by rw [HF.out]; rfl, HB1.out.trans (HB4.out.mono HB1.out.size)⟩
        have g2 : decide ((hi : Int) < (a : Int)) = false := by simp; omega
        by_cases h3 : (d : Int) = (b : Int)
        · have g3 : ((d : Int) != (b : Int)) = false := by rw [bne_eq_false_iff_eq]; exact h3
          have HRT : Hid (res = (ts.all (writtenB 16) && ks.all (nodeB m))) := hid (by rw [HRR.out, HNT.out.1, HNT.out.2, decide_eq_true (by omega : lo ≤ a), decide_eq_true (by omega : a ≤ hi), decide_eq_true h3]; simp)
          obtain ⟨rfl, rfl⟩ := HNT.out
          clear h3 HRR
          go_wp2_with fail
          clear p0 p1 p2 p3 p4 p5 p6 p7 g1 g2 g3 g6 h1 h2
          go_loopw [11] (fun v11 wr => ∃ i : Nat, v11 = .int .i64 i ∧ i ≤ a ∧ (ts.take i).all (writtenB 16) = true ∧ Below W.heap.size W wr) (fun v11 _ => a - (intOf v11).toNat)
          case atStart => exact ⟨0, rfl, by omega, rfl, HB4.out⟩
          case round =>
            obtain ⟨i, rfl, hi_, hinv, hbr⟩ := hrel
            have HI := hid hinv
            have HB := hid hbr
            obtain ⟨p0, p1, p2, p3, p4, p5, p6, p7⟩ := t_row8 ((hbr.block _ (block_lt HBX.out)).trans HBX.out)
            clear hinv
            by_cases hlt : i < a
            · have hil : i < ts.length := by rw [HA.out]; exact hlt
              obtain ⟨b2, o2, kk, ss, A5, n5, c5, A6, n6, c6, rfl, hr1, e0, e1, e2, e3⟩ := elem_at (Sl.more (Sl.below HTT.out.1 hbr) hbr.size) ((HTT.out.2.keep hbr).more hbr.size) hil HA.out.symm
              have HC := hid (HWR.out wr _ ts[i] hr1 (HOT.out _ (List.getElem_mem hil)))
              have hst := t_take hil
              clear hbr hr1
              cases hq : writtenB 16 ts[i] with
              | false =>
                have hall : ts.all (writtenB 16) = false := by
                  cases h : ts.all (writtenB 16) with
                  | false => rfl
                  | true => rw [List.all_eq_true] at h; rw [h _ (List.getElem_mem hil)] at hq; cases hq
                have HF : Hid (res = false) := hid (by rw [HRT.out, hall]; simp)
                rw [hq] at HC
                clear hq hst hall
                generalize ts[i] = X at *
                go_wp2_with fail
                refine HC.out.mono ?_
                rintro e w5 ⟨rfl, hb⟩
                have HB5 := hid (HB.out.trans (hb.mono HB.out.size))
                clear hb e0 e1 e2 e3 p0 p1 p2 p3 p4 p5 p6 p7
                go_wp2_with fail
                go_ret
                refine ⟨by rw [HF.out]; rfl, HB1.out.trans (HB5.out.mono HB1.out.size)⟩
              | true =>
                have HST : Hid ((ts.take (i + 1)).all (writtenB 16) = true) := hid (by rw [hst, List.all_append, HI.out]; simp [hq])
                rw [hq] at HC
                clear hq hst
                generalize ts[i] = X at *
                go_wp2_with fail
                refine HC.out.mono ?_
                rintro e w5 ⟨rfl, hb⟩
                have HB5 := hid (HB.out.trans (hb.mono HB.out.size))
                clear hb e0 e1 e2 e3 p0 p1 p2 p3 p4 p5 p6 p7
                go_wp2_with fail
                go_roundw
                case rel => exact ⟨i + 1, rfl, by omega, HST.out, HB5.out⟩
                case measure => simp [intOf]; omega
            · obtain rfl : i = a := by omega
              have HRU : Hid (res = ks.all (nodeB m)) := hid (by
                have h := HI.out
                rw [List.take_of_length_le (by rw [HA.out]; omega)] at h
                rw [HRT.out, h, Bool.true_and])
              clear hlt hbr HI HRT
              go_wp2_with fail
              clear p0 p1 p2 p3 p4 p5 p6 p7
              go_loopw [13] (fun v13 wr => ∃ j : Nat, v13 = .int .i64 j ∧ j ≤ d ∧ (ks.take j).all (nodeB m) = true ∧ Below W.heap.size W wr) (fun v13 _ => d - (intOf v13).toNat)
              case atStart => exact ⟨0, rfl, by omega, rfl, HB.out⟩
              case round =>
                obtain ⟨j, rfl, hj_, hinv2, hbr2⟩ := hrel
                have HI2 := hid hinv2
                have HB2 := hid hbr2
                obtain ⟨p0, p1, p2, p3, p4, p5, p6, p7⟩ := t_row8 ((hbr2.block _ (block_lt HBX.out)).trans HBX.out)
                clear hinv2
                by_cases hlt : j < d
                · have hil : j < ks.length := by rw [HD.out]; exact hlt
                  obtain ⟨b2, o2, kk, ss, y2, y3, y4, A5, n5, c5, A6, n6, c6, A7, n7, c7, rfl, hr1, e0, e1, e2, e3, e4, e5, e6, e7⟩ := node_at (Sl.more (Sl.below HKK.out.1 hbr2) hbr2.size) ((HKK.out.2.keep hbr2).more hbr2.size) hil HD.out.symm
                  have HC := hid (HIH.out wr _ ks[j] hr1 (HOK.out _ (List.getElem_mem hil)) (Nat.le_trans (cntN_mem (List.getElem_mem hil)) HKC.out))
                  have hst := t_take hil
                  clear hbr2 hr1
                  cases hq : nodeB m ks[j] with
                  | false =>
                    have hall : ks.all (nodeB m) = false := by
                      cases h : ks.all (nodeB m) with
                      | false => rfl
                      | true => rw [List.all_eq_true] at h; rw [h _ (List.getElem_mem hil)] at hq; cases hq
                    have HF : Hid (res = false) := hid (by rw [HRU.out, hall])
                    rw [hq] at HC
                    clear hq hst hall
                    generalize ks[j] = X at *
                    go_wp2_with fail
                    refine HC.out.mono ?_
                    rintro e w5 ⟨rfl, hb⟩
                    have HB5 := hid (HB2.out.trans (hb.mono HB2.out.size))
                    clear hb e0 e1 e2 e3 e4 e5 e6 e7 p0 p1 p2 p3 p4 p5 p6 p7
                    go_wp2_with fail
                    go_ret
                    refine ⟨by rw [HF.out]; rfl, HB1.out.trans (HB5.out.mono HB1.out.size)⟩
                  | true =>
                    have HST : Hid ((ks.take (j + 1)).all (nodeB m) = true) := hid (by rw [hst, List.all_append, HI2.out]; simp [hq])
                    rw [hq] at HC
                    clear hq hst
                    generalize ks[j] = X at *
                    go_wp2_with fail
                    refine HC.out.mono ?_
                    rintro e w5 ⟨rfl, hb⟩
                    have HB5 := hid (HB2.out.trans (hb.mono HB2.out.size))
                    clear hb e0 e1 e2 e3 e4 e5 e6 e7 p0 p1 p2 p3 p4 p5 p6 p7
                    go_wp2_with fail
                    go_roundw
                    case rel => exact ⟨j + 1, rfl, by omega, HST.out, HB5.out⟩
                    case measure => simp [intOf]; omega
                · obtain rfl : j = d := by omega
                  have HF : Hid (res = true) := hid (by
                    have h := HI2.out
                    rw [List.take_of_length_le (by rw [HD.out]; omega)] at h
                    rw [HRU.out, h])
                  clear hbr2 hlt
                  go_wp2_with fail
                  go_ret
                  refine ⟨by rw [HF.out]; rfl, HB1.out.trans (HB2.out.mono HB1.out.size)⟩
        · have g3 : ((d : Int) != (b : Int)) = true := by rw [bne_iff_ne]; exact h3
          have HF3 := hid h3
          have HF : Hid (res = false) := hid (by rw [HRR.out, decide_eq_false HF3.out]; simp)
          clear h3
          obtain ⟨rfl, rfl⟩ := HNT.out
          go_wp2_with fail
          go_ret
          refine ⟨by rw [HF.out]; rfl, HB1.out.trans (HB4.out.mono HB1.out.size)⟩
  · have g6 : decide (kd < 0) = false := decide_eq_false hkd
    have HRR : Hid (res = (nb && tb && (decide (lo ≤ a) && decide (a ≤ hi)) && decide ((d : Int) = kd) && decide (b = 0) && q && ts.all (writtenB 16) && ks.all (nodeB m))) := hid (by
      rw [HRK.out]
      unfold kidsOf
      rw [if_neg hkd, show decide (kd < 0 ∨ b = 0) = decide (b = 0) by simp [hkd]]
      cases nb <;> cases tb <;> cases q <;> simp [Bool.and_comm, Bool.and_left_comm, Bool.and_assoc])
    have h8 : ¬ k = 8 := fun h => hkd (HK8.out h)
    have g8 : (k == 8) = false := beq_eq_false_iff_ne.mpr h8
    have g9 : (k != 8) = true := by rw [bne_iff_ne]; exact h8
    clear HRK HKD8 hkd h8 HK8
    go_enter Tryz.func34, Tryz.ntmps34
    go_wp2_with fail
    refine HSH.out.mono ?_
    rintro e w2 ⟨rfl, rfl⟩
    have hW := HWE.out
    obtain ⟨p0, p1, p2, p3, p4, p5, p6, p7⟩ := t_row8 HBX.out
    clear hm0 hm1 g4 g5
    rw [hW]
    go_wp2_with fail
    refine (HOW.out _).mono ?_
    rintro e w3 ⟨rfl, hb3⟩
    have HB3 := hid hb3
    clear p0 p1 p2 p3 p4 p5 p6 p7 hW
    have hbb := HB3.out
    obtain ⟨p0, p1, p2, p3, p4, p5, p6, p7⟩ := t_row8 ((hbb.block _ (block_lt HBX.out)).trans HBX.out)
    clear hb3 hbb
    go_wp2_with fail
    refine (HNM.out w3 HB3.out).mono ?_
    rintro e w4 ⟨rfl, hb⟩
    have HB4 := hid (HB3.out.trans (hb.mono HB3.out.size))
    clear hb p0 p1 p2 p3 p4 p5 p6 p7
    obtain ⟨p0, p1, p2, p3, p4, p5, p6, p7⟩ := t_row8 ((HB4.out.block _ (block_lt HBX.out)).trans HBX.out)
    cases hnt : (tb && nb) with
    | false =>
      have HF : Hid (res = false) := hid (by rw [HRR.out]; cases tb <;> cases nb <;> simp at hnt ⊢)
      clear hnt
      go_wp2_with fail
      go_ret
      refine ⟨by rw [HF.out]; rfl, HB1.out.trans (HB4.out.mono HB1.out.size)⟩
    | true =>
      have HNT : Hid (tb = true ∧ nb = true) := hid (by simpa using hnt)
      clear hnt
      cases q with
      | false =>
        have HF : Hid (res = false) := hid (by rw [HRR.out]; simp)
        go_wp2_with fail
        go_ret
        refine ⟨by rw [HF.out]; rfl, HB1.out.trans (HB4.out.mono HB1.out.size)⟩
      | true =>
        by_cases h1 : a < lo
        · have g1 : decide ((a : Int) < (lo : Int)) = true := by simp; omega
          have HF : Hid (res = false) := hid (by rw [HRR.out, decide_eq_false (by omega : ¬ lo ≤ a)]; simp)
          go_wp2_with fail
          go_ret
          refine ⟨by rw [HF.out]; rfl, HB1.out.trans (HB4.out.mono HB1.out.size)⟩
        have g1 : decide ((a : Int) < (lo : Int)) = false := by simp; omega
        by_cases h2 : hi < a
        · have g2 : decide ((hi : Int) < (a : Int)) = true := by simp; omega
          have HF : Hid (res = false) := hid (by rw [HRR.out, decide_eq_false (by omega : ¬ a ≤ hi)]; simp)
          go_wp2_with fail
          go_ret
          refine ⟨by rw [HF.out]; rfl, HB1.out.trans (HB4.out.mono HB1.out.size)⟩
        have g2 : decide ((hi : Int) < (a : Int)) = false := by simp; omega
        by_cases h3 : (d : Int) = kd
        · have g3 : ((d : Int) != kd) = false := by rw [bne_eq_false_iff_eq]; exact h3
          by_cases h5 : 0 < b
          · have g7 : decide ((0 : Int) < (b : Int)) = true := by simp; omega
            have HF0 : Hid (¬ b = 0) := hid (by omega)
            have HF : Hid (res = false) := hid (by rw [HRR.out, decide_eq_false HF0.out]; simp)
            clear h3
            go_wp2_with fail
            go_ret
            refine ⟨by rw [HF.out]; rfl, HB1.out.trans (HB4.out.mono HB1.out.size)⟩
          have g7 : decide ((0 : Int) < (b : Int)) = false := by simp; omega
          have HRT : Hid (res = (ts.all (writtenB 16) && ks.all (nodeB m))) := hid (by rw [HRR.out, HNT.out.1, HNT.out.2, decide_eq_true (by omega : lo ≤ a), decide_eq_true (by omega : a ≤ hi), decide_eq_true h3, decide_eq_true (by omega : b = 0)]; simp)
          obtain ⟨rfl, rfl⟩ := HNT.out
          clear h3 HRR
          go_wp2_with fail
          clear p0 p1 p2 p3 p4 p5 p6 p7 g1 g2 g3 g6 h1 h2 g7 g8 g9
          go_loopw [11] (fun v11 wr => ∃ i : Nat, v11 = .int .i64 i ∧ i ≤ a ∧ (ts.take i).all (writtenB 16) = true ∧ Below W.heap.size W wr) (fun v11 _ => a - (intOf v11).toNat)
          case atStart => exact ⟨0, rfl, by omega, rfl, HB4.out⟩
          case round =>
            obtain ⟨i, rfl, hi_, hinv, hbr⟩ := hrel
            have HI := hid hinv
            have HB := hid hbr
            obtain ⟨p0, p1, p2, p3, p4, p5, p6, p7⟩ := t_row8 ((hbr.block _ (block_lt HBX.out)).trans HBX.out)
            clear hinv
            by_cases hlt : i < a
            · have hil : i < ts.length := by rw [HA.out]; exact hlt
              obtain ⟨b2, o2, kk, ss, A5, n5, c5, A6, n6, c6, rfl, hr1, e0, e1, e2, e3⟩ := elem_at (Sl.more (Sl.below HTT.out.1 hbr) hbr.size) ((HTT.out.2.keep hbr).more hbr.size) hil HA.out.symm
              have HC := hid (HWR.out wr _ ts[i] hr1 (HOT.out _ (List.getElem_mem hil)))
              have hst := t_take hil
              clear hbr hr1
              cases hq : writtenB 16 ts[i] with
              | false =>
                have hall : ts.all (writtenB 16) = false := by
                  cases h : ts.all (writtenB 16) with
                  | false => rfl
                  | true => rw [List.all_eq_true] at h; rw [h _ (List.getElem_mem hil)] at hq; cases hq
                have HF : Hid (res = false) := hid (by rw [HRT.out, hall]; simp)
                rw [hq] at HC
                clear hq hst hall
                generalize ts[i] = X at *
                go_wp2_with fail
                refine HC.out.mono ?_
                rintro e w5 ⟨rfl, hb⟩
                have HB5 := hid (HB.out.trans (hb.mono HB.out.size))
                clear hb e0 e1 e2 e3 p0 p1 p2 p3 p4 p5 p6 p7
                go_wp2_with fail
                go_ret
                refine ⟨by rw [HF.out]; rfl, HB1.out.trans (HB5.out.mono HB1.out.size)⟩
              | true =>
                have HST : Hid ((ts.take (i + 1)).all (writtenB 16) = true) := hid (by rw [hst, List.all_append, HI.out]; simp [hq])
                rw [hq] at HC
                clear hq hst
                generalize ts[i] = X at *
                go_wp2_with fail
                refine HC.out.mono ?_
                rintro e w5 ⟨rfl, hb⟩
                have HB5 := hid (HB.out.trans (hb.mono HB.out.size))
                clear hb e0 e1 e2 e3 p0 p1 p2 p3 p4 p5 p6 p7
                go_wp2_with fail
                go_roundw
                case rel => exact ⟨i + 1, rfl, by omega, HST.out, HB5.out⟩
                case measure => simp [intOf]; omega
            · obtain rfl : i = a := by omega
              have HRU : Hid (res = ks.all (nodeB m)) := hid (by
                have h := HI.out
                rw [List.take_of_length_le (by rw [HA.out]; omega)] at h
                rw [HRT.out, h, Bool.true_and])
              clear hlt hbr HI HRT
              go_wp2_with fail
              clear p0 p1 p2 p3 p4 p5 p6 p7
              go_loopw [13] (fun v13 wr => ∃ j : Nat, v13 = .int .i64 j ∧ j ≤ d ∧ (ks.take j).all (nodeB m) = true ∧ Below W.heap.size W wr) (fun v13 _ => d - (intOf v13).toNat)
              case atStart => exact ⟨0, rfl, by omega, rfl, HB.out⟩
              case round =>
                obtain ⟨j, rfl, hj_, hinv2, hbr2⟩ := hrel
                have HI2 := hid hinv2
                have HB2 := hid hbr2
                obtain ⟨p0, p1, p2, p3, p4, p5, p6, p7⟩ := t_row8 ((hbr2.block _ (block_lt HBX.out)).trans HBX.out)
                clear hinv2
                by_cases hlt : j < d
                · have hil : j < ks.length := by rw [HD.out]; exact hlt
                  obtain ⟨b2, o2, kk, ss, y2, y3, y4, A5, n5, c5, A6, n6, c6, A7, n7, c7, rfl, hr1, e0, e1, e2, e3, e4, e5, e6, e7⟩ := node_at (Sl.more (Sl.below HKK.out.1 hbr2) hbr2.size) ((HKK.out.2.keep hbr2).more hbr2.size) hil HD.out.symm
                  have HC := hid (HIH.out wr _ ks[j] hr1 (HOK.out _ (List.getElem_mem hil)) (Nat.le_trans (cntN_mem (List.getElem_mem hil)) HKC.out))
                  have hst := t_take hil
                  clear hbr2 hr1
                  cases hq : nodeB m ks[j] with
                  | false =>
                    have hall : ks.all (nodeB m) = false := by
                      cases h : ks.all (nodeB m) with
                      | false => rfl
                      | true => rw [List.all_eq_true] at h; rw [h _ (List.getElem_mem hil)] at hq; cases hq
                    have HF : Hid (res = false) := hid (by rw [HRU.out, hall])
                    rw [hq] at HC
                    clear hq hst hall
                    generalize ks[j] = X at *
                    go_wp2_with fail
                    refine HC.out.mono ?_
                    rintro e w5 ⟨rfl, hb⟩
                    have HB5 := hid (HB2.out.trans (hb.mono HB2.out.size))
                    clear hb e0 e1 e2 e3 e4 e5 e6 e7 p0 p1 p2 p3 p4 p5 p6 p7
                    go_wp2_with fail
                    go_ret
                    refine ⟨by rw [HF.out]; rfl, HB1.out.trans (HB5.out.mono HB1.out.size)⟩
                  | true =>
                    have HST : Hid ((ks.take (j + 1)).all (nodeB m) = true) := hid (by rw [hst, List.all_append, HI2.out]; simp [hq])
                    rw [hq] at HC
                    clear hq hst
                    generalize ks[j] = X at *
                    go_wp2_with fail
                    refine HC.out.mono ?_
                    rintro e w5 ⟨rfl, hb⟩
                    have HB5 := hid (HB2.out.trans (hb.mono HB2.out.size))
                    clear hb e0 e1 e2 e3 e4 e5 e6 e7 p0 p1 p2 p3 p4 p5 p6 p7
                    go_wp2_with fail
                    go_roundw
                    case rel => exact ⟨j + 1, rfl, by omega, HST.out, HB5.out⟩
                    case measure => simp [intOf]; omega
                · obtain rfl : j = d := by omega
                  have HF : Hid (res = true) := hid (by
                    have h := HI2.out
                    rw [List.take_of_length_le (by rw [HD.out]; omega)] at h
                    rw [HRU.out, h])
                  clear hbr2 hlt
                  go_wp2_with fail
                  go_ret
                  refine ⟨by rw [HF.out]; rfl, HB1.out.trans (HB2.out.mono HB1.out.size)⟩
        · have g3 : ((d : Int) != kd) = true := by rw [bne_iff_ne]; exact h3
          have HF3 := hid h3
          have HF : Hid (res = false) := hid (by rw [HRR.out, decide_eq_false HF3.out]; simp)
          clear h3
          obtain ⟨rfl, rfl⟩ := HNT.out
          go_wp2_with fail
          go_ret
          refine ⟨by rw [HF.out]; rfl, HB1.out.trans (HB4.out.mono HB1.out.size)⟩
theorem rnode_all : ∀ m : Nat, m ≤ 41 → RNdC m
  | 0, _ => rnode_zero
  | m + 1, h => rnode_succ m (by omega) (rnode_all m (by omega))
end Go.Proofs.YtbpedjkebemhnaaGreatDoor
end
