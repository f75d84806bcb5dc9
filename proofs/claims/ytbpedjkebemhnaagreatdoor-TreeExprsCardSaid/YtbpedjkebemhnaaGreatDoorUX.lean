/- Which types are written ones: the reference. -/
import Derived.Test.YtbpedjkebemhnaaGreatDoorGM
import Derived.Test.YtbpedjkebemhnaaGreatDoorGJ
import Derived.Test.YtbpedjkebemhnaaGreatDoorGL
set_option linter.unusedVariables false
namespace Go.Proofs.YtbpedjkebemhnaaGreatDoor
open Go.RowKit

/-- The contract of the reference's Written, so many within one another. -/
def RWrC (m : Nat) : Prop := ∀ (w : World) (z : List Value) (t : TyD), TyR w w.heap.size z t → okT t →
  Calls Tryz.prog 38 #[.agg z.toArray, .int .i64 (m : Int)] w fun e w' => e = .returned (.bool (writtenB m t)) ∧ Below w.heap.size w w'
set_option maxRecDepth 100000 in
theorem rwritten_zero : RWrC 0 := by
  intro w z t hr hok
  have hw : writtenB 0 t = false := rfl
  rw [hw]
  obtain ⟨k, s, A1, n1, c1, A2, n2, c2, rfl⟩ := hr.shape
  have HB : Hid (Below w.heap.size w (w.alloc (.cells #[.int .i64 k, .string s, .slice A1 n1 c1, .slice A2 n2 c2] 32))) := hid ((Below.refl _ _).alloc (Nat.le_refl _) _)
  clear hr hok hw
  go_enter Tryz.func38, Tryz.ntmps38
  go_wp2_with fail
  go_ret
  exact ⟨rfl, HB.out⟩
set_option maxRecDepth 100000 in
set_option maxHeartbeats 8000000 in
theorem rwritten_succ (m : Nat) (hm : m ≤ 40) (ih : RWrC m) : RWrC (m + 1) := by
  intro w z t hr hok
  obtain ⟨k, nm, ns, ks⟩ := t
  rw [okT] at hok
  obtain ⟨ok1, ok2, ok3, ok4⟩ := hok
  obtain ⟨A1, c1, A2, c2, xk, rfl, s1, s2, r2⟩ := hr.parts
  have l1 := (t_sl_len s1).2
  have l2 := (t_sl_len s2).2
  clear hr
  have hw : writtenB (m + 1) (.mk k nm ns ks) = (ns.all nameL && ks.all (writtenB m) && kindT k nm ns.length ks.length) := rfl
  rw [hw]
  clear hw
  have HQ0 : Hid (ns.length = 0 → ns.all nameL = true) := hid (fun h => by rw [List.length_eq_zero_iff.1 h]; rfl)
  obtain ⟨W1, hW1⟩ : ∃ W1, W1 = w.alloc (.cells #[.int .i64 k, sv nm, .slice A1 ns.length c1, .slice A2 ks.length c2] 32) := ⟨_, rfl⟩
  have hb1 : Below w.heap.size w W1 := by rw [hW1]; exact (Below.refl _ _).alloc (Nat.le_refl _) _
  have hbx : W1.heap[w.heap.size]? = some (.cells #[.int .i64 k, sv nm, .slice A1 ns.length c1, .slice A2 ks.length c2] 32 (0, 0)) := by rw [hW1]; exact heap_alloc_new w _
  have HB1 := hid hb1
  have HBX := hid hbx
  have HS1 := hid (Sl.more (Sl.below s1 hb1) hb1.size)
  have HS := hid (And.intro (Sl.more (Sl.below s2 hb1) hb1.size) ((r2.keep hb1).more hb1.size))
  have HN : Hid (∀ wr, Below W1.heap.size W1 wr → Calls Tryz.prog 47 #[.slice A1 ns.length c1] wr fun e w' => e = .returned (.bool (ns.all nameL)) ∧ Below wr.heap.size wr w') := hid (fun wr h => rnames_any _ ns wr (Sl.more (Sl.below HS1.out h) h.size) ok3)
  have HNM : Hid (∀ wx, Calls Tryz.prog 46 #[sv nm] wx fun e w' => e = .returned (.bool (nameL nm)) ∧ Below wx.heap.size wx w') := hid (fun wx => rname_any wx nm ok2)
  have HOK := hid (okTs_mem.1 ok4)
  have HIH := hid ih
  clear s1 s2 r2 ok1 ok2 ok3 ok4 ih hb1 hbx HS1
  obtain ⟨a, hA⟩ : ∃ a, ns.length = a := ⟨_, rfl⟩
  obtain ⟨b, hB⟩ : ∃ b, ks.length = b := ⟨_, rfl⟩
  rw [hA] at HN HBX hW1 l1 HQ0 ⊢
  rw [hB] at HS HBX hW1 l2 ⊢
  have HA := hid hA
  have HBB := hid hB
  clear hA hB
  generalize ns.all nameL = q at *
  have hmn : ¬ ((m : Int) + 1 < 1) := by omega
  have hmd : decide ((m : Int) + 1 < 1) = false := decide_eq_false hmn
  go_enter Tryz.func38, Tryz.ntmps38
  go_wp2_with fail
  rw [← hW1]
  clear hW1
  go_loopw [5] (fun v5 wr => ∃ i : Nat, v5 = .int .i64 i ∧ i ≤ b ∧ (ks.take i).all (writtenB m) = true ∧ Below W1.heap.size W1 wr) (fun v5 _ => b - (intOf v5).toNat)
  case atStart => exact ⟨0, rfl, by omega, rfl, Below.refl _ _⟩
  case round =>
    obtain ⟨i, rfl, hi, hinv, hbr⟩ := hrel
    obtain ⟨_, _, _, q3⟩ := t_row4 ((hbr.block _ (block_lt HBX.out)).trans HBX.out)
    have HI := hid hinv
    have HB := hid hbr
    clear hinv
    by_cases hlt : i < b
    · have hil : i < ks.length := by rw [HBB.out]; exact hlt
      have hs2 : Sl wr wr.heap.size 4 (.slice A2 b c2) xk := Sl.more (Sl.below HS.out.1 hbr) hbr.size
      have hr2 : TysR wr wr.heap.size xk ks := (HS.out.2.keep hbr).more hbr.size
      obtain ⟨b2, o2, kk, ss, A3, n3, c3, A4, n4, c4, rfl, hr1, e0, e1, e2, e3⟩ := elem_at hs2 hr2 hil HBB.out.symm
      have HH := hid (HIH.out wr _ _ hr1 (HOK.out _ (List.getElem_mem hil)))
      have hst := t_take hil
      clear hs2 hr2 hr1 hbr
      cases hq : writtenB m ks[i] with
      | false =>
        have HALL : Hid (ks.all (writtenB m) = false) := hid (by
          cases h : ks.all (writtenB m) with
          | false => rfl
          | true => rw [List.all_eq_true] at h; rw [h _ (List.getElem_mem hil)] at hq; cases hq)
        rw [hq] at HH
        clear hq hst
        generalize ks[i] = X at *
        go_wp2_with fail
        refine HH.out.mono ?_
        rintro e w2 ⟨rfl, hb⟩
        have HB2 := hid (HB1.out.trans ((HB.out.trans (hb.mono HB.out.size)).mono HB1.out.size))
        clear hb
        go_wp2_with fail
        go_ret
        exact ⟨by rw [HALL.out]; simp, HB2.out⟩
      | true =>
        rw [hq] at HH
        have HST : Hid ((ks.take (i + 1)).all (writtenB m) = true) := hid (by rw [hst, List.all_append, HI.out]; simp [hq])
        clear hq hst
        generalize ks[i] = X at *
        go_wp2_with fail
        refine HH.out.mono ?_
        rintro e w2 ⟨rfl, hb⟩
        have HB2 := hid (HB.out.trans (hb.mono HB.out.size))
        clear hb
        go_wp2_with fail
        go_roundw
        case rel => exact ⟨i + 1, rfl, by omega, HST.out, HB2.out⟩
        case measure => simp [intOf]; omega
    · obtain rfl : i = b := by omega
      have HKS : Hid (ks.all (writtenB m) = true) := hid (by have := HI.out; rwa [List.take_of_length_le (by rw [HBB.out]; omega)] at this)
      obtain ⟨_, _, q2, _⟩ := t_row4 ((hbr.block _ (block_lt HBX.out)).trans HBX.out)
      have HNN := hid (HN.out wr hbr)
      clear hbr HI hmn hmd
      go_wp2_with fail
      refine HNN.out.mono ?_
      rintro e w3 ⟨rfl, hb3⟩
      have hb3' := HB.out.trans (hb3.mono HB.out.size)
      obtain ⟨p0, p1, p2, p3⟩ := t_row4 ((hb3'.block _ (block_lt HBX.out)).trans HBX.out)
      have HB3 := hid (HB1.out.trans (hb3'.mono HB1.out.size))
      have HX3 := hid hb3'
      clear hb3 hb3' q2 q3 hlt
      by_cases n0 : k = 0
      · subst n0
        by_cases hnm : nm = []
        · subst hnm
          by_cases ha0 : a = 0
          · subst ha0
            by_cases hi0 : i = 0
            · subst hi0
              have HT : Hid (kindT 0 [] 0 0 = true) := hid (by simp [kindT])
              go_wp2_with fail
              go_ret
              exact ⟨by rw [HKS.out, HT.out, HQ0.out (by simp)]; rfl, HB3.out⟩
            · have hq : ((i : Int) == 0) = false := beq_eq_false_iff_ne.mpr (by omega)
              have HT : Hid (kindT 0 [] 0 i = false) := hid (by simp [kindT, hi0])
              clear hi0
              go_wp2_with fail
              go_ret
              exact ⟨by rw [HKS.out, HT.out]; simp, HB3.out⟩
          · have hq : ((a : Int) == 0) = false := beq_eq_false_iff_ne.mpr (by omega)
            have HT : Hid (kindT 0 [] a i = false) := hid (by simp [kindT, ha0])
            clear ha0
            go_wp2_with fail
            go_ret
            exact ⟨by rw [HKS.out, HT.out]; simp, HB3.out⟩
        · have hq : (nm == []) = false := by cases nm with | nil => exact absurd rfl hnm | cons c r => rfl
          have HT : Hid (kindT 0 nm a i = false) := hid (by simp [kindT, hnm])
          go_wp2_with fail
          go_ret
          exact ⟨by rw [HKS.out, HT.out]; simp, HB3.out⟩
      have q0 : (k == 0) = false := beq_eq_false_iff_ne.mpr n0
      by_cases n1 : k = 1
      · subst n1
        clear n0 q0
        by_cases hnm : nm = []
        · subst hnm
          by_cases ha0 : a = 0
          · subst ha0
            by_cases hi0 : i = 0
            · subst hi0
              have HT : Hid (kindT 1 [] 0 0 = true) := hid (by simp [kindT])
              go_wp2_with fail
              go_ret
              exact ⟨by rw [HKS.out, HT.out, HQ0.out (by simp)]; rfl, HB3.out⟩
            · have hq : ((i : Int) == 0) = false := beq_eq_false_iff_ne.mpr (by omega)
              have HT : Hid (kindT 1 [] 0 i = false) := hid (by simp [kindT, hi0])
              clear hi0
              go_wp2_with fail
              go_ret
              exact ⟨by rw [HKS.out, HT.out]; simp, HB3.out⟩
          · have hq : ((a : Int) == 0) = false := beq_eq_false_iff_ne.mpr (by omega)
            have HT : Hid (kindT 1 [] a i = false) := hid (by simp [kindT, ha0])
            clear ha0
            go_wp2_with fail
            go_ret
            exact ⟨by rw [HKS.out, HT.out]; simp, HB3.out⟩
        · have hq : (nm == []) = false := by cases nm with | nil => exact absurd rfl hnm | cons c r => rfl
          have HT : Hid (kindT 1 nm a i = false) := hid (by simp [kindT, hnm])
          go_wp2_with fail
          go_ret
          exact ⟨by rw [HKS.out, HT.out]; simp, HB3.out⟩
      have q1 : (k == 1) = false := beq_eq_false_iff_ne.mpr n1
      by_cases n2 : k = 2
      · subst n2
        clear n0 q0 n1 q1
        by_cases hnm : nm = []
        · subst hnm
          by_cases ha0 : a = 0
          · subst ha0
            by_cases hi0 : i = 0
            · subst hi0
              have HT : Hid (kindT 2 [] 0 0 = true) := hid (by simp [kindT])
              go_wp2_with fail
              go_ret
              exact ⟨by rw [HKS.out, HT.out, HQ0.out (by simp)]; rfl, HB3.out⟩
            · have hq : ((i : Int) == 0) = false := beq_eq_false_iff_ne.mpr (by omega)
              have HT : Hid (kindT 2 [] 0 i = false) := hid (by simp [kindT, hi0])
              clear hi0
              go_wp2_with fail
              go_ret
              exact ⟨by rw [HKS.out, HT.out]; simp, HB3.out⟩
          · have hq : ((a : Int) == 0) = false := beq_eq_false_iff_ne.mpr (by omega)
            have HT : Hid (kindT 2 [] a i = false) := hid (by simp [kindT, ha0])
            clear ha0
            go_wp2_with fail
            go_ret
            exact ⟨by rw [HKS.out, HT.out]; simp, HB3.out⟩
        · have hq : (nm == []) = false := by cases nm with | nil => exact absurd rfl hnm | cons c r => rfl
          have HT : Hid (kindT 2 nm a i = false) := hid (by simp [kindT, hnm])
          go_wp2_with fail
          go_ret
          exact ⟨by rw [HKS.out, HT.out]; simp, HB3.out⟩
      have q2 : (k == 2) = false := beq_eq_false_iff_ne.mpr n2
      by_cases n3 : k = 3
      · subst n3
        clear n0 q0 n1 q1 n2 q2
        by_cases hnm : nm = []
        · subst hnm
          by_cases ha0 : a = 0
          · subst ha0
            by_cases hi0 : i = 0
            · subst hi0
              have HT : Hid (kindT 3 [] 0 0 = true) := hid (by simp [kindT])
              go_wp2_with fail
              go_ret
              exact ⟨by rw [HKS.out, HT.out, HQ0.out (by simp)]; rfl, HB3.out⟩
            · have hq : ((i : Int) == 0) = false := beq_eq_false_iff_ne.mpr (by omega)
              have HT : Hid (kindT 3 [] 0 i = false) := hid (by simp [kindT, hi0])
              clear hi0
              go_wp2_with fail
              go_ret
              exact ⟨by rw [HKS.out, HT.out]; simp, HB3.out⟩
          · have hq : ((a : Int) == 0) = false := beq_eq_false_iff_ne.mpr (by omega)
            have HT : Hid (kindT 3 [] a i = false) := hid (by simp [kindT, ha0])
            clear ha0
            go_wp2_with fail
            go_ret
            exact ⟨by rw [HKS.out, HT.out]; simp, HB3.out⟩
        · have hq : (nm == []) = false := by cases nm with | nil => exact absurd rfl hnm | cons c r => rfl
          have HT : Hid (kindT 3 nm a i = false) := hid (by simp [kindT, hnm])
          go_wp2_with fail
          go_ret
          exact ⟨by rw [HKS.out, HT.out]; simp, HB3.out⟩
      have q3 : (k == 3) = false := beq_eq_false_iff_ne.mpr n3
      by_cases n4 : k = 4
      · subst n4
        clear n0 q0 n1 q1 n2 q2 n3 q3
        by_cases hnm : nm = []
        · subst hnm
          by_cases ha0 : a = 0
          · subst ha0
            by_cases hi0 : i = 0
            · subst hi0
              have HT : Hid (kindT 4 [] 0 0 = true) := hid (by simp [kindT])
              go_wp2_with fail
              go_ret
              exact ⟨by rw [HKS.out, HT.out, HQ0.out (by simp)]; rfl, HB3.out⟩
            · have hq : ((i : Int) == 0) = false := beq_eq_false_iff_ne.mpr (by omega)
              have HT : Hid (kindT 4 [] 0 i = false) := hid (by simp [kindT, hi0])
              clear hi0
              go_wp2_with fail
              go_ret
              exact ⟨by rw [HKS.out, HT.out]; simp, HB3.out⟩
          · have hq : ((a : Int) == 0) = false := beq_eq_false_iff_ne.mpr (by omega)
            have HT : Hid (kindT 4 [] a i = false) := hid (by simp [kindT, ha0])
            clear ha0
            go_wp2_with fail
            go_ret
            exact ⟨by rw [HKS.out, HT.out]; simp, HB3.out⟩
        · have hq : (nm == []) = false := by cases nm with | nil => exact absurd rfl hnm | cons c r => rfl
          have HT : Hid (kindT 4 nm a i = false) := hid (by simp [kindT, hnm])
          go_wp2_with fail
          go_ret
          exact ⟨by rw [HKS.out, HT.out]; simp, HB3.out⟩
      have q4 : (k == 4) = false := beq_eq_false_iff_ne.mpr n4
      by_cases n5 : k = 5
      · subst n5
        clear n0 q0 n1 q1 n2 q2 n3 q3 n4 q4
        by_cases hnm : nm = []
        · subst hnm
          by_cases hab : a = i
          · subst hab
            have HT : Hid (kindT 5 [] a a = true) := hid (by simp [kindT])
            cases q
            · go_wp2_with fail
              go_ret
              exact ⟨by rw [HKS.out, HT.out]; rfl, HB3.out⟩
            · go_wp2_with fail
              go_ret
              exact ⟨by rw [HKS.out, HT.out]; rfl, HB3.out⟩
          · have hq : ((a : Int) == (i : Int)) = false := beq_eq_false_iff_ne.mpr (by omega)
            have HT : Hid (kindT 5 [] a i = false) := hid (by simp [kindT, hab])
            clear hab
            cases q
            · go_wp2_with fail
              go_ret
              exact ⟨by rw [HKS.out, HT.out]; rfl, HB3.out⟩
            · go_wp2_with fail
              go_ret
              exact ⟨by rw [HKS.out, HT.out]; rfl, HB3.out⟩
        · have hq : (nm == []) = false := by cases nm with | nil => exact absurd rfl hnm | cons c r => rfl
          have HT : Hid (kindT 5 nm a i = false) := hid (by simp [kindT, hnm])
          go_wp2_with fail
          go_ret
          exact ⟨by rw [HKS.out, HT.out]; simp, HB3.out⟩
      have q5 : (k == 5) = false := beq_eq_false_iff_ne.mpr n5
      by_cases n6 : k = 6
      · subst n6
        clear n0 q0 n1 q1 n2 q2 n3 q3 n4 q4 n5 q5
        by_cases hnm : nm = []
        · subst hnm
          by_cases ha0 : a = 0
          · subst ha0
            by_cases hi0 : i = 2
            · subst hi0
              have HT : Hid (kindT 6 [] 0 2 = true) := hid (by simp [kindT])
              go_wp2_with fail
              go_ret
              exact ⟨by rw [HKS.out, HT.out, HQ0.out (by simp)]; rfl, HB3.out⟩
            · have hq : ((i : Int) == 2) = false := beq_eq_false_iff_ne.mpr (by omega)
              have HT : Hid (kindT 6 [] 0 i = false) := hid (by simp [kindT, hi0])
              clear hi0
              go_wp2_with fail
              go_ret
              exact ⟨by rw [HKS.out, HT.out]; simp, HB3.out⟩
          · have hq : ((a : Int) == 0) = false := beq_eq_false_iff_ne.mpr (by omega)
            have HT : Hid (kindT 6 [] a i = false) := hid (by simp [kindT, ha0])
            clear ha0
            go_wp2_with fail
            go_ret
            exact ⟨by rw [HKS.out, HT.out]; simp, HB3.out⟩
        · have hq : (nm == []) = false := by cases nm with | nil => exact absurd rfl hnm | cons c r => rfl
          have HT : Hid (kindT 6 nm a i = false) := hid (by simp [kindT, hnm])
          go_wp2_with fail
          go_ret
          exact ⟨by rw [HKS.out, HT.out]; simp, HB3.out⟩
      have q6 : (k == 6) = false := beq_eq_false_iff_ne.mpr n6
      by_cases n7 : k = 7
      · subst n7
        clear n0 q0 n1 q1 n2 q2 n3 q3 n4 q4 n5 q5 n6 q6
        by_cases hnm : nm = []
        · subst hnm
          by_cases ha0 : a = 0
          · subst ha0
            by_cases hi0 : 2 ≤ i
            · have hq : decide ((2 : Int) ≤ (i : Int)) = true := by simp; omega
              have HT : Hid (kindT 7 [] 0 i = true) := hid (by simp [kindT, hi0])
              clear hi0
              go_wp2_with fail
              go_ret
              exact ⟨by rw [HKS.out, HT.out, HQ0.out (by simp)]; rfl, HB3.out⟩
            · have hq : decide ((2 : Int) ≤ (i : Int)) = false := by simp; omega
              have HT : Hid (kindT 7 [] 0 i = false) := hid (by simp [kindT, hi0])
              clear hi0
              go_wp2_with fail
              go_ret
              exact ⟨by rw [HKS.out, HT.out]; simp, HB3.out⟩
          · have hq : ((a : Int) == 0) = false := beq_eq_false_iff_ne.mpr (by omega)
            have HT : Hid (kindT 7 [] a i = false) := hid (by simp [kindT, ha0])
            clear ha0
            go_wp2_with fail
            go_ret
            exact ⟨by rw [HKS.out, HT.out]; simp, HB3.out⟩
        · have hq : (nm == []) = false := by cases nm with | nil => exact absurd rfl hnm | cons c r => rfl
          have HT : Hid (kindT 7 nm a i = false) := hid (by simp [kindT, hnm])
          go_wp2_with fail
          go_ret
          exact ⟨by rw [HKS.out, HT.out]; simp, HB3.out⟩
      have q7 : (k == 7) = false := beq_eq_false_iff_ne.mpr n7
      by_cases n8 : k = 8
      · subst n8
        clear n0 q0 n1 q1 n2 q2 n3 q3 n4 q4 n5 q5 n6 q6 n7 q7
        by_cases hz : a = 0 ∧ i = 0
        · obtain ⟨rfl, rfl⟩ := hz
          have HT : Hid (kindT 8 nm 0 0 = nameL nm) := hid (by simp [kindT])
          go_wp2_with fail
          refine (HNM.out _).mono ?_
          rintro e w5 ⟨rfl, hb5⟩
          obtain ⟨p0, p1, p2, p3⟩ := t_row4 (((HX3.out.trans (hb5.mono HX3.out.size)).block _ (block_lt HBX.out)).trans HBX.out)
          have HB5 := hid (HB3.out.trans (hb5.mono HB3.out.size))
          clear hb5
          have hq := HQ0.out (by simp)
          subst hq
          cases hn : nameL nm
          · have HNN := hid hn
            clear hn
            go_wp2_with fail
            go_ret
            exact ⟨by rw [HKS.out, HT.out, HNN.out]; rfl, HB5.out⟩
          · have HNN := hid hn
            clear hn
            go_wp2_with fail
            go_ret
            exact ⟨by rw [HKS.out, HT.out, HNN.out]; rfl, HB5.out⟩
        · have HT : Hid (kindT 8 nm a i = false) := hid (by simp [kindT]; omega)
          by_cases ha : a = 0
          · subst ha
            have g1 : ((i : Int) == 0) = false := beq_eq_false_iff_ne.mpr (by omega)
            clear hz
            go_wp2_with fail
            refine (HNM.out _).mono ?_
            rintro e w5 ⟨rfl, hb5⟩
            obtain ⟨p0, p1, p2, p3⟩ := t_row4 (((HX3.out.trans (hb5.mono HX3.out.size)).block _ (block_lt HBX.out)).trans HBX.out)
            have HB5 := hid (HB3.out.trans (hb5.mono HB3.out.size))
            clear hb5
            cases hn : nameL nm
            · go_wp2_with fail
              go_ret
              exact ⟨by rw [HKS.out, HT.out]; simp, HB5.out⟩
            · go_wp2_with fail
              go_ret
              exact ⟨by rw [HKS.out, HT.out]; simp, HB5.out⟩
          · have g1 : ((a : Int) == 0) = false := beq_eq_false_iff_ne.mpr (by omega)
            clear hz ha
            go_wp2_with fail
            refine (HNM.out _).mono ?_
            rintro e w5 ⟨rfl, hb5⟩
            obtain ⟨p0, p1, p2, p3⟩ := t_row4 (((HX3.out.trans (hb5.mono HX3.out.size)).block _ (block_lt HBX.out)).trans HBX.out)
            have HB5 := hid (HB3.out.trans (hb5.mono HB3.out.size))
            clear hb5
            cases hn : nameL nm
            · go_wp2_with fail
              go_ret
              exact ⟨by rw [HKS.out, HT.out]; simp, HB5.out⟩
            · go_wp2_with fail
              go_ret
              exact ⟨by rw [HKS.out, HT.out]; simp, HB5.out⟩
      have q8 : (k == 8) = false := beq_eq_false_iff_ne.mpr n8
      have HT : Hid (kindT k nm a i = false) := hid (by
        unfold kindT
        rw [if_neg n8]
        by_cases h : nm ≠ [] ∨ k < 0 ∨ 7 < k
        · rw [if_pos h]
        · omega)
      clear n0 n1 n2 n3 n4 n5 n6 n7 n8
      go_wp2_with fail
      go_ret
      exact ⟨by rw [HKS.out, HT.out]; simp, HB3.out⟩
theorem rwritten_all : ∀ m : Nat, m ≤ 41 → RWrC m
  | 0, _ => rwritten_zero
  | m + 1, h => rwritten_succ m (by omega) (rwritten_all m (by omega))
end Go.Proofs.YtbpedjkebemhnaaGreatDoor
