/- VB, WH, QG, VX -/
import Derived.Test.YtbpedjkebemhnaaGreatDoorSA06
import Derived.Test.YtbpedjkebemhnaaGreatDoorSA22
import Derived.Test.YtbpedjkebemhnaaGreatDoorSA09
import Derived.Test.YtbpedjkebemhnaaGreatDoorSA03
import Derived.Test.YtbpedjkebemhnaaGreatDoorSA05
import Derived.Test.YtbpedjkebemhnaaGreatDoorSA01
import Derived.Test.YtbpedjkebemhnaaGreatDoorSA04
import Derived.Test.YtbpedjkebemhnaaGreatDoorSA20
import Derived.Test.YtbpedjkebemhnaaGreatDoorSA11
set_option linter.unusedSimpArgs false
set_option linter.unusedVariables false
section
/- Types with commas between, a type behind a colon, fields, a type as text: the reference. -/
set_option linter.unusedVariables false
namespace Go.Proofs.YtbpedjkebemhnaaGreatDoor
open Go.RowKit

set_option maxRecDepth 100000 in
set_option maxHeartbeats 4000000 in
theorem rtypes_any (w : World) (ts : List TyD) (A2 : Option Addr) (c2 : Nat) (xk : List Value) (s2 : Sl w w.heap.size 4 (.slice A2 ts.length c2) xk) (r2 : TysR w w.heap.size xk ts) (hw : ts.all (writtenB 16) = true) (hc : cntTs ts ≤ 100000) :
    Calls Tryz.prog 80 #[.slice A2 ts.length c2] w fun e w' => e = .returned (sv (joinS [44, 32] (ts.map showT))) ∧ Below w.heap.size w w' := by
  obtain ⟨h1, h2, h3⟩ := show_types hw hc
  obtain ⟨L, hL⟩ : ∃ L, ts.map showT = L := ⟨_, rfl⟩
  have hb : (joinS [44, 32] L).length ≤ 80000000 := by
    have a1 := shows_len ts 16 hw
    have a2 := joinS_len [44, 32] (ts.map showT)
    rw [showTs_map] at a1
    rw [List.length_map] at a2
    simp only [List.length_cons, List.length_nil] at a2
    rw [← hL]
    omega
  rw [hL] at h1 ⊢
  have hll : L.length = ts.length := by rw [← hL, List.length_map]
  have HGET : Hid (∀ (i : Nat) (h1 : i < ts.length) (h2 : i < L.length), L[i] = showT ts[i]) := hid (by
    intro i h1 h2
    subst hL
    rw [List.getElem_map])
  have HJ : Hid (∀ i, (joinS [44, 32] (L.take i)).length ≤ 80000000) := hid (fun i => by have := joinS_le [44, 32] L i; omega)
  have l2 := (t_sl_len s2).2
  have HS := hid (And.intro s2 r2)
  have H3 := hid h3
  obtain ⟨d, hD⟩ : ∃ d, ts.length = d := ⟨_, rfl⟩
  rw [hD] at l2 HS
  rw [hD]
  have HD := hid hD
  have HLL := hid hll
  clear s2 r2 hw hc h1 h2 h3 hb hL hll hD
  go_enter Tryz.func80, Tryz.ntmps80
  go_wp2_with fail
  go_loopw [3, 4] (fun v3 v4 wr => ∃ i : Nat, v4 = .int .i64 i ∧ i ≤ d ∧ v3 = sv (joinS [44, 32] (L.take i)) ∧ Below w.heap.size w wr) (fun v3 v4 _ => d - (intOf v4).toNat)
  case atStart => exact ⟨0, rfl, by omega, rfl, Below.refl _ _⟩
  case round =>
    obtain ⟨i, rfl, hi, rfl, hbr⟩ := hrel
    have HB := hid hbr
    have hjl := HJ.out i
    by_cases hlt : i < d
    · have hil : i < ts.length := by rw [HD.out]; exact hlt
      have hiL : i < L.length := by rw [HLL.out]; exact hil
      obtain ⟨b2, o2, kk, ss, A3, n3, c3, A4, n4, c4, rfl, hr1, e0, e1, e2, e3⟩ := elem_at (Sl.more (Sl.below HS.out.1 hbr) hbr.size) ((HS.out.2.keep hbr).more hbr.size) hil HD.out.symm
      have h5 := H3.out _ (List.getElem_mem hil)
      have HI := hid (rshow_all ts[i] wr _ 16 0 (by omega) hr1 h5.1 h5.2.1)
      have hi0 : innerS (brK 0) (ts[i]).kind (showT ts[i]) = showT ts[i] := rfl
      rw [hi0, ← HGET.out i hil hiL] at HI
      have hj1 := HJ.out (i + 1)
      have HNX0 : Hid (i = 0 → joinS [44, 32] (L.take (i + 1)) = joinS [44, 32] (L.take i) ++ L[i]) := hid (fun h => by
        subst h
        rw [Nat.zero_add, join_first _ hiL]
        rfl)
      have HNX1 : Hid (0 < i → joinS [44, 32] (L.take (i + 1)) = joinS [44, 32] (L.take i) ++ ([44, 32] ++ L[i])) := hid (fun h => by rw [join_next _ hiL h])
      generalize hN : joinS [44, 32] (L.take (i + 1)) = N at *
      have HN := hid hN
      clear hN
      generalize joinS [44, 32] (L.take i) = P at *
      generalize L[i] = X at *
      have hz0 := sv_size P
      have hz1 := sv_size X
      clear hr1 h5 hi0
      by_cases hi0 : i = 0
      · have HNX : Hid (N = P ++ X) := hid (HNX0.out hi0)
        rw [HNX.out] at hj1
        simp only [List.length_append, List.length_cons, List.length_nil] at hj1
        have gi : decide ((0 : Int) < (i : Int)) = false := by simp; omega
        have gi2 : ¬ (0 : Int) < (i : Int) := by omega
        have q0 : ¬ (9223372036854775807 < P.length + X.length) := by omega
        clear hi0 HNX0 HNX1 hj1 hjl hbr
        go_wp2_with fail
        refine HI.out.mono ?_
        rintro e w2 ⟨rfl, hb⟩
        have HB2 := hid (HB.out.trans (hb.mono HB.out.size))
        clear hb e0 e1 e2 e3
        go_wp2_with fail
        go_roundw
        case rel =>
          refine ⟨i + 1, rfl, by omega, ?_, HB2.out⟩
          rw [HN.out, HNX.out]
          have e : (⟨P.toArray⟩ : ByteArray) ++ ⟨X.toArray⟩ = ⟨(P ++ X).toArray⟩ := by rw [str_append]
          exact congrArg Value.string e
        case measure => simp [intOf]; omega
      · have HNX : Hid (N = P ++ ([44, 32] : Bt) ++ X) := hid (by rw [HNX1.out (by omega), List.append_assoc])
        rw [HNX.out] at hj1
        simp only [List.length_append, List.length_cons, List.length_nil] at hj1
        have gi : decide ((0 : Int) < (i : Int)) = true := by simp; omega
        have gi2 : (0 : Int) < (i : Int) := by omega
        have q0 : ¬ (9223372036854775807 < P.length + 2) := by omega
        have q1 : ¬ (9223372036854775807 < P.length + 2 + X.length) := by omega
        clear hi0 HNX0 HNX1 hj1 hjl hbr
        go_wp2_with fail
        refine HI.out.mono ?_
        rintro e w2 ⟨rfl, hb⟩
        have HB2 := hid (HB.out.trans (hb.mono HB.out.size))
        clear hb e0 e1 e2 e3
        go_wp2_with fail
        go_roundw
        case rel =>
          refine ⟨i + 1, rfl, by omega, ?_, HB2.out⟩
          rw [HN.out, HNX.out]
          have e : (⟨P.toArray⟩ : ByteArray) ++ ⟨([44, 32] : Bt).toArray⟩ ++ ⟨X.toArray⟩ = ⟨(P ++ ([44, 32] : Bt) ++ X).toArray⟩ := by rw [str_append, str_append]
          exact congrArg Value.string e
        case measure => simp [intOf]; omega
    · obtain rfl : i = d := by omega
      rw [List.take_of_length_le (by rw [HLL.out, HD.out]; omega)] at hjl ⊢
      generalize hP : joinS [44, 32] L = P at *
      have HP := hid hP
      clear hP hbr hlt hjl
      go_wp2_with fail
      go_ret
      exact ⟨by rw [HP.out]; rfl, HB.out⟩
set_option maxRecDepth 100000 in
set_option maxHeartbeats 2000000 in
theorem rnote_any (w : World) (ts : List TyD) (A2 : Option Addr) (c2 : Nat) (xk : List Value) (s2 : Sl w w.heap.size 4 (.slice A2 ts.length c2) xk) (r2 : TysR w w.heap.size xk ts) (hw : ts.all (writtenB 16) = true) (hc : cntTs ts ≤ 100000) (i : Nat) :
    Calls Tryz.prog 54 #[.slice A2 ts.length c2, .int .i64 (i : Int)] w fun e w' => e = .returned (sv (noteS ts i)) ∧ Below w.heap.size w w' := by
  have hl2 := (t_sl_len s2).2
  by_cases hi : i < ts.length
  · obtain ⟨h1, h2, h3⟩ := show_types hw hc
    have h5 := h3 _ (List.getElem_mem hi)
    obtain ⟨b2, o2, kk, ss, A3, n3, c3, A4, n4, c4, rfl, hr1, e0, e1, e2, e3⟩ := elem_at s2 r2 hi rfl
    have HS := rshow_all ts[i] w _ 16 0 (by omega) hr1 h5.1 h5.2.1
    have hi0 : innerS (brK 0) (ts[i]).kind (showT ts[i]) = showT ts[i] := rfl
    rw [hi0] at HS
    have HS := hid HS
    have HT : Hid (noteS ts i = [58, 32] ++ showT ts[i]) := hid (by unfold noteS; rw [List.getElem?_eq_getElem hi])
    have h6 := h5.2.2
    rw [HT.out]
    clear HT h5 h3 h2 h1 s2 r2 hw hc hr1 hi0
    generalize showT ts[i] = s at *
    generalize ts.length = b at *
    have hsz := sv_size s
    have q1 : ¬ (9223372036854775807 < 2 + s.length) := by omega
    have hni : ¬ (b : Int) ≤ i := by omega
    go_enter Tryz.func54, Tryz.ntmps54
    go_wp2_with fail
    refine HS.out.mono ?_
    rintro e w2 ⟨rfl, hb⟩
    go_wp2_with fail
    go_ret
    refine ⟨?_, hb⟩
    have e : (⟨#[58, 32]⟩ : ByteArray) ++ ⟨s.toArray⟩ = ⟨([58, 32] ++ s).toArray⟩ := by
      rw [show (⟨#[58, 32]⟩ : ByteArray) = ⟨([58, 32] : Bt).toArray⟩ from rfl, str_append]
    exact congrArg (fun b => Ending.returned (Value.string b)) e
  · have HT : Hid (noteS ts i = []) := hid (by unfold noteS; rw [List.getElem?_eq_none (by omega)])
    rw [HT.out]
    have hni : (ts.length : Int) ≤ i := by omega
    clear s2 r2 hw hc hi
    generalize ts.length = b at *
    go_enter Tryz.func54, Tryz.ntmps54
    go_wp2_with fail
    go_ret
    exact ⟨rfl, Below.refl _ _⟩
set_option maxRecDepth 100000 in
set_option maxHeartbeats 8000000 in
theorem rfields_any (w : World) (A1 : Option Addr) (a c1 : Nat) (A2 : Option Addr) (d c2 : Nat) (ns S : List Bt) (s1 : Ss w w.heap.size (.slice A1 a c1) ns) (s2 : Ss w w.heap.size (.slice A2 d c2) S) (ha : ns.length = a) (hd : S.length = d) (had : a = d) (hlen : (joinS [44, 32] (List.zipWith fieldS ns S)).length ≤ 1000000000) :
    Calls Tryz.prog 79 #[.slice A1 a c1, .slice A2 d c2] w fun e w' => e = .returned (sv (joinS [44, 32] (List.zipWith fieldS ns S))) ∧ Below w.heap.size w w' := by
  obtain ⟨L, hL⟩ : ∃ L, List.zipWith fieldS ns S = L := ⟨_, rfl⟩
  have hll : L.length = a := by rw [← hL, List.length_zipWith]; omega
  have HGET : Hid (∀ (i : Nat) (h : i < ns.length) (h1 : i < S.length) (h2 : i < L.length), L[i] = fieldS ns[i] S[i]) := hid (by
    intro i h h1 h2
    subst hL
    rw [List.getElem_zipWith])
  rw [hL] at hlen ⊢
  have l1 := (t_sl_len s1).2
  have l2 := (t_sl_len s2).2
  have HS1 := hid s1
  have HS2 := hid s2
  have HJ : Hid (∀ i, (joinS [44, 32] (L.take i)).length ≤ 1000000000) := hid (fun i => by have := joinS_le [44, 32] L i; omega)
  have HA := hid ha
  have HD := hid hd
  have HAB := hid had
  have HLL := hid hll
  clear s1 s2 hL ha hd had hlen hll
  go_enter Tryz.func79, Tryz.ntmps79
  go_wp2_with fail
  go_loopw [5, 6] (fun v5 v6 wr => ∃ i : Nat, v6 = .int .i64 i ∧ i ≤ a ∧ v5 = sv (joinS [44, 32] (L.take i)) ∧ Below w.heap.size w wr) (fun v5 v6 _ => a - (intOf v6).toNat)
  case atStart => exact ⟨0, rfl, by omega, rfl, Below.refl _ _⟩
  case round =>
    obtain ⟨i, rfl, hi, rfl, hbr⟩ := hrel
    have HB := hid hbr
    have hjl := HJ.out i
    by_cases hlt : i < a
    · have hin : i < ns.length := by rw [HA.out]; exact hlt
      have hil : i < S.length := by rw [HD.out, ← HAB.out]; exact hlt
      have hiL : i < L.length := by rw [HLL.out]; exact hlt
      obtain ⟨b1, o1, rfl, d0⟩ := text_at (Sl.more (Sl.below HS1.out hbr) hbr.size) hin
      obtain ⟨b2, o2, rfl, e0⟩ := text_at (Sl.more (Sl.below HS2.out hbr) hbr.size) hil
      have hg := HGET.out i hin hil hiL
      have hj1 := HJ.out (i + 1)
      have HNX0 : Hid (i = 0 → joinS [44, 32] (L.take (i + 1)) = joinS [44, 32] (L.take i) ++ fieldS ns[i] S[i]) := hid (fun h => by
        subst h
        rw [Nat.zero_add, join_first _ hiL, hg]
        rfl)
      have HNX1 : Hid (0 < i → joinS [44, 32] (L.take (i + 1)) = joinS [44, 32] (L.take i) ++ ([44, 32] ++ fieldS ns[i] S[i])) := hid (fun h => by rw [join_next _ hiL h, hg])
      have hid_ : i < d := by rw [← HAB.out]; exact hlt
      generalize hN : joinS [44, 32] (L.take (i + 1)) = N at *
      have HN := hid hN
      clear hN
      generalize joinS [44, 32] (L.take i) = P at *
      generalize ns[i] = X at *
      generalize S[i] = s at *
      have hz0 := sv_size P
      have hz1 := sv_size X
      have hz2 := sv_size s
      have D0 := hid d0
      have E0 := hid e0
      have HB0 : Hid (Below wr.heap.size wr wr.drew) := hid (below_drawn wr 1)
      clear hg
      by_cases hi0 : i = 0
      · have HNX : Hid (N = P ++ X ++ ([58, 32] : Bt) ++ s) := hid (by rw [HNX0.out hi0]; simp [fieldS])
        rw [HNX.out] at hj1
        simp only [List.length_append, List.length_cons, List.length_nil] at hj1
        have gi : decide ((0 : Int) < (i : Int)) = false := by simp; omega
        have gi2 : ¬ (0 : Int) < (i : Int) := by omega
        have q0 : ¬ (9223372036854775807 < P.length + X.length) := by omega
        have q1 : ¬ (9223372036854775807 < P.length + X.length + 2) := by omega
        have q2 : ¬ (9223372036854775807 < P.length + X.length + 2 + s.length) := by omega
        clear hi0 HNX0 HNX1 hj1 hjl hbr d0 e0
        go_wp2_with fail
        refine wp_region_held_drew (S := fun w' => Below wr.heap.size wr w') (by kernel_rfl) HB0.out (fun _ => ?_)
        try simp only [Act.put, List.getElem_toArray, List.getElem_cons_zero, List.getElem_cons_succ, List.setIfInBounds_toArray, List.set_cons_zero, List.set_cons_succ]
        refine tk 0 (sv P) HB0.out ?_
        refine tk 1 (.slice (some ⟨b1, o1, none⟩) a c1) HB0.out ?_
        refine tk 2 (.int .i64 (i : Int)) HB0.out ?_
        refine tk 3 (.pointer (some ⟨b1, o1 + i, none⟩)) HB0.out ?_
        refine tkf 4 (sv X) (kp1 D0.out) HB0.out ?_
        refine tk 5 (.string ((⟨P.toArray⟩ : ByteArray) ++ ⟨X.toArray⟩)) HB0.out ?_
        refine tk 6 (.string ((⟨P.toArray⟩ : ByteArray) ++ ⟨X.toArray⟩ ++ ⟨#[58, 32]⟩)) HB0.out ?_
        refine tk 7 (.slice (some ⟨b2, o2, none⟩) d c2) HB0.out ?_
        refine tk 8 (.int .i64 (i : Int)) HB0.out ?_
        refine tk 9 (.pointer (some ⟨b2, o2 + i, none⟩)) HB0.out ?_
        refine tkf 10 (sv s) (kp1 E0.out) HB0.out ?_
        refine tk 11 (.string ((⟨P.toArray⟩ : ByteArray) ++ ⟨X.toArray⟩ ++ ⟨#[58, 32]⟩ ++ ⟨s.toArray⟩)) HB0.out ?_
        refine tk 12 (.string ((⟨P.toArray⟩ : ByteArray) ++ ⟨X.toArray⟩ ++ ⟨#[58, 32]⟩ ++ ⟨s.toArray⟩)) HB0.out ?_
        refine wpAnyH_done (by kernel_rfl) ?_ _
        go_wp2_with fail
        go_roundw
        case rel =>
          refine ⟨i + 1, rfl, by omega, ?_, HB.out.trans (HB0.out.mono HB.out.size)⟩
          rw [HN.out, HNX.out]
          have e : (⟨P.toArray⟩ : ByteArray) ++ ⟨X.toArray⟩ ++ ⟨([58, 32] : Bt).toArray⟩ ++ ⟨s.toArray⟩ = ⟨(P ++ X ++ ([58, 32] : Bt) ++ s).toArray⟩ := by
            rw [str_append, str_append, str_append]
          exact congrArg Value.string e
        case measure => simp [intOf]; omega
      · have HNX : Hid (N = P ++ ([44, 32] : Bt) ++ X ++ ([58, 32] : Bt) ++ s) := hid (by rw [HNX1.out (by omega)]; simp [fieldS])
        rw [HNX.out] at hj1
        simp only [List.length_append, List.length_cons, List.length_nil] at hj1
        have gi : decide ((0 : Int) < (i : Int)) = true := by simp; omega
        have gi2 : (0 : Int) < (i : Int) := by omega
        have q0 : ¬ (9223372036854775807 < P.length + 2) := by omega
        have q1 : ¬ (9223372036854775807 < P.length + 2 + X.length) := by omega
        have q2 : ¬ (9223372036854775807 < P.length + 2 + X.length + 2) := by omega
        have q3 : ¬ (9223372036854775807 < P.length + 2 + X.length + 2 + s.length) := by omega
        clear hi0 HNX0 HNX1 hj1 hjl hbr d0 e0
        go_wp2_with fail
        refine wp_region_held_drew (S := fun w' => Below wr.heap.size wr w') (by kernel_rfl) HB0.out (fun _ => ?_)
        try simp only [Act.put, List.getElem_toArray, List.getElem_cons_zero, List.getElem_cons_succ, List.setIfInBounds_toArray, List.set_cons_zero, List.set_cons_succ]
        refine tk 0 (.string ((⟨P.toArray⟩ : ByteArray) ++ ⟨#[44, 32]⟩)) HB0.out ?_
        refine tk 1 (.slice (some ⟨b1, o1, none⟩) a c1) HB0.out ?_
        refine tk 2 (.int .i64 (i : Int)) HB0.out ?_
        refine tk 3 (.pointer (some ⟨b1, o1 + i, none⟩)) HB0.out ?_
        refine tkf 4 (sv X) (kp1 D0.out) HB0.out ?_
        refine tk 5 (.string ((⟨P.toArray⟩ : ByteArray) ++ ⟨#[44, 32]⟩ ++ ⟨X.toArray⟩)) HB0.out ?_
        refine tk 6 (.string ((⟨P.toArray⟩ : ByteArray) ++ ⟨#[44, 32]⟩ ++ ⟨X.toArray⟩ ++ ⟨#[58, 32]⟩)) HB0.out ?_
        refine tk 7 (.slice (some ⟨b2, o2, none⟩) d c2) HB0.out ?_
        refine tk 8 (.int .i64 (i : Int)) HB0.out ?_
        refine tk 9 (.pointer (some ⟨b2, o2 + i, none⟩)) HB0.out ?_
        refine tkf 10 (sv s) (kp1 E0.out) HB0.out ?_
        refine tk 11 (.string ((⟨P.toArray⟩ : ByteArray) ++ ⟨#[44, 32]⟩ ++ ⟨X.toArray⟩ ++ ⟨#[58, 32]⟩ ++ ⟨s.toArray⟩)) HB0.out ?_
        refine tk 12 (.string ((⟨P.toArray⟩ : ByteArray) ++ ⟨#[44, 32]⟩ ++ ⟨X.toArray⟩ ++ ⟨#[58, 32]⟩ ++ ⟨s.toArray⟩)) HB0.out ?_
        refine wpAnyH_done (by kernel_rfl) ?_ _
        go_wp2_with fail
        go_roundw
        case rel =>
          refine ⟨i + 1, rfl, by omega, ?_, HB.out.trans (HB0.out.mono HB.out.size)⟩
          rw [HN.out, HNX.out]
          have e : (⟨P.toArray⟩ : ByteArray) ++ ⟨([44, 32] : Bt).toArray⟩ ++ ⟨X.toArray⟩ ++ ⟨([58, 32] : Bt).toArray⟩ ++ ⟨s.toArray⟩ = ⟨(P ++ ([44, 32] : Bt) ++ X ++ ([58, 32] : Bt) ++ s).toArray⟩ := by
            rw [str_append, str_append, str_append, str_append]
          exact congrArg Value.string e
        case measure => simp [intOf]; omega
    · obtain rfl : i = a := by omega
      rw [List.take_of_length_le (by rw [HLL.out]; omega)] at hjl ⊢
      generalize hP : joinS [44, 32] L = P at *
      have HP := hid hP
      clear hP hbr hlt hjl
      go_wp2_with fail
      go_ret
      exact ⟨by rw [HP.out]; rfl, HB.out⟩
end Go.Proofs.YtbpedjkebemhnaaGreatDoor
end
section
/- The contract of the reference's Show. -/
set_option linter.unusedVariables false
namespace Go.Proofs.YtbpedjkebemhnaaGreatDoor
open Go.RowKit

theorem ndig_le {n : Nat} (h : n < 10000000000000000000) : Lib.nDigits n ≤ 20 := by
  have h1 := dec_is n
  have hl := Lib.decDigits_length n
  by_cases h2 : 2 ≤ (Lib.decDigits n).length
  · have h3 := canon_pos h1.1 h2
    rw [h1.2.1, hl] at h3
    rcases Nat.lt_or_ge 20 (Lib.nDigits n) with h4 | h4
    · have h5 : 10 ^ 20 ≤ 10 ^ (Lib.nDigits n - 1) := Nat.pow_le_pow_right (by decide) (by omega)
      have e : (10 : Nat) ^ 20 = 100000000000000000000 := by decide
      omega
    · exact h4
  · omega
def decRest (m : Nat) : List UInt8 := if m = 0 then [] else Lib.decDigits m
theorem decRest_zero : decRest 0 = [] := if_pos (Eq.refl 0)
theorem decRest_pos {m : Nat} (h : 0 < m) : decRest m = Lib.decDigits m := if_neg (by omega)
theorem dec_step (m : Nat) (h : 0 < m) : Lib.decDigits m = decRest (m / 10) ++ [UInt8.ofNat (48 + m % 10)] := by
  by_cases h10 : m < 10
  · rw [show m / 10 = 0 from by omega, decRest_zero, Lib.decDigits_one h10, Nat.mod_eq_of_lt h10]; rfl
  · rw [decRest_pos (by omega)]
    conv => lhs; rw [Lib.decDigits, dif_neg h10]
def ShowRel (n : Nat) (sg : Int) (w : World) (v0 v4 : Value) (wr : World) : Prop :=
  ∃ (m : Nat) (acc : List UInt8), v0 = .int .i64 (sg * m) ∧ m ≤ 9223372036854775808 ∧ v4 = sv acc ∧ Lib.decDigits n = decRest m ++ acc ∧ Below w.heap.size w wr

set_option maxRecDepth 100000 in
set_option maxHeartbeats 1000000 in
theorem refshow_pos (n : Nat) (w : World) (hn : In64 n) (h0 : 0 < n) :
    Calls Tryz.prog 77 #[.int .i64 n] w fun e w' => e = .returned (sv (Lib.decDigits n)) ∧ Below w.heap.size w w' := by
  have hb0 : ((n : Int) == 0) = false := by rw [beq_eq_false_iff_ne]; omega
  have hbn : ((n : Int) != 0) = true := by rw [bne_iff_ne]; omega
  have hn1 : (n : Int) ≤ 9223372036854775807 := hn.2
  clear hn
  go_enter Tryz.func77, Tryz.ntmps77
  go_wp2_with fail
  go_loopw [0, 4] (fun v0 v4 wr => ShowRel n 1 w v0 v4 wr) (fun v0 _ _ => (intOf v0).toNat)
  case atStart => exact ⟨n, [], by rw [Int.one_mul], by omega, rfl, by rw [decRest_pos h0, List.append_nil], Below.refl _ _⟩
  case round =>
    obtain ⟨m, acc, rfl, hm, rfl, hd, hb⟩ := hrel
    rw [Int.one_mul]
    have HD := hid hd
    clear hd
    by_cases hm0 : m = 0
    · have hbm : ((m : Int) != 0) = false := by rw [bne_eq_false_iff_eq]; omega
      have HM := hid hm0
      clear hm0
      go_wp2_with fail
      go_ret
      exact ⟨by have := HD.out; rw [HM.out, decRest_zero, List.nil_append] at this; rw [this]; rfl, hb⟩
    · have hbm : ((m : Int) != 0) = true := by rw [bne_iff_ne]; omega
      have hconv := run_string_of (P := Tryz.prog) (bs_new wr (48 + (m : Int) % 10) 5 (by omega)) 74 5 9 Tryz.underlying74 Tryz.underlying5 Tryz.underlying9
      have hdd : ∃ c : UInt8, c = UInt8.ofNat (48 + m % 10) := ⟨_, rfl⟩
      obtain ⟨c, hc⟩ := hdd
      have e48 : UInt8.ofNat (48 + (m : Int) % 10).toNat = c := by rw [hc]; congr 1
      rw [e48] at hconv
      have HC := hid hc
      have hal : acc.length ≤ 30 := by
        have h1 := congrArg List.length HD.out
        rw [List.length_append, Lib.decDigits_length] at h1
        have h2 : Lib.nDigits n ≤ 20 := ndig_le (by omega)
        omega
      clear hc e48
      go_wp2_with fail
      go_roundw
      case rel =>
        have hd := HD.out
        refine ⟨m / 10, c :: acc, by rw [Int.one_mul]; rfl, by omega, ?_, ?_, ?_⟩
        · exact sv_append [c] acc
        · rw [hd, decRest_pos (by omega), dec_step m (by omega), List.append_assoc, ← HC.out, List.singleton_append]
        · exact hb.alloc hb.size _
      case measure => simp [intOf]; omega

set_option maxRecDepth 100000 in
set_option maxHeartbeats 1000000 in
theorem refshow_neg (n : Nat) (w : World) (hn : In64 (-(n : Int))) (h0 : 0 < n) :
    Calls Tryz.prog 77 #[.int .i64 (-(n : Int))] w fun e w' => e = .returned (sv (45 :: Lib.decDigits n)) ∧ Below w.heap.size w w' := by
  obtain ⟨q, hq⟩ : ∃ q : Int, q = -(n : Int) := ⟨_, rfl⟩
  rw [← hq] at hn ⊢
  have hb0 : (q == 0) = false := by rw [beq_eq_false_iff_ne]; omega
  have hq0 : q < 0 := by omega
  have hn1 : n ≤ 9223372036854775808 := by have := hn.1; omega
  have HQ := hid hq
  clear hn hq
  go_enter Tryz.func77, Tryz.ntmps77
  go_wp2_with fail
  go_loopw [0, 4, 5] (fun v0 v4 _ wr => ShowRel n (-1) w v0 v4 wr) (fun v0 _ _ _ => (-intOf v0).toNat)
  case atStart => exact ⟨n, [], by rw [HQ.out]; congr 1; omega, by omega, rfl, by rw [decRest_pos h0, List.append_nil], Below.refl _ _⟩
  case round =>
    obtain ⟨m, acc, hv, hm, rfl, hd, hb⟩ := hrel
    obtain ⟨q2, hq2⟩ : ∃ q2 : Int, q2 = -1 * (m : Int) := ⟨_, rfl⟩
    rw [← hq2] at hv
    subst hv
    have HD := hid hd
    have hal : acc.length ≤ 30 := by
      have h1 := congrArg List.length HD.out
      rw [List.length_append, Lib.decDigits_length] at h1
      have h2 : Lib.nDigits n ≤ 20 := ndig_le (by omega)
      omega
    clear hd
    by_cases hm0 : m = 0
    · have hbm : (q2 != 0) = false := by rw [bne_eq_false_iff_eq]; omega
      have HM := hid hm0
      have HQ2 := hid hq2
      clear hm0 hq2
      go_wp2_with fail
      go_ret
      exact ⟨by have := HD.out; rw [HM.out, decRest_zero, List.nil_append] at this; rw [this]; exact congrArg Ending.returned (sv_append [45] acc), hb⟩
    · have hbm : (q2 != 0) = true := by rw [bne_iff_ne]; omega
      obtain ⟨d, hd⟩ : ∃ d : Nat, d = m % 10 := ⟨_, rfl⟩
      obtain ⟨q3, hq3⟩ : ∃ q3 : Int, q3 = -1 * ((m / 10 : Nat) : Int) := ⟨_, rfl⟩
      have ht : q2.tmod 10 = -(d : Int) := by
        rw [hq2, Int.neg_mul, Int.one_mul, Int.neg_tmod, hd]; rfl
      have ht2 : wrap64 (q2.tdiv 10) = q3 := by
        have e : q2.tdiv 10 = -((m / 10 : Nat) : Int) := by rw [hq2, Int.neg_mul, Int.one_mul, Int.neg_tdiv]; rfl
        rw [e, hq3]; unfold wrap64; omega
      have hconv := run_string_of (P := Tryz.prog) (bs_new wr (48 + (d : Int)) 5 (by omega)) 74 5 9 Tryz.underlying74 Tryz.underlying5 Tryz.underlying9
      obtain ⟨c, hc⟩ : ∃ c : UInt8, c = UInt8.ofNat (48 + m % 10) := ⟨_, rfl⟩
      have e48 : UInt8.ofNat (48 + (d : Int)).toNat = c := by rw [hc]; congr 1; omega
      rw [e48] at hconv
      have HC := hid hc
      have hd9 : d ≤ 9 := by omega
      have HDD := hid hd
      have HQ2 := hid hq2
      have HQ3 := hid hq3
      clear hc e48 hd hq2 hq3
      by_cases hd0 : 0 < d
      · go_wp2_with fail
        go_roundw
        case rel =>
          rw [ht2]
          refine ⟨m / 10, c :: acc, by rw [HQ3.out], by omega, sv_append [c] acc, ?_, hb.alloc hb.size _⟩
          rw [HD.out, decRest_pos (by omega), dec_step m (by omega), List.append_assoc, ← HC.out, List.singleton_append]
        case measure =>
          rw [ht2]
          have h1 := HQ2.out
          have h2 := HQ3.out
          simp only [intOf]; omega
      · have hconv2 := run_string_of (P := Tryz.prog) (bs_new wr (48 + -(d : Int)) 5 (by omega)) 74 5 9 Tryz.underlying74 Tryz.underlying5 Tryz.underlying9
        have e49 : UInt8.ofNat (48 + -(d : Int)).toNat = c := by rw [HC.out]; congr 1; have := HDD.out; omega
        rw [e49] at hconv2
        clear e49 hconv
        go_wp2_with fail
        go_roundw
        case rel =>
          rw [ht2]
          refine ⟨m / 10, c :: acc, by rw [HQ3.out], by omega, sv_append [c] acc, ?_, hb.alloc hb.size _⟩
          rw [HD.out, decRest_pos (by omega), dec_step m (by omega), List.append_assoc, ← HC.out, List.singleton_append]
        case measure =>
          rw [ht2]
          have h1 := HQ2.out
          have h2 := HQ3.out
          simp only [intOf]; omega

theorem refshow_any (n : Int) (w : World) (hn : In64 n) :
    Calls Tryz.prog 77 #[.int .i64 n] w fun e w' => e = .returned (sv (Lib.itoa n)) ∧ Below w.heap.size w w' := by
  rcases Int.lt_trichotomy n 0 with h | rfl | h
  · obtain ⟨k, rfl⟩ := Int.eq_ofNat_of_zero_le (show 0 ≤ -n by omega) |> fun ⟨k, hk⟩ => (⟨k, by omega⟩ : ∃ k : Nat, n = -(k : Int))
    have e : Lib.itoa (-(k : Int)) = 45 :: Lib.decDigits k := Lib.itoa_neg k (by omega)
    rw [e]
    exact refshow_neg k w hn (by omega)
  · have e : Lib.itoa 0 = [48] := by
      have h1 := Lib.itoa_nonneg 0
      rw [Lib.decDigits_one (by decide)] at h1
      exact h1
    rw [e]
    go_enter Tryz.func77, Tryz.ntmps77
    go_wp2_with fail
    go_ret
    exact ⟨rfl, Below.refl _ _⟩
  · obtain ⟨k, rfl⟩ := Int.eq_ofNat_of_zero_le (show 0 ≤ n by omega)
    have e : Lib.itoa (k : Int) = Lib.decDigits k := Lib.itoa_nonneg k
    rw [e]
    exact refshow_pos k w hn (by omega)
end Go.Proofs.YtbpedjkebemhnaaGreatDoor
end
section
/- LexQuotes and LexAgain walked. -/
set_option linter.unusedVariables false
namespace Go.Proofs.YtbpedjkebemhnaaGreatDoor
open Go.RowKit

set_option maxRecDepth 100000 in
set_option maxHeartbeats 1000000 in
theorem rquote_any (w : World) (s : Bt) (hs : s.length ≤ 1000000) : Calls Tryz.prog 78 #[sv s] w fun e w' => e = .returned (sv (quoteW s)) ∧ w' = w := by
  have hsz := sv_size s
  have hq : quoteW s = (34 :: s.flatMap escW) ++ [34] := rfl
  generalize hans : quoteW s = ans at *
  have HQ := hid hq
  clear hq hans
  go_enter Tryz.func78, Tryz.ntmps78
  go_wp2_with fail
  go_loop [3, 4] (fun v3 v4 => ∃ (i : Nat) (o : Bt), v4 = .int .i64 i ∧ v3 = sv o ∧ i ≤ s.length ∧ o.length ≤ 2 * i + 1 ∧ o = 34 :: (s.take i).flatMap escW) (fun _ v4 => s.length - (intOf v4).toNat)
  case atStart => exact ⟨0, [34], rfl, rfl, by omega, by simp, rfl⟩
  case round =>
    obtain ⟨i, o, rfl, rfl, hi, hol, ho⟩ := hrel
    by_cases hlt : i < s.length
    · have hix := sv_index s i hlt
      have hft := flat_take hlt
      have hex : ByteArray.extract ⟨s.toArray⟩ i (i + 1) = ⟨[s[i]].toArray⟩ := by
        have h := extract_sv s i (i + 1)
        rw [List.take_succ_eq_append_getElem hlt, List.drop_append_of_le_length (by rw [List.length_take]; omega), List.drop_of_length_le (by rw [List.length_take]; omega), List.nil_append] at h
        injection h
      have hb1 : ¬ 9223372036854775807 < o.length + 1 := by omega
      have hb2 : ¬ 9223372036854775807 < o.length + 1 + 1 := by omega
      have hb3 : ¬ 9223372036854775807 < o.length + 2 := by omega
      have hos := sv_size o
      have key : ∀ u : Bt, escW s[i] = u → u.length ≤ 2 → ∃ (j : Nat) (o' : Bt), Value.int .i64 ((i + 1 : Nat) : Int) = .int .i64 j ∧ Value.string ((⟨o.toArray⟩ : ByteArray) ++ ⟨u.toArray⟩) = sv o' ∧ j ≤ s.length ∧ o'.length ≤ 2 * j + 1 ∧ o' = 34 :: (s.take j).flatMap escW := by
        intro u hu hul
        refine ⟨i + 1, o ++ u, rfl, sv_append _ _, by omega, by rw [List.length_append]; omega, ?_⟩
        rw [hft, hu, ho]; simp
      have KEY := hid key
      clear hft key
      generalize hX : s[i] = X at *
      clear hX
      have HO := hid ho
      clear ho
      have tw : ∀ x y : UInt8, (⟨o.toArray⟩ : ByteArray) ++ ⟨[x, y].toArray⟩ = ⟨o.toArray⟩ ++ ⟨[x].toArray⟩ ++ ⟨[y].toArray⟩ := fun x y => by rw [str_append, str_append, str_append]; simp
      have TW := hid tw
      clear tw
      by_cases h92 : X.toNat = 92
      · have K := KEY.out [92, 92] (by unfold escW; rw [if_pos h92]) (by simp)
        rw [TW.out] at K
        have hx2 : X = 92 := UInt8.toNat_inj.1 h92
        have HK := hid K
        clear K KEY TW
        go_wp2_with fail
        go_round
        case rel => exact HK.out
        case measure => simp [intOf]; omega
      · by_cases h34 : X.toNat = 34
        · have K := KEY.out [92, 34] (by unfold escW; rw [if_neg h92, if_pos h34]) (by simp)
          rw [TW.out] at K
          have hx2 : X = 34 := UInt8.toNat_inj.1 h34
          have HK := hid K
          clear K KEY TW
          go_wp2_with fail
          go_round
          case rel => exact HK.out
          case measure => simp [intOf]; omega
        · by_cases h10 : X.toNat = 10
          · have K := KEY.out [92, 110] (by unfold escW; rw [if_neg h92, if_neg h34, if_pos h10]) (by simp)
            have HK := hid K
            clear K KEY TW hex
            go_wp2_with fail
            go_round
            case rel => exact HK.out
            case measure => simp [intOf]; omega
          · by_cases h9 : X.toNat = 9
            · have K := KEY.out [92, 116] (by unfold escW; rw [if_neg h92, if_neg h34, if_neg h10, if_pos h9]) (by simp)
              have HK := hid K
              clear K KEY TW hex
              go_wp2_with fail
              go_round
              case rel => exact HK.out
              case measure => simp [intOf]; omega
            · have K := KEY.out [X] (by unfold escW; rw [if_neg h92, if_neg h34, if_neg h10, if_neg h9]) (by simp)
              have HK := hid K
              clear K KEY TW
              go_wp2_with fail
              go_round
              case rel => exact HK.out
              case measure => simp [intOf]; omega
    · obtain rfl : i = s.length := by omega
      rw [List.take_length] at ho
      have hres : Value.string ((⟨o.toArray⟩ : ByteArray) ++ ⟨[34].toArray⟩) = sv ans := by rw [sv_append, HQ.out, ho]
      have hos := sv_size o
      have hb1 : ¬ 9223372036854775807 < o.length + 1 := by omega
      have HRES := hid hres
      clear ho hres
      go_wp2_with fail
      go_ret
      exact ⟨by first | (rw [← HRES.out]; rfl) | exact congrArg Ending.returned HRES.out, rfl⟩
end Go.Proofs.YtbpedjkebemhnaaGreatDoor
end
section
/- An expression as text, the reference: the contract. -/
set_option linter.unusedVariables false
namespace Go.Proofs.YtbpedjkebemhnaaGreatDoor
open Go.RowKit

/-- The contract of the reference's expr, of an expression of not too many. -/
def RExC (x : NoD) : Prop := ∀ (w : World) (z : List Value) (m : Nat), NoR w w.heap.size z x → okN x → nodeB m x = true → cntN x ≤ 100000 →
  Calls Tryz.prog 35 #[.agg z.toArray] w fun e w' => e = .returned (sv (exprS x)) ∧ Below w.heap.size w w'
end Go.Proofs.YtbpedjkebemhnaaGreatDoor
end
