/- Types with commas between, a type behind a colon, fields, a type as text: the reference. -/
import Derived.Test.YtbpedjkebemhnaaGreatDoorMQ
import Derived.Test.YtbpedjkebemhnaaGreatDoorVA
import Derived.Test.YtbpedjkebemhnaaGreatDoorTM
set_option linter.unusedVariables false
namespace Go.Proofs.YtbpedjkebemhnaaGreatDoor
open Go.RowKit

set_option maxRecDepth 100000 in
set_option maxHeartbeats 4000000 in
theorem rtypes_any (w : World) (ts : List TyD) (A2 : Option Addr) (c2 : Nat) (xk : List Value) (s2 : Sl w w.heap.size 4 (.slice A2 ts.length c2) xk) (r2 : TysR w w.heap.size xk ts) (hw : ts.all (writtenB 16) = true) (hc : cntTs ts ≤ 100000) :
    Calls Tryz.prog 80 #[.slice A2 ts.length c2] w fun e w' => e = .returned (sv (joinS [44, 32] (ts.map showT))) ∧ Below w.heap.size w w' := by
  obtain ⟨h1, h2, h3⟩ := show_types hw hc
  obtain ⟨L, hL⟩ : ∃ L, ts.map showT = L := ⟨_, rfl⟩
  have hb : (joinS [44, 32] L).length ≤ 80000000 := by
    have a1 := shows_len ts 16 hw
    have a2 := joinS_len [44, 32] (ts.map showT)
    rw [showTs_map] at a1
    rw [List.length_map] at a2
    simp only [List.length_cons, List.length_nil] at a2
    rw [← hL]
    omega
  rw [hL] at h1 ⊢
  have hll : L.length = ts.length := by rw [← hL, List.length_map]
  have HGET : Hid (∀ (i : Nat) (h1 : i < ts.length) (h2 : i < L.length), L[i] = showT ts[i]) := hid (by
    intro i h1 h2
    subst hL
    rw [List.getElem_map])
  have HJ : Hid (∀ i, (joinS [44, 32] (L.take i)).length ≤ 80000000) := hid (fun i => by have := joinS_le [44, 32] L i; omega)
  have l2 := (t_sl_len s2).2
  have HS := hid (And.intro s2 r2)
  have H3 := hid h3
  obtain ⟨d, hD⟩ : ∃ d, ts.length = d := ⟨_, rfl⟩
  rw [hD] at l2 HS
  rw [hD]
  have HD := hid hD
  have HLL := hid hll
  clear s2 r2 hw hc h1 h2 h3 hb hL hll hD
  go_enter Tryz.func80, Tryz.ntmps80
  go_wp2_with fail
  go_loopw [3, 4] (fun v3 v4 wr => ∃ i : Nat, v4 = .int .i64 i ∧ i ≤ d ∧ v3 = sv (joinS [44, 32] (L.take i)) ∧ Below w.heap.size w wr) (fun v3 v4 _ => d - (intOf v4).toNat)
  case atStart => exact ⟨0, rfl, by omega, rfl, Below.refl _ _⟩
  case round =>
    obtain ⟨i, rfl, hi, rfl, hbr⟩ := hrel
    have HB := hid hbr
    have hjl := HJ.out i
    by_cases hlt : i < d
    · have hil : i < ts.length := by rw [HD.out]; exact hlt
      have hiL : i < L.length := by rw [HLL.out]; exact hil
      obtain ⟨b2, o2, kk, ss, A3, n3, c3, A4, n4, c4, rfl, hr1, e0, e1, e2, e3⟩ := elem_at (Sl.more (Sl.below HS.out.1 hbr) hbr.size) ((HS.out.2.keep hbr).more hbr.size) hil HD.out.symm
      have h5 := H3.out _ (List.getElem_mem hil)
      have HI := hid (rshow_all ts[i] wr _ 16 0 (by omega) hr1 h5.1 h5.2.1)
      have hi0 : innerS (brK 0) (ts[i]).kind (showT ts[i]) = showT ts[i] := rfl
      rw [hi0, ← HGET.out i hil hiL] at HI
      have hj1 := HJ.out (i + 1)
      have HNX0 : Hid (i = 0 → joinS [44, 32] (L.take (i + 1)) = joinS [44, 32] (L.take i) ++ L[i]) := hid (fun h => by
        subst h
        rw [Nat.zero_add, join_first _ hiL]
        rfl)
      have HNX1 : Hid (0 < i → joinS [44, 32] (L.take (i + 1)) = joinS [44, 32] (L.take i) ++ ([44, 32] ++ L[i])) := hid (fun h => by rw [join_next _ hiL h])
      generalize hN : joinS [44, 32] (L.take (i + 1)) = N at *
      have HN := hid hN
      clear hN
      generalize joinS [44, 32] (L.take i) = P at *
      generalize L[i] = X at *
      have hz0 := sv_size P
      have hz1 := sv_size X
      clear hr1 h5 hi0
      by_cases hi0 : i = 0
      · have HNX : Hid (N = P ++ X) := hid (HNX0.out hi0)
        rw [HNX.out] at hj1
        simp only [List.length_append, List.length_cons, List.length_nil] at hj1
        have gi : decide ((0 : Int) < (i : Int)) = false := by simp; omega
        have gi2 : ¬ (0 : Int) < (i : Int) := by omega
        have q0 : ¬ (9223372036854775807 < P.length + X.length) := by omega
        clear hi0 HNX0 HNX1 hj1 hjl hbr
        go_wp2_with fail
        refine HI.out.mono ?_
        rintro e w2 ⟨rfl, hb⟩
        have HB2 := hid (HB.out.trans (hb.mono HB.out.size))
        clear hb e0 e1 e2 e3
        go_wp2_with fail
        go_roundw
        case rel =>
          refine ⟨i + 1, rfl, by omega, ?_, HB2.out⟩
          rw [HN.out, HNX.out]
          have e : (⟨P.toArray⟩ : ByteArray) ++ ⟨X.toArray⟩ = ⟨(P ++ X).toArray⟩ := by rw [str_append]
          exact congrArg Value.string e
        case measure => simp [intOf]; omega
      · have HNX : Hid (N = P ++ ([44, 32] : Bt) ++ X) := hid (by rw [HNX1.out (by omega), List.append_assoc])
        rw [HNX.out] at hj1
        simp only [List.length_append, List.length_cons, List.length_nil] at hj1
        have gi : decide ((0 : Int) < (i : Int)) = true := by simp; omega
        have gi2 : (0 : Int) < (i : Int) := by omega
        have q0 : ¬ (9223372036854775807 < P.length + 2) := by omega
        have q1 : ¬ (9223372036854775807 < P.length + 2 + X.length) := by omega
        clear hi0 HNX0 HNX1 hj1 hjl hbr
        go_wp2_with fail
        refine HI.out.mono ?_
        rintro e w2 ⟨rfl, hb⟩
        have HB2 := hid (HB.out.trans (hb.mono HB.out.size))
        clear hb e0 e1 e2 e3
        go_wp2_with fail
        go_roundw
        case rel =>
          refine ⟨i + 1, rfl, by omega, ?_, HB2.out⟩
          rw [HN.out, HNX.out]
          have e : (⟨P.toArray⟩ : ByteArray) ++ ⟨([44, 32] : Bt).toArray⟩ ++ ⟨X.toArray⟩ = ⟨(P ++ ([44, 32] : Bt) ++ X).toArray⟩ := by rw [str_append, str_append]
          exact congrArg Value.string e
        case measure => simp [intOf]; omega
    · obtain rfl : i = d := by omega
      rw [List.take_of_length_le (by rw [HLL.out, HD.out]; omega)] at hjl ⊢
      generalize hP : joinS [44, 32] L = P at *
      have HP := hid hP
      clear hP hbr hlt hjl
      go_wp2_with fail
      go_ret
      exact ⟨by rw [HP.out]; rfl, HB.out⟩
set_option maxRecDepth 100000 in
set_option maxHeartbeats 2000000 in
theorem rnote_any (w : World) (ts : List TyD) (A2 : Option Addr) (c2 : Nat) (xk : List Value) (s2 : Sl w w.heap.size 4 (.slice A2 ts.length c2) xk) (r2 : TysR w w.heap.size xk ts) (hw : ts.all (writtenB 16) = true) (hc : cntTs ts ≤ 100000) (i : Nat) :
    Calls Tryz.prog 54 #[.slice A2 ts.length c2, .int .i64 (i : Int)] w fun e w' => e = .returned (sv (noteS ts i)) ∧ Below w.heap.size w w' := by
  have hl2 := (t_sl_len s2).2
  by_cases hi : i < ts.length
  · obtain ⟨h1, h2, h3⟩ := show_types hw hc
    have h5 := h3 _ (List.getElem_mem hi)
    obtain ⟨b2, o2, kk, ss, A3, n3, c3, A4, n4, c4, rfl, hr1, e0, e1, e2, e3⟩ := elem_at s2 r2 hi rfl
    have HS := rshow_all ts[i] w _ 16 0 (by omega) hr1 h5.1 h5.2.1
    have hi0 : innerS (brK 0) (ts[i]).kind (showT ts[i]) = showT ts[i] := rfl
    rw [hi0] at HS
    have HS := hid HS
    have HT : Hid (noteS ts i = [58, 32] ++ showT ts[i]) := hid (by unfold noteS; rw [List.getElem?_eq_getElem hi])
    have h6 := h5.2.2
    rw [HT.out]
    clear HT h5 h3 h2 h1 s2 r2 hw hc hr1 hi0
    generalize showT ts[i] = s at *
    generalize ts.length = b at *
    have hsz := sv_size s
    have q1 : ¬ (9223372036854775807 < 2 + s.length) := by omega
    have hni : ¬ (b : Int) ≤ i := by omega
    go_enter Tryz.func54, Tryz.ntmps54
    go_wp2_with fail
    refine HS.out.mono ?_
    rintro e w2 ⟨rfl, hb⟩
    go_wp2_with fail
    go_ret
    refine ⟨?_, hb⟩
    have e : (⟨#[58, 32]⟩ : ByteArray) ++ ⟨s.toArray⟩ = ⟨([58, 32] ++ s).toArray⟩ := by
      rw [show (⟨#[58, 32]⟩ : ByteArray) = ⟨([58, 32] : Bt).toArray⟩ from rfl, str_append]
    exact congrArg (fun b => Ending.returned (Value.string b)) e
  · have HT : Hid (noteS ts i = []) := hid (by unfold noteS; rw [List.getElem?_eq_none (by omega)])
    rw [HT.out]
    have hni : (ts.length : Int) ≤ i := by omega
    clear s2 r2 hw hc hi
    generalize ts.length = b at *
    go_enter Tryz.func54, Tryz.ntmps54
    go_wp2_with fail
    go_ret
    exact ⟨rfl, Below.refl _ _⟩
set_option maxRecDepth 100000 in
theorem rtype_any (w : World) (z : List Value) (t : TyD) (hr : TyR w w.heap.size z t) (hok : okT t) (hc : cntT t ≤ 100000) :
    Calls Tryz.prog 16 #[.agg z.toArray] w fun e w' => e = .returned (sv (typeS t)) ∧ Below w.heap.size w w' := by
  obtain ⟨k, s, A1, n1, c1, A2, n2, c2, rfl⟩ := hr.shape
  obtain ⟨W1, hW1⟩ : ∃ W1, W1 = w.alloc (.cells #[.int .i64 k, .string s, .slice A1 n1 c1, .slice A2 n2 c2] 32) := ⟨_, rfl⟩
  have hb1 : Below w.heap.size w W1 := by rw [hW1]; exact (Below.refl _ _).alloc (Nat.le_refl _) _
  have hbx : W1.heap[w.heap.size]? = some (.cells #[.int .i64 k, .string s, .slice A1 n1 c1, .slice A2 n2 c2] 32 (0, 0)) := by rw [hW1]; exact heap_alloc_new w _
  have HW := rwritten_all 16 (by omega) W1 _ t (hr.far (Nat.le_refl _) hb1) hok
  rw [hW1] at HW
  have HW := hid HW
  have HB := hid hb1
  have HWE := hid hW1
  have HBX := hid hbx
  have HR := hid hr
  clear hb1 hbx hr hW1 hok
  cases hq : writtenB 16 t with
  | false =>
    have HT : Hid (typeS t = []) := hid (by unfold typeS; rw [hq]; rfl)
    rw [hq] at HW
    rw [HT.out]
    clear hq HT
    go_enter Tryz.func16, Tryz.ntmps16
    go_wp2_with fail
    refine HW.out.mono ?_
    rintro e w2 ⟨rfl, hb⟩
    rw [← HWE.out] at hb
    go_wp2_with fail
    go_ret
    exact ⟨rfl, HB.out.trans (hb.mono HB.out.size)⟩
  | true =>
    have HT : Hid (typeS t = showT t) := hid (by unfold typeS; rw [hq]; rfl)
    rw [hq] at HW
    rw [HT.out]
    have HS : Hid (∀ w2, Below w.heap.size w w2 → Calls Tryz.prog 39 #[.agg [.int .i64 k, .string s, .slice A1 n1 c1, .slice A2 n2 c2].toArray, .int .i64 ((0 : Nat) : Int)] w2 fun e w' => e = .returned (sv (showT t)) ∧ Below w2.heap.size w2 w') := hid (fun w2 hb2 => rshow_all t w2 _ 16 0 (by omega) (HR.out.far (Nat.le_refl _) hb2) hq hc)
    clear hq HT HR
    generalize showT t = u at *
    go_enter Tryz.func16, Tryz.ntmps16
    go_wp2_with fail
    refine HW.out.mono ?_
    rintro e w2 ⟨rfl, hb⟩
    rw [← HWE.out] at hb
    have HB2 := hid (HB.out.trans (hb.mono HB.out.size))
    obtain ⟨g0, g1, g2, g3⟩ := t_row4 ((hb.block _ (block_lt HBX.out)).trans HBX.out)
    clear hb
    go_wp2_with fail
    refine (HS.out _ HB2.out).mono ?_
    rintro e w3 ⟨rfl, hb3⟩
    go_wp2_with fail
    go_ret
    exact ⟨rfl, HB2.out.trans (hb3.mono HB2.out.size)⟩
set_option maxRecDepth 100000 in
set_option maxHeartbeats 8000000 in
theorem rfields_any (w : World) (A1 : Option Addr) (a c1 : Nat) (A2 : Option Addr) (d c2 : Nat) (ns S : List Bt) (s1 : Ss w w.heap.size (.slice A1 a c1) ns) (s2 : Ss w w.heap.size (.slice A2 d c2) S) (ha : ns.length = a) (hd : S.length = d) (had : a = d) (hlen : (joinS [44, 32] (List.zipWith fieldS ns S)).length ≤ 1000000000) :
    Calls Tryz.prog 79 #[.slice A1 a c1, .slice A2 d c2] w fun e w' => e = .returned (sv (joinS [44, 32] (List.zipWith fieldS ns S))) ∧ Below w.heap.size w w' := by
  obtain ⟨L, hL⟩ : ∃ L, List.zipWith fieldS ns S = L := ⟨_, rfl⟩
  have hll : L.length = a := by rw [← hL, List.length_zipWith]; omega
  have HGET : Hid (∀ (i : Nat) (h : i < ns.length) (h1 : i < S.length) (h2 : i < L.length), L[i] = fieldS ns[i] S[i]) := hid (by
    intro i h h1 h2
    subst hL
    rw [List.getElem_zipWith])
  rw [hL] at hlen ⊢
  have l1 := (t_sl_len s1).2
  have l2 := (t_sl_len s2).2
  have HS1 := hid s1
  have HS2 := hid s2
  have HJ : Hid (∀ i, (joinS [44, 32] (L.take i)).length ≤ 1000000000) := hid (fun i => by have := joinS_le [44, 32] L i; omega)
  have HA := hid ha
  have HD := hid hd
  have HAB := hid had
  have HLL := hid hll
  clear s1 s2 hL ha hd had hlen hll
  go_enter Tryz.func79, Tryz.ntmps79
  go_wp2_with fail
  go_loopw [5, 6] (fun v5 v6 wr => ∃ i : Nat, v6 = .int .i64 i ∧ i ≤ a ∧ v5 = sv (joinS [44, 32] (L.take i)) ∧ Below w.heap.size w wr) (fun v5 v6 _ => a - (intOf v6).toNat)
  case atStart => exact ⟨0, rfl, by omega, rfl, Below.refl _ _⟩
  case round =>
    obtain ⟨i, rfl, hi, rfl, hbr⟩ := hrel
    have HB := hid hbr
    have hjl := HJ.out i
    by_cases hlt : i < a
    · have hin : i < ns.length := by rw [HA.out]; exact hlt
      have hil : i < S.length := by rw [HD.out, ← HAB.out]; exact hlt
      have hiL : i < L.length := by rw [HLL.out]; exact hlt
      obtain ⟨b1, o1, rfl, d0⟩ := text_at (Sl.more (Sl.below HS1.out hbr) hbr.size) hin
      obtain ⟨b2, o2, rfl, e0⟩ := text_at (Sl.more (Sl.below HS2.out hbr) hbr.size) hil
      have hg := HGET.out i hin hil hiL
      have hj1 := HJ.out (i + 1)
      have HNX0 : Hid (i = 0 → joinS [44, 32] (L.take (i + 1)) = joinS [44, 32] (L.take i) ++ fieldS ns[i] S[i]) := hid (fun h => by
        subst h
        rw [Nat.zero_add, join_first _ hiL, hg]
        rfl)
      have HNX1 : Hid (0 < i → joinS [44, 32] (L.take (i + 1)) = joinS [44, 32] (L.take i) ++ ([44, 32] ++ fieldS ns[i] S[i])) := hid (fun h => by rw [join_next _ hiL h, hg])
      have hid_ : i < d := by rw [← HAB.out]; exact hlt
      generalize hN : joinS [44, 32] (L.take (i + 1)) = N at *
      have HN := hid hN
      clear hN
      generalize joinS [44, 32] (L.take i) = P at *
      generalize ns[i] = X at *
      generalize S[i] = s at *
      have hz0 := sv_size P
      have hz1 := sv_size X
      have hz2 := sv_size s
      have D0 := hid d0
      have E0 := hid e0
      have HB0 : Hid (Below wr.heap.size wr wr.drew) := hid (below_drawn wr 1)
      clear hg
      by_cases hi0 : i = 0
      · have HNX : Hid (N = P ++ X ++ ([58, 32] : Bt) ++ s) := hid (by rw [HNX0.out hi0]; simp [fieldS])
        rw [HNX.out] at hj1
        simp only [List.length_append, List.length_cons, List.length_nil] at hj1
        have gi : decide ((0 : Int) < (i : Int)) = false := by simp; omega
        have gi2 : ¬ (0 : Int) < (i : Int) := by omega
        have q0 : ¬ (9223372036854775807 < P.length + X.length) := by omega
        have q1 : ¬ (9223372036854775807 < P.length + X.length + 2) := by omega
        have q2 : ¬ (9223372036854775807 < P.length + X.length + 2 + s.length) := by omega
        clear hi0 HNX0 HNX1 hj1 hjl hbr d0 e0
        go_wp2_with fail
        refine wp_region_held_drew (S := fun w' => Below wr.heap.size wr w') (by kernel_rfl) HB0.out (fun _ => ?_)
        try simp only [Act.put, List.getElem_toArray, List.getElem_cons_zero, List.getElem_cons_succ, List.setIfInBounds_toArray, List.set_cons_zero, List.set_cons_succ]
        refine tk 0 (sv P) HB0.out ?_
        refine tk 1 (.slice (some ⟨b1, o1, none⟩) a c1) HB0.out ?_
        refine tk 2 (.int .i64 (i : Int)) HB0.out ?_
        refine tk 3 (.pointer (some ⟨b1, o1 + i, none⟩)) HB0.out ?_
        refine tkf 4 (sv X) (kp1 D0.out) HB0.out ?_
        refine tk 5 (.string ((⟨P.toArray⟩ : ByteArray) ++ ⟨X.toArray⟩)) HB0.out ?_
        refine tk 6 (.string ((⟨P.toArray⟩ : ByteArray) ++ ⟨X.toArray⟩ ++ ⟨#[58, 32]⟩)) HB0.out ?_
        refine tk 7 (.slice (some ⟨b2, o2, none⟩) d c2) HB0.out ?_
        refine tk 8 (.int .i64 (i : Int)) HB0.out ?_
        refine tk 9 (.pointer (some ⟨b2, o2 + i, none⟩)) HB0.out ?_
        refine tkf 10 (sv s) (kp1 E0.out) HB0.out ?_
        refine tk 11 (.string ((⟨P.toArray⟩ : ByteArray) ++ ⟨X.toArray⟩ ++ ⟨#[58, 32]⟩ ++ ⟨s.toArray⟩)) HB0.out ?_
        refine tk 12 (.string ((⟨P.toArray⟩ : ByteArray) ++ ⟨X.toArray⟩ ++ ⟨#[58, 32]⟩ ++ ⟨s.toArray⟩)) HB0.out ?_
        refine wpAnyH_done (by kernel_rfl) ?_ _
        go_wp2_with fail
        go_roundw
        case rel =>
          refine ⟨i + 1, rfl, by omega, ?_, HB.out.trans (HB0.out.mono HB.out.size)⟩
          rw [HN.out, HNX.out]
          have e : (⟨P.toArray⟩ : ByteArray) ++ ⟨X.toArray⟩ ++ ⟨([58, 32] : Bt).toArray⟩ ++ ⟨s.toArray⟩ = ⟨(P ++ X ++ ([58, 32] : Bt) ++ s).toArray⟩ := by
            rw [str_append, str_append, str_append]
          exact congrArg Value.string e
        case measure => simp [intOf]; omega
      · have HNX : Hid (N = P ++ ([44, 32] : Bt) ++ X ++ ([58, 32] : Bt) ++ s) := hid (by rw [HNX1.out (by omega)]; simp [fieldS])
        rw [HNX.out] at hj1
        simp only [List.length_append, List.length_cons, List.length_nil] at hj1
        have gi : decide ((0 : Int) < (i : Int)) = true := by simp; omega
        have gi2 : (0 : Int) < (i : Int) := by omega
        have q0 : ¬ (9223372036854775807 < P.length + 2) := by omega
        have q1 : ¬ (9223372036854775807 < P.length + 2 + X.length) := by omega
        have q2 : ¬ (9223372036854775807 < P.length + 2 + X.length + 2) := by omega
        have q3 : ¬ (9223372036854775807 < P.length + 2 + X.length + 2 + s.length) := by omega
        clear hi0 HNX0 HNX1 hj1 hjl hbr d0 e0
        go_wp2_with fail
        refine wp_region_held_drew (S := fun w' => Below wr.heap.size wr w') (by kernel_rfl) HB0.out (fun _ => ?_)
        try simp only [Act.put, List.getElem_toArray, List.getElem_cons_zero, List.getElem_cons_succ, List.setIfInBounds_toArray, List.set_cons_zero, List.set_cons_succ]
        refine tk 0 (.string ((⟨P.toArray⟩ : ByteArray) ++ ⟨#[44, 32]⟩)) HB0.out ?_
        refine tk 1 (.slice (some ⟨b1, o1, none⟩) a c1) HB0.out ?_
        refine tk 2 (.int .i64 (i : Int)) HB0.out ?_
        refine tk 3 (.pointer (some ⟨b1, o1 + i, none⟩)) HB0.out ?_
        refine tkf 4 (sv X) (kp1 D0.out) HB0.out ?_
        refine tk 5 (.string ((⟨P.toArray⟩ : ByteArray) ++ ⟨#[44, 32]⟩ ++ ⟨X.toArray⟩)) HB0.out ?_
        refine tk 6 (.string ((⟨P.toArray⟩ : ByteArray) ++ ⟨#[44, 32]⟩ ++ ⟨X.toArray⟩ ++ ⟨#[58, 32]⟩)) HB0.out ?_
        refine tk 7 (.slice (some ⟨b2, o2, none⟩) d c2) HB0.out ?_
        refine tk 8 (.int .i64 (i : Int)) HB0.out ?_
        refine tk 9 (.pointer (some ⟨b2, o2 + i, none⟩)) HB0.out ?_
        refine tkf 10 (sv s) (kp1 E0.out) HB0.out ?_
        refine tk 11 (.string ((⟨P.toArray⟩ : ByteArray) ++ ⟨#[44, 32]⟩ ++ ⟨X.toArray⟩ ++ ⟨#[58, 32]⟩ ++ ⟨s.toArray⟩)) HB0.out ?_
        refine tk 12 (.string ((⟨P.toArray⟩ : ByteArray) ++ ⟨#[44, 32]⟩ ++ ⟨X.toArray⟩ ++ ⟨#[58, 32]⟩ ++ ⟨s.toArray⟩)) HB0.out ?_
        refine wpAnyH_done (by kernel_rfl) ?_ _
        go_wp2_with fail
        go_roundw
        case rel =>
          refine ⟨i + 1, rfl, by omega, ?_, HB.out.trans (HB0.out.mono HB.out.size)⟩
          rw [HN.out, HNX.out]
          have e : (⟨P.toArray⟩ : ByteArray) ++ ⟨([44, 32] : Bt).toArray⟩ ++ ⟨X.toArray⟩ ++ ⟨([58, 32] : Bt).toArray⟩ ++ ⟨s.toArray⟩ = ⟨(P ++ ([44, 32] : Bt) ++ X ++ ([58, 32] : Bt) ++ s).toArray⟩ := by
            rw [str_append, str_append, str_append, str_append]
          exact congrArg Value.string e
        case measure => simp [intOf]; omega
    · obtain rfl : i = a := by omega
      rw [List.take_of_length_le (by rw [HLL.out]; omega)] at hjl ⊢
      generalize hP : joinS [44, 32] L = P at *
      have HP := hid hP
      clear hP hbr hlt hjl
      go_wp2_with fail
      go_ret
      exact ⟨by rw [HP.out]; rfl, HB.out⟩
end Go.Proofs.YtbpedjkebemhnaaGreatDoor
