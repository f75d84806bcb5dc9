/- YQ, YC, VW -/
import Derived.Test.YtbpedjkebemhnaaGreatDoorSC15
import Derived.Test.YtbpedjkebemhnaaGreatDoorSC16
import Derived.Test.YtbpedjkebemhnaaGreatDoorSC02
import Derived.Test.YtbpedjkebemhnaaGreatDoorSC03
import Derived.Test.YtbpedjkebemhnaaGreatDoorCards
import Derived.Test.YtbpedjkebemhnaaGreatDoorTie
import Derived.ProofKit
import Derived.OpenShut
import Derived.LaidMore
import Derived.LaidSub
import Derived.Stop.Joined
import Derived.Stop.LaidErr
import Derived.Lib.LaidTab
import Derived.Deep.DeepHandedRow
import Derived.Deep.DeepWitnessRowRef
set_option linter.unusedSimpArgs false
set_option linter.unusedVariables false
section
/- The law TreePieces walked. -/
set_option linter.unusedVariables false
namespace Go.Proofs.YtbpedjkebemhnaaGreatDoor
open Go.RowKit

/-- One element of a list, as a list. -/
theorem sl_one {w : World} {B k b o n c i : Nat} {xs : List Value} (h : Sl w B k (.slice (some ⟨b, o, none⟩) n c) xs) (hi : i < n) (hk : 0 < k) : Sl w B k (.slice (some ⟨b, o + i * k, none⟩) 1 (c - i)) ((xs.drop (i * k)).take k) := by
  obtain ⟨A', n', c', hv, hl, hn, hc, hx⟩ := h
  injection hv with e1 e2 e3
  subst e1 e2 e3
  obtain ⟨b2, o2, hA, hb, hcell⟩ := hx (by omega)
  injection hA with hA
  injection hA with h1 h2
  subst h1 h2
  have hik : i * k + k ≤ n * k := by have := Nat.mul_le_mul_right k (by omega : i + 1 ≤ n); rw [Nat.add_mul, Nat.one_mul] at this; exact this
  refine ⟨_, 1, c - i, rfl, by rw [List.length_take, List.length_drop, hl]; omega, by omega, by omega, fun _ => ⟨b, o + i * k, rfl, hb, fun j u hu => ?_⟩⟩
  have := hcell _ u (row_part (i := i) (k := k) rfl hu)
  rwa [← Nat.add_assoc] at this
theorem trow_one {α : Type} {R : List Value → α → Prop} {k : Nat} {z : List Value} {c : α} (hz : z.length = k) (h : R z c) : TRow R k z [c] := by
  have := TRow.cons (R := R) hz h .nil
  rwa [List.append_nil] at this
theorem imp_len4 {w : World} {B : Nat} {z : List Value} {i : ImD} (h : ImR w B z i) : z.length = 4 := by
  obtain ⟨vn, rfl, _⟩ := h; rfl
/-- A module of one import. -/
theorem one_imp {w : World} {B b o n c : Nat} {xs : List Value} {l : List ImD} (hs : Sl w B 4 (.slice (some ⟨b, o, none⟩) n c) xs) (hr : TRow (ImR w B) 4 xs l) {i : Nat} (hi : i < l.length) (hn : n = l.length) : MoR w B [.slice (some ⟨b, o + i * 4, none⟩) 1 (c - i), .slice none 0 0] ⟨[l[i]], []⟩ := by
  have h1 := hr.at i hi
  exact ⟨_, _, _, [], rfl, sl_one hs (by omega) (by omega), trow_one (imp_len4 h1) h1, Sl.nil _ _ _, .nil⟩
/-- A module of one function. -/
theorem one_decl {w : World} {B b o n c : Nat} {xs : List Value} {l : List DeD} (hs : Sl w B 15 (.slice (some ⟨b, o, none⟩) n c) xs) (hr : TRow (DeR w B) 15 xs l) {i : Nat} (hi : i < l.length) (hn : n = l.length) : MoR w B [.slice none 0 0, .slice (some ⟨b, o + i * 15, none⟩) 1 (c - i)] ⟨[], [l[i]]⟩ := by
  have h1 := hr.at i hi
  exact ⟨_, [], _, _, rfl, Sl.nil _ _ _, .nil, sl_one hs (by omega) (by omega), trow_one h1.len h1⟩
theorem sm_imp {m : MoD} (h : SmM m) {i : ImD} (hi : i ∈ m.imps) : SmM ⟨[i], []⟩ :=
  ⟨by simp, by simp, fun x hx => by
    obtain rfl : x = i := by simpa using hx
    exact h.names x hi, by simp, by simp, by simp, by simp, by simp⟩
theorem sm_decl {m : MoD} (h : SmM m) {d : DeD} (hd : d ∈ m.decls) : SmM ⟨[], [d]⟩ := by
  refine ⟨by simp, by simp, by simp, ?_, ?_, ?_, ?_, ?_⟩
  all_goals
    intro x hx
    obtain rfl : x = d := by simpa using hx
  · exact h.vars x hd
  · exact h.types x hd
  · exact h.bounds x hd
  · exact h.sorts x hd
  · exact h.body x hd
theorem ok_imp {i : ImD} (h : okI i) : okM ⟨[i], []⟩ :=
  ⟨fun x hx => by
    obtain rfl : x = i := by simpa using hx
    exact h, fun x hx => by simp at hx⟩
theorem ok_decl {d : DeD} (h : okD d) : okM ⟨[], [d]⟩ :=
  ⟨fun x hx => by simp at hx, fun x hx => by
    obtain rfl : x = d := by simpa using hx
    exact h⟩
theorem print_imp {i : ImD} (h : impB i = true) : printT ⟨[i], []⟩ = impS i := by
  unfold printT mayB printS
  simp [h]
theorem print_decl {d : DeD} (h : declB d = true) : printT ⟨[], [d]⟩ = declS d := by
  unfold printT mayB printS
  simp [h]
set_option maxRecDepth 100000 in
set_option maxHeartbeats 8000000 in
theorem treepieces_any (z : List Value) (m : MoD) (w : World) (hr : MoR w w.heap.size z m) (hok : okM m) (hX : LaidT w) :
    Calls Tryz.prog 6 #[.agg z.toArray] w fun e w' => e = .returned (.bool true) ∧ Below w.heap.size w w' := by
  have hr0 := hr
  obtain ⟨A1, c1, A2, c2, xi, xd, rfl, s1, r1, s2, r2⟩ := hr.parts
  have l1 := (t_sl_len s1).2
  have l2 := (t_sl_len s2).2
  obtain ⟨W, hW⟩ : ∃ W, w.alloc (.cells #[.slice A1 m.imps.length c1, .slice A2 m.decls.length c2] 39) = W := ⟨_, rfl⟩
  have hb1 : Below w.heap.size w W := by rw [← hW]; exact (Below.refl _ _).alloc (Nat.le_refl _) _
  have hbx : W.heap[w.heap.size]? = some (.cells #[.slice A1 m.imps.length c1, .slice A2 m.decls.length c2] 39 (0, 0)) := by rw [← hW]; exact heap_alloc_new w _
  have HA := hid (awake_any W (hX.below hb1))
  have HFR := hid (fun (w1 : World) (h : Below W.heap.size W w1) => hr0.far (Nat.le_refl _) (hb1.trans (h.mono hb1.size)))
  have HX := hid (hX.below hb1)
  have HB := hid hb1
  have HBX := hid hbx
  have HOK := hid hok
  have HSMALL := hid (fun (w1 : World) (h : Below W.heap.size W w1) => small_any m w1 _ (HFR.out w1 h) hok 1000 (by omega))
  have HMA : Hid (SmM m → ∀ w1, Below W.heap.size W w1 → Calls Tryz.prog 21 #[.agg #[.slice A1 m.imps.length c1, .slice A2 m.decls.length c2]] w1 fun e w' => e = .returned (.bool (mayB m)) ∧ Below w1.heap.size w1 w') := hid (fun hS w1 h => tmay_any m w1 _ (HFR.out w1 h) hok (HX.out.below h) hS)
  have HPA : Hid (SmM m → ∀ w1, Below W.heap.size W w1 → Calls Tryz.prog 23 #[.agg #[.slice A1 m.imps.length c1, .slice A2 m.decls.length c2]] w1 fun e w' => e = .returned (sv (printT m)) ∧ Below w1.heap.size w1 w') := hid (fun hS w1 h => tprint_any m w1 _ (HFR.out w1 h) hok (HX.out.below h) hS)
  have HI := hid (And.intro (Sl.more (Sl.below s1 hb1) hb1.size) (r1.imp fun _ _ h => (h.keep hb1).more hb1.size))
  have HD := hid (And.intro (Sl.more (Sl.below s2 hb1) hb1.size) (r2.imp fun _ _ h => (h.keep hb1).more hb1.size))
  have HPS : Hid (printT m = if mayB m then m.imps.flatMap impS ++ m.decls.flatMap declS else []) := hid rfl
  have HMB : Hid (mayB m = true → (∀ i ∈ m.imps, impB i = true) ∧ (∀ d ∈ m.decls, declB d = true)) := hid (fun h => by
    unfold mayB at h
    rw [Bool.and_eq_true, List.all_eq_true, List.all_eq_true] at h
    exact h)
  clear hr hr0 hX hb1 hbx hok s1 r1 s2 r2
  obtain ⟨is, his⟩ : ∃ x, m.imps = x := ⟨_, rfl⟩
  obtain ⟨ds, hds⟩ : ∃ x, m.decls = x := ⟨_, rfl⟩
  have HIS := hid his
  have HDS := hid hds
  rw [his, hds] at HMB HPS HBX hW HSMALL HMA HPA
  rw [his] at HI l1
  rw [hds] at HD l2
  rw [his, hds]
  obtain ⟨a, hA⟩ : ∃ a, is.length = a := ⟨_, rfl⟩
  obtain ⟨d, hDl⟩ : ∃ d, ds.length = d := ⟨_, rfl⟩
  rw [hA, hDl] at HBX hW HSMALL HMA HPA
  rw [hA] at HI l1
  rw [hDl] at HD l2
  rw [hA, hDl]
  have HAL := hid hA
  have HDL := hid hDl
  clear his hds hA hDl
  generalize mayB m = q at *
  generalize printT m = T at *
  go_enter Tryz.func6, Tryz.ntmps6
  go_wp2_with fail
  refine HA.out.mono ?_
  rintro e w2 ⟨rfl, hb⟩
  have HB2 := hid hb
  obtain ⟨g0, g1⟩ := t_row2 ((hb.block _ (block_lt HBX.out)).trans HBX.out)
  clear hb hW
  go_wp2_with fail
  clear g0 g1
  refine (HSMALL.out _ HB2.out).mono ?_
  rintro e w3 ⟨b, rfl, hbs, hb⟩
  have HB3 := hid (HB2.out.trans (hb.mono HB2.out.size))
  have HBS := hid hbs
  clear hb hbs
  cases b with
  | false =>
    go_wp2_with fail
    go_ret
    exact ⟨rfl, HB.out.trans (HB3.out.mono HB.out.size)⟩
  | true =>
  have HS := hid (HBS.out rfl)
  clear HBS
  obtain ⟨g0, g1⟩ := t_row2 ((HB3.out.block _ (block_lt HBX.out)).trans HBX.out)
  go_wp2_with fail
  clear g0 g1
  refine (HMA.out HS.out _ HB3.out).mono ?_
  rintro e w4 ⟨rfl, hb⟩
  have HB4 := hid (HB3.out.trans (hb.mono HB3.out.size))
  clear hb
  cases q with
  | false =>
    go_wp2_with fail
    go_ret
    exact ⟨rfl, HB.out.trans (HB4.out.mono HB.out.size)⟩
  | true =>
  obtain ⟨hia, hda⟩ := HMB.out rfl
  have hpt := HPS.out
  rw [if_pos rfl] at hpt
  have hL1 := flatMap_all (f := impS) (l := is) (K := 10000) fun i hi => imp_len (hia i hi) (HS.out.names i (by rw [HIS.out]; exact hi))
  have hL2 := flatMap_all (f := declS) (l := ds) (K := 1000000010) fun i hi => (funS_len HS.out (by rw [HDS.out]; exact hi) (hda i hi)).2.1
  have h100 := HS.out.imps
  have h101 := HS.out.decls
  rw [HIS.out] at h100
  rw [HDS.out] at h101
  have HTL : Hid ((is.flatMap impS).length + (ds.flatMap declS).length ≤ 1000000000000) := hid (by omega)
  have HPT := hid hpt
  have HIA := hid hia
  have HDA := hid hda
  clear hpt hL1 hL2 h100 h101 hia hda HPS HMB
  go_wp2_with fail
  go_loopw [5, 6] (fun v5 v6 wr => ∃ i : Nat, v6 = .int .i64 i ∧ i ≤ a ∧ v5 = sv ((is.take i).flatMap impS) ∧ Below W.heap.size W wr) (fun _ v6 _ => a - (intOf v6).toNat)
  case atStart => exact ⟨0, rfl, by omega, rfl, HB4.out⟩
  case round =>
    obtain ⟨i, rfl, hi, rfl, hbr⟩ := hrel
    have HBR := hid hbr
    obtain ⟨g0, g1⟩ := t_row2 ((hbr.block _ (block_lt HBX.out)).trans HBX.out)
    have htl := HTL.out
    by_cases hlt : i < a
    · have hil : i < is.length := by rw [HAL.out]; exact hlt
      obtain ⟨b2, o2, hA6⟩ : ∃ b o, A1 = some ⟨b, o, none⟩ := by
        obtain ⟨b, o, hA, _⟩ := t_sl_in HI.out.1 hlt (by omega)
        exact ⟨b, o, hA⟩
      subst hA6
      have hmem := List.getElem_mem hil
      have HP := hid (tprint_any ⟨[is[i]], []⟩ wr _ (one_imp (Sl.more (Sl.below HI.out.1 hbr) hbr.size) (HI.out.2.imp fun _ _ h => (h.keep hbr).more hbr.size) hil HAL.out.symm) (ok_imp (HOK.out.1 _ (by rw [HIS.out]; exact hmem))) (HX.out.below hbr) (sm_imp HS.out (by rw [HIS.out]; exact hmem)))
      rw [print_imp (HIA.out _ hmem)] at HP
      have hfl := flatMap_snoc impS hil
      have hll := flatMap_le impS is (i + 1)
      rw [hfl, List.length_append] at hll
      have HFL := hid hfl
      clear hfl hbr hmem
      generalize impS is[i] = X at *
      generalize (is.take i).flatMap impS = P at *
      have hz0 := sv_size X
      have hz1 := sv_size P
      have q0 : ¬ (9223372036854775807 < P.length + X.length) := by omega
      go_wp2_with fail
      refine HP.out.mono ?_
      rintro e w5 ⟨rfl, hb⟩
      have HB5 := hid (HBR.out.trans (hb.mono HBR.out.size))
      clear hb g0 g1
      go_wp2_with fail
      go_roundw
      case rel =>
        refine ⟨i + 1, rfl, by omega, ?_, HB5.out⟩
        rw [HFL.out]
        have e : (⟨P.toArray⟩ : ByteArray) ++ ⟨X.toArray⟩ = ⟨(P ++ X).toArray⟩ := by rw [str_append]
        exact congrArg Value.string e
      case measure => simp [intOf]; omega
    · obtain rfl : i = a := by omega
      rw [List.take_of_length_le (by rw [HAL.out]; omega)]
      clear hbr hlt
      go_wp2_with fail
      clear g0 g1
      go_loopw [5, 7] (fun v5 v7 wr => ∃ j : Nat, v7 = .int .i64 j ∧ j ≤ d ∧ v5 = sv (is.flatMap impS ++ (ds.take j).flatMap declS) ∧ Below W.heap.size W wr) (fun _ v7 _ => d - (intOf v7).toNat)
      case atStart => exact ⟨0, rfl, by omega, by simp, HBR.out⟩
      case round =>
        obtain ⟨j, rfl, hj, rfl, hbr⟩ := hrel
        have HBR2 := hid hbr
        obtain ⟨g0, g1⟩ := t_row2 ((hbr.block _ (block_lt HBX.out)).trans HBX.out)
        by_cases hlt : j < d
        · have hjl : j < ds.length := by rw [HDL.out]; exact hlt
          obtain ⟨b2, o2, hA6⟩ : ∃ b o, A2 = some ⟨b, o, none⟩ := by
            obtain ⟨b, o, hA, _⟩ := t_sl_in HD.out.1 hlt (by omega)
            exact ⟨b, o, hA⟩
          subst hA6
          have hmem := List.getElem_mem hjl
          have HP := hid (tprint_any ⟨[], [ds[j]]⟩ wr _ (one_decl (Sl.more (Sl.below HD.out.1 hbr) hbr.size) (HD.out.2.imp fun _ _ h => (h.keep hbr).more hbr.size) hjl HDL.out.symm) (ok_decl (HOK.out.2 _ (by rw [HDS.out]; exact hmem))) (HX.out.below hbr) (sm_decl HS.out (by rw [HDS.out]; exact hmem)))
          rw [print_decl (HDA.out _ hmem)] at HP
          have hfl := flatMap_snoc declS hjl
          have hll := flatMap_le declS ds (j + 1)
          rw [hfl, List.length_append] at hll
          have HFL : Hid (is.flatMap impS ++ (ds.take (j + 1)).flatMap declS = (is.flatMap impS ++ (ds.take j).flatMap declS) ++ declS ds[j]) := hid (by rw [hfl, List.append_assoc])
          have hpl : (is.flatMap impS ++ (ds.take j).flatMap declS).length + (declS ds[j]).length ≤ 1000000000000 := by rw [List.length_append]; omega
          clear hfl hbr hmem hll
          generalize declS ds[j] = X at *
          generalize is.flatMap impS ++ (ds.take j).flatMap declS = P at *
          have hz0 := sv_size X
          have hz1 := sv_size P
          have q0 : ¬ (9223372036854775807 < P.length + X.length) := by omega
          go_wp2_with fail
          refine HP.out.mono ?_
          rintro e w5 ⟨rfl, hb⟩
          have HB5 := hid (HBR2.out.trans (hb.mono HBR2.out.size))
          clear hb g0 g1
          go_wp2_with fail
          go_roundw
          case rel =>
            refine ⟨j + 1, rfl, by omega, ?_, HB5.out⟩
            rw [HFL.out]
            have e : (⟨P.toArray⟩ : ByteArray) ++ ⟨X.toArray⟩ = ⟨(P ++ X).toArray⟩ := by rw [str_append]
            exact congrArg Value.string e
          case measure => simp [intOf]; omega
        · obtain rfl : j = d := by omega
          rw [List.take_of_length_le (by rw [HDL.out]; omega)]
          have HP := HPA.out HS.out _ hbr
          rw [HPT.out] at HP
          have HP := hid HP
          clear hbr hlt
          generalize is.flatMap impS ++ ds.flatMap declS = P at *
          go_wp2_with fail
          refine HP.out.mono ?_
          rintro e w5 ⟨rfl, hb⟩
          have HB5 := hid (HBR2.out.trans (hb.mono HBR2.out.size))
          clear hb g0 g1
          go_wp2_with fail
          go_ret
          exact ⟨rfl, HB.out.trans (HB5.out.mono HB.out.size)⟩
end Go.Proofs.YtbpedjkebemhnaaGreatDoor
end
section
/- Opening arguments: modules that came in. -/
set_option linter.unusedVariables false
namespace Go.Proofs.YtbpedjkebemhnaaGreatDoor
open Go.ChangeShapes Go.WideShapes Go.ChangeAt Go.RowKit
section
variable {H : Type} {enc : TypeId × Value → H} {W : World}
theorem t_bo {fuel : Nat} {u : Value} {x : DataW H × List MemPlace} (h : DataW.trod enc Tryz.prog W 0 (fun _ => true) true fuel 4 [u] = some x) : ∃ y, u = .bool y := by
  obtain ⟨n, hn, rfl⟩ := DataW.trod_bool Tryz.underlying4 h
  exact ⟨n, by simpa using hn⟩
theorem row_pair {α : Type} {R : List Value → α → Prop} {S : α → Prop} {k : Nat} {xs : List Value} {ys : List α} (h : TRow (fun z c => R z c ∧ S c) k xs ys) : TRow R k xs ys ∧ ∀ y ∈ ys, S y :=
  ⟨h.imp fun _ _ h => h.1, h.all (S := S) fun _ _ h => h.2⟩
set_option maxRecDepth 100000 in
theorem open_im {fuel : Nat} {cs : List Value} {x : DataW H × List MemPlace} (h : DataW.trod enc Tryz.prog W 0 (fun _ => true) true fuel 62 cs = some x) : ∃ y, ImR W W.heap.size cs y ∧ okI y := by
  obtain ⟨xs, n, hn, rfl, hl, hlen, hf⟩ := DataW.trod_struct Tryz.underlying62 h
  rw [show Tryz.prog.cellsOf 62 = 4 by kernel_rfl] at hl
  match cs, hl, xs, hlen with
  | [u0, u1, u2, u3], _, [y0, y1, y2, y3], _ =>
    have t0 : DataW.trod enc Tryz.prog W 0 (fun _ => true) true n 9 [u0] = some y0 := hf 0 _ rfl
    have t1 : DataW.trod enc Tryz.prog W 0 (fun _ => true) true n 23 [u1] = some y1 := hf 1 _ rfl
    have t2 : DataW.trod enc Tryz.prog W 0 (fun _ => true) true n 3 [u2] = some y2 := hf 2 _ rfl
    have t3 : DataW.trod enc Tryz.prog W 0 (fun _ => true) true n 3 [u3] = some y3 := hf 3 _ rfl
    obtain ⟨f, rfl, hfm⟩ := t_tx t0
    obtain ⟨ns, r1, o1⟩ := t_texts t1
    obtain ⟨l, rfl, hl⟩ := t_in t2
    obtain ⟨c, rfl, hc⟩ := t_in t3
    exact ⟨⟨f, ns, l, c⟩, ⟨_, rfl, r1⟩, hfm, o1, hl, hc⟩
set_option maxRecDepth 100000 in
theorem open_va {fuel : Nat} {cs : List Value} {x : DataW H × List MemPlace} (h : DataW.trod enc Tryz.prog W 0 (fun _ => true) true fuel 67 cs = some x) : ∃ y, VaR W W.heap.size cs y ∧ okV y := by
  obtain ⟨xs, n, hn, rfl, hl, hlen, hf⟩ := DataW.trod_struct Tryz.underlying67 h
  rw [show Tryz.prog.cellsOf 67 = 5 by kernel_rfl] at hl
  match cs, hl, xs, hlen with
  | [u0, u1, u2, u3, u4], _, [y0, y1], _ =>
    have t0 : DataW.trod enc Tryz.prog W 0 (fun _ => true) true n 9 [u0] = some y0 := hf 0 _ rfl
    have t1 : DataW.trod enc Tryz.prog W 0 (fun _ => true) true n 32 [u1, u2, u3, u4] = some y1 := hf 1 _ rfl
    obtain ⟨f, rfl, hfm⟩ := t_tx t0
    obtain ⟨ty, r1, o1⟩ := open_ty _ _ _ t1
    exact ⟨⟨f, ty⟩, ⟨_, rfl, r1⟩, hfm, o1⟩
set_option maxRecDepth 100000 in
theorem open_de {fuel : Nat} {cs : List Value} {x : DataW H × List MemPlace} (h : DataW.trod enc Tryz.prog W 0 (fun _ => true) true fuel 65 cs = some x) : ∃ y, DeR W W.heap.size cs y ∧ okD y := by
  obtain ⟨xs, n, hn, rfl, hl, hlen, hf⟩ := DataW.trod_struct Tryz.underlying65 h
  rw [show Tryz.prog.cellsOf 65 = 15 by kernel_rfl] at hl
  match cs, hl, xs, hlen with
  | [u0, u1, u2, u3, u4, v0, v1, v2, v3, v4, v5, v6, v7, u6, u7], _, [y0, y1, y2, y3, y4, y5, y6, y7], _ =>
    have t0 : DataW.trod enc Tryz.prog W 0 (fun _ => true) true n 9 [u0] = some y0 := hf 0 _ rfl
    have t1 : DataW.trod enc Tryz.prog W 0 (fun _ => true) true n 4 [u1] = some y1 := hf 1 _ rfl
    have t2 : DataW.trod enc Tryz.prog W 0 (fun _ => true) true n 63 [u2] = some y2 := hf 2 _ rfl
    have t3 : DataW.trod enc Tryz.prog W 0 (fun _ => true) true n 9 [u3] = some y3 := hf 3 _ rfl
    have t4 : DataW.trod enc Tryz.prog W 0 (fun _ => true) true n 22 [u4] = some y4 := hf 4 _ rfl
    have t5 : DataW.trod enc Tryz.prog W 0 (fun _ => true) true n 26 [v0, v1, v2, v3, v4, v5, v6, v7] = some y5 := hf 5 _ rfl
    have t6 : DataW.trod enc Tryz.prog W 0 (fun _ => true) true n 3 [u6] = some y6 := hf 6 _ rfl
    have t7 : DataW.trod enc Tryz.prog W 0 (fun _ => true) true n 3 [u7] = some y7 := hf 7 _ rfl
    obtain ⟨nm, rfl, hnm⟩ := t_tx t0
    obtain ⟨ex, rfl⟩ := t_bo t1
    obtain ⟨zv, vs, e1, e2⟩ := open_row Tryz.underlying63 (k := 5) (by kernel_rfl) (by omega) t2 (fun cs y => VaR W W.heap.size cs y ∧ okV y) (fun m cs' x' hm ht _ => open_va ht)
    obtain ⟨pr, rfl, hpr⟩ := t_tx t3
    obtain ⟨zt, ts, f1, f2⟩ := open_row Tryz.underlying22 (k := 4) (by kernel_rfl) (by omega) t4 (fun cs y => TyR W W.heap.size cs y ∧ okT y) (fun m cs' x' hm ht _ => open_ty m cs' x' ht)
    obtain ⟨bd, r5, o5⟩ := open_no _ _ _ t5
    obtain ⟨l, rfl, hl⟩ := t_in t6
    obtain ⟨c, rfl, hc⟩ := t_in t7
    obtain ⟨g1, g2⟩ := row_pair e2
    obtain ⟨g3, g4⟩ := row_tys f2
    exact ⟨⟨nm, ex, vs, pr, ts, bd, l, c⟩, ⟨_, _, _, _, _, rfl, e1, g1, f1, g3, r5⟩, hnm, g2, hpr, g4, o5, hl, hc⟩
set_option maxRecDepth 100000 in
theorem open_mo {fuel : Nat} {cs : List Value} {x : DataW H × List MemPlace} (h : DataW.trod enc Tryz.prog W 0 (fun _ => true) true fuel 39 cs = some x) : ∃ y, MoR W W.heap.size cs y ∧ okM y := by
  obtain ⟨xs, n, hn, rfl, hl, hlen, hf⟩ := DataW.trod_struct Tryz.underlying39 h
  rw [show Tryz.prog.cellsOf 39 = 2 by kernel_rfl] at hl
  match cs, hl, xs, hlen with
  | [u0, u1], _, [y0, y1], _ =>
    have t0 : DataW.trod enc Tryz.prog W 0 (fun _ => true) true n 36 [u0] = some y0 := hf 0 _ rfl
    have t1 : DataW.trod enc Tryz.prog W 0 (fun _ => true) true n 37 [u1] = some y1 := hf 1 _ rfl
    obtain ⟨zi, is, e1, e2⟩ := open_row Tryz.underlying36 (k := 4) (by kernel_rfl) (by omega) t0 (fun cs y => ImR W W.heap.size cs y ∧ okI y) (fun m cs' x' hm ht _ => open_im ht)
    obtain ⟨zd, ds, f1, f2⟩ := open_row Tryz.underlying37 (k := 15) (by kernel_rfl) (by omega) t1 (fun cs y => DeR W W.heap.size cs y ∧ okD y) (fun m cs' x' hm ht _ => open_de ht)
    obtain ⟨g1, g2⟩ := row_pair e2
    obtain ⟨g3, g4⟩ := row_pair f2
    exact ⟨⟨is, ds⟩, ⟨_, _, _, _, rfl, e1, g1, f1, g3⟩, g2, g4⟩
theorem open_module {v : Value} {d : DataW H} {p : List MemPlace} (hd : DataW.Trod enc Tryz.prog W 0 (fun _ => true) true 39 v d p) : ∃ z m, v = Value.agg z.toArray ∧ MoR W W.heap.size z m ∧ okM m := by
  obtain ⟨z, rfl, hz⟩ := agg_cells (k := 2) (by omega) ⟨_, Tryz.underlying39⟩ (by kernel_rfl) hd
  obtain ⟨fuel, h⟩ := hd
  rw [hz] at h
  obtain ⟨m, h1, h2⟩ := open_mo h
  exact ⟨z, m, rfl, h1, h2⟩
end
end Go.Proofs.YtbpedjkebemhnaaGreatDoor
end
section
/- What the tree rows' listed variables give the walks, and a world in which they read so. -/
set_option linter.unusedVariables false
namespace Go.Proofs.YtbpedjkebemhnaaGreatDoor
open Go.ChangeShapes Go.WideShapes Go.ChangeAt Go.RowKit

theorem own : ownKnob Tryz.prog.godebug = none := by kernel_rfl
theorem laidOut : laidOutB Tryz.prog = true := by kernel_rfl
theorem pow10_of {l : List (String × DataW Unit)} {W : World}
    (h1 : (l.filter fun x => x.1 == "internal/strconv.uint64pow10") = [("internal/strconv.uint64pow10", Lib.tabData .u64 Lib.pow10Tab)])
    (h : laidMetH Tryz.prog l W) : Lib.TabIs Tryz.prog W "internal/strconv.uint64pow10" .u64 Lib.pow10Tab := by
  have g1 := laidMetH.filter (fun x => x.1 == "internal/strconv.uint64pow10") h
  rw [h1] at g1
  rw [MakeChecks.laidMetH_plain _ _ _ (by kernel_rfl)] at g1
  exact Lib.tabIs_of_head (g := 5) (by kernel_rfl) (by kernel_rfl) Tryz.underlying258 Tryz.underlying213 (by kernel_rfl) (by kernel_rfl) g1
theorem ascii_of {l : List (String × DataW Unit)} {W : World}
    (h1 : (l.filter fun x => x.1 == "strings.asciiSpace") = [("strings.asciiSpace", Lib.tabData .u8 Lib.asciiSpaceTab)])
    (h : laidMetH Tryz.prog l W) : Lib.TabIs Tryz.prog W "strings.asciiSpace" .u8 Lib.asciiSpaceTab := by
  have g1 := laidMetH.filter (fun x => x.1 == "strings.asciiSpace") h
  rw [h1] at g1
  rw [MakeChecks.laidMetH_plain _ _ _ (by kernel_rfl)] at g1
  exact Lib.tabIs_of_head (g := 0) (by kernel_rfl) (by kernel_rfl) Tryz.underlying120 Tryz.underlying5 (by kernel_rfl) (by kernel_rfl) g1
end Go.Proofs.YtbpedjkebemhnaaGreatDoor
end
