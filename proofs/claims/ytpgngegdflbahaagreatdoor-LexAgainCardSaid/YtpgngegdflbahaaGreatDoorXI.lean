/- The map of pairs is made. -/
import Derived.Test.YtpgngegdflbahaaGreatDoorXH
import Derived.Test.YtpgngegdflbahaaGreatDoorMR
set_option linter.unusedVariables false
namespace Go.Proofs.YtpgngegdflbahaaGreatDoor
open Go.RowKit
open Go.Maps (has IsMap Keyed)

theorem pairV_inj {a b a' b' : UInt8} (h : pairV a b = pairV a' b') : a = a' ∧ b = b' := by
  unfold pairV at h
  injection h with h
  injection h with h
  injection h with h1 h2
  injection h2 with h2 _
  injection h1 with _ h1
  injection h2 with _ h2
  exact ⟨UInt8.toNat_inj.1 (by omega), UInt8.toNat_inj.1 (by omega)⟩
theorem pairs_put {D : DataW Unit} {l : List Bt} (hD : IsMap D) (h : PairsOf D l) {a b : UInt8} {kl : Lit} (hk : keyOf Tryz.prog 65 (pairV a b) = some kl) : PairsOf (D.put kl (.lit (.bool true))) (l ++ [[a, b]]) := by
  intro a' b' kl' hk' z
  by_cases he : kl' = kl
  · subst he
    obtain ⟨rfl, rfl⟩ := pairV_inj (law_pair.inj hk' hk)
    rw [Maps.atKey_put_same hD (law_pair.key hk), if_pos (by simp)]
  · have hne : [a', b'] ≠ [a, b] := by
      intro e
      injection e with e1 e2
      injection e2 with e2 _
      subst e1 e2
      rw [hk'] at hk
      exact he (Option.some.inj hk)
    rw [Maps.atKey_put_other he, h a' b' kl' hk' z]
    by_cases hin : [a', b'] ∈ l
    · rw [if_pos hin, if_pos (List.mem_append_left _ hin)]
    · rw [if_neg hin, if_neg (by simp only [List.mem_append, List.mem_singleton]; rintro (h1 | h1); exact hin h1; exact hne h1)]
theorem pairsOf_nil : PairsOf (.map []) [] := fun _ _ _ _ z => rfl

/-- A store into a map, as one step. -/
theorem step_update {H : Type} {P : Program} {ops : Array Oper} {o : Oper} {a : Act} {w : World} {K : Act → World → Prop} {Q : Exit → Act → World → Prop} {E : Prop}
    (hg : o.guard = none) (m x v : Operand) (t : TypeId) (hop : o.op = Op.mapUpdate t m x v)
    (k e : TypeId) (Kd : Keyed P k) (ht : P.underlying t = some (.map k e)) (R : Value → Option (DataW H × List MemPlace)) (b n : Nat) (D : DataW H)
    (hm : a.eval m = .map (some b)) (hown : w.ownsMap P k R b n D) (hn : n < maxLen) (key val : Value) (kl : Lit) (hx : a.eval x = key) (hv : a.eval v = val) (hkey : keyOf P k key = some kl)
    (d : DataW H) (ps : List MemPlace) (hval : R val = some (d, ps))
    (hK : ∀ w', w'.ownsMap P k R b (n + 1) (D.put kl d) → w.grownBy w' (some b) → K (a.put o.dst undef) w') :
    if Region.wanted o (yielded ops a.tmps) = true then Oper.wp P o a w K Q else E := by
  have hw : Region.wanted o (yielded ops a.tmps) = true := by simp [Region.wanted, hg]
  rw [if_pos hw]
  obtain ⟨w', hrun, r1, r2⟩ := hown.update Kd ht hn hkey hval
  unfold Oper.wp
  simp [execOp, hop, hm, hx, hv, hrun, Result.andThen]
  exact hK w' r1 r2

set_option maxRecDepth 100000 in
set_option maxHeartbeats 1000000 in
theorem pairs_any (w : World) : Calls Tryz.prog 12 #[] w fun e w' => ∃ bp, e = .returned (.map (some bp)) ∧ w.heap.size ≤ bp ∧ PairsAt w' bp pairsL ∧ Below w.heap.size w w' := by
  have hmm := @run_makeMap Tryz.prog
  have h8 : pairsL.length = 8 := rfl
  go_enter Tryz.func12, Tryz.ntmps12
  go_wp2_with fail
  have s1 : (w.alloc (.map #[] 0)).heap.size = w.heap.size + 1 := by simp
  have hss : Ss ((w.alloc (.map #[] 0)).alloc (.cells (svs pairsL).toArray 9)) (w.heap.size + 2) (.slice (some ⟨w.heap.size + 1, 0, none⟩) 8 8) pairsL := by
    have := sl_new (w.alloc (.map #[] 0)) (svs pairsL).toArray 9 1 8 (by simp [svs_length, h8]) (by decide)
    rw [s1] at this
    simpa [Ss] using this
  have hmap : PairsAt ((w.alloc (.map #[] 0)).alloc (.cells (svs pairsL).toArray 9)) w.heap.size [] :=
    ⟨0, .map [], Nat.zero_le _, (World.ownsMap_made w _ _ _).alloc _, pairsOf_nil⟩
  have hB : Below w.heap.size w ((w.alloc (.map #[] 0)).alloc (.cells (svs pairsL).toArray 9)) := ((Below.refl _ _).alloc (Nat.le_refl _) _).alloc (by simp) _
  have hsz : ((w.alloc (.map #[] 0)).alloc (.cells (svs pairsL).toArray 9)).heap.size = w.heap.size + 2 := by simp
  have hw2 : ∃ w2, w2 = ((w.alloc (.map #[] 0)).alloc (.cells (svs pairsL).toArray 9)) := ⟨_, rfl⟩
  obtain ⟨w2, hw2⟩ := hw2
  rw [← hw2] at hss hmap hB hsz
  have hgoalw : ((w.alloc (.map #[] 0)).alloc (.cells #[.string { data := #[45, 62] }, .string { data := #[61, 62] }, .string { data := #[60, 58] }, .string { data := #[60, 60] }, .string { data := #[60, 61] }, .string { data := #[62, 62] }, .string { data := #[61, 61] }, .string { data := #[43, 43] }] 9)) = w2 := by rw [hw2]; rfl
  rw [hgoalw]
  clear hw2 hgoalw
  go_loopw [7] (fun v7 wr => ∃ k : Nat, v7 = .int .i64 k ∧ k ≤ 8 ∧ PairsAt wr w.heap.size (pairsL.take k) ∧ Turn (fun j => j = w.heap.size) w2 wr) (fun v7 _ => 8 - (intOf v7).toNat)
  case atStart => exact ⟨0, rfl, by omega, hmap, Turn.refl _ _⟩
  case round =>
    obtain ⟨k, rfl, hk, ⟨n, D, hn, hown, hD⟩, htr⟩ := hrel
    by_cases hlt : k < 8
    · obtain ⟨A, c, hA, _, _, hx⟩ := hss.open_
      obtain ⟨b0, o0, hA2, hb0, hcell⟩ := hx (by decide)
      rw [hA2] at hA
      simp only [Value.slice.injEq, Option.some.injEq, Addr.mk.injEq, and_true] at hA
      obtain ⟨⟨rfl, rfl⟩, hjunk⟩ := hA
      clear hjunk
      have d1 := ss_cell' htr (by omega) (by omega) (hcell k (by rw [h8]; exact hlt))
      rw [Nat.zero_add] at d1
      have hnext : pairsL.take (k + 1) = pairsL.take k ++ [pairsL[k]'(by rw [h8]; exact hlt)] := List.take_succ_eq_append_getElem _
      have h2 : (pairsL[k]'(by rw [h8]; exact hlt)).length = 2 := by
        have hall : ∀ m ∈ pairsL, m.length = 2 := by decide
        exact hall _ (List.getElem_mem _)
      have hnl : (pairsL.take k).length = k := by rw [List.length_take, h8]; omega
      generalize (pairsL[k]'(by rw [h8]; exact hlt)) = m at *
      obtain ⟨a, b, rfl⟩ : ∃ a b, m = [a, b] := by
        match m, h2 with
        | [a, b], _ => exact ⟨a, b, rfl⟩
      have hix := sv_index [a, b] 0 (by simp)
      have hix1 := sv_index [a, b] 1 (by simp)
      have hszm := sv_size [a, b]
      obtain ⟨kl, hkl⟩ := key_pair a b
      have HKL := hid hkl
      have HPUT := hid (pairs_put hown.isMap hD hkl)
      have HNX := hid hnext
      have HSS := hid hss
      clear hss hmap hcell hx hkl hnext h8
      go_wp2_with fail
      refine wp_region_held_drew (S := fun _ => True) (by kernel_rfl) trivial (fun _ => ?_)
      try simp only [Act.put, List.getElem_toArray, List.getElem_cons_zero, List.getElem_cons_succ, List.setIfInBounds_toArray, List.set_cons_zero, List.set_cons_succ]
      refine wpAnyH_take (i := 0) (v := (.map (some w.heap.size))) rfl (by kernel_rfl) (by kernel_rfl) (by kernel_rfl) (fun _ _ _ h => h) (Or.inl ⟨by kernel_rfl, by intro w hSw; go_simp⟩) trivial ?_
      try simp only [Act.put, List.getElem_toArray, List.getElem_cons_zero, List.getElem_cons_succ, List.setIfInBounds_toArray, List.set_cons_zero, List.set_cons_succ]
      refine wpAnyH_take (i := 1) (v := (sv [a, b])) rfl (by kernel_rfl) (by kernel_rfl) (by kernel_rfl) (fun _ _ _ h => h) (Or.inl ⟨by kernel_rfl, by intro w hSw; go_simp⟩) trivial ?_
      try simp only [Act.put, List.getElem_toArray, List.getElem_cons_zero, List.getElem_cons_succ, List.setIfInBounds_toArray, List.set_cons_zero, List.set_cons_succ]
      refine wpAnyH_take (i := 2) (v := (.int .u8 (a.toNat : Int))) rfl (by kernel_rfl) (by kernel_rfl) (by kernel_rfl) (fun _ _ _ h => h) (Or.inl ⟨by kernel_rfl, by intro w hSw; go_simp⟩) trivial ?_
      try simp only [Act.put, List.getElem_toArray, List.getElem_cons_zero, List.getElem_cons_succ, List.setIfInBounds_toArray, List.set_cons_zero, List.set_cons_succ]
      refine wpAnyH_take (i := 3) (v := (sv [a, b])) rfl (by kernel_rfl) (by kernel_rfl) (by kernel_rfl) (fun _ _ _ h => h) (Or.inl ⟨by kernel_rfl, by intro w hSw; go_simp⟩) trivial ?_
      try simp only [Act.put, List.getElem_toArray, List.getElem_cons_zero, List.getElem_cons_succ, List.setIfInBounds_toArray, List.set_cons_zero, List.set_cons_succ]
      refine wpAnyH_take (i := 4) (v := (.int .u8 (b.toNat : Int))) rfl (by kernel_rfl) (by kernel_rfl) (by kernel_rfl) (fun _ _ _ h => h) (Or.inl ⟨by kernel_rfl, by intro w hSw; go_simp⟩) trivial ?_
      try simp only [Act.put, List.getElem_toArray, List.getElem_cons_zero, List.getElem_cons_succ, List.setIfInBounds_toArray, List.set_cons_zero, List.set_cons_succ]
      refine wpAnyH_take (i := 5) (v := (.agg #[.int .u8 (a.toNat : Int), .int .u8 (b.toNat : Int)])) rfl (by kernel_rfl) (by kernel_rfl) (by kernel_rfl) (fun _ _ _ h => h) (Or.inl ⟨by kernel_rfl, by intro w hSw; go_simp⟩) trivial ?_
      try simp only [Act.put, List.getElem_toArray, List.getElem_cons_zero, List.getElem_cons_succ, List.setIfInBounds_toArray, List.set_cons_zero, List.set_cons_succ]
      refine wpAnyH_ready (rs := [6]) (by kernel_rfl) (by simp) ?_
      refine AllReadyH.cons rfl (fun K hK => ?_) AllReadyH.nil
      refine step_update rfl _ _ _ 36 rfl 65 4 law_pair Tryz.underlying36 (plainElem Tryz.prog 4) w.heap.size n D rfl (w := wr.drew) hown (by unfold maxLen; omega) (pairV a b) _ kl rfl rfl HKL.out (.lit (.bool true)) [] (plainElem_bool Tryz.underlying4 true) (fun w6 hown6 hgrow6 => ?_)
      refine hK.out _ _ trivial (fun _ => ?_)
      clear hK K
      try simp only [Act.put, List.getElem_toArray, List.getElem_cons_zero, List.getElem_cons_succ, List.setIfInBounds_toArray, List.set_cons_zero, List.set_cons_succ]
      refine wpAnyH_done (by kernel_rfl) ?_ _
      have ht6 : Turn (fun j => j = w.heap.size) wr w6 := (Turn.drewN (fun j => j = w.heap.size) wr 1).trans (Turn.of_grown (F := fun j => j = w.heap.size) hgrow6 (fun j h => by injection h with h; exact h.symm)) (fun _ _ h => h)
      go_wp2_with fail
      go_roundw
      case rel => exact ⟨k + 1, rfl, by omega, ⟨n + 1, _, by rw [HNX.out, List.length_append]; simp only [List.length_cons, List.length_nil]; omega, hown6, by rw [HNX.out]; exact HPUT.out⟩, htr.trans ht6 (fun _ _ h => h)⟩
      case measure => simp [intOf]; omega
    · obtain rfl : k = 8 := by omega
      have hfin : PairsAt wr w.heap.size pairsL := ⟨n, D, by have := hn; simpa [h8] using this, hown, hD⟩
      have hB9 : Below w.heap.size w wr := hB.trans (htr.below hB.size (fun j hj e => by omega))
      clear hss hmap hown hD
      go_wp2_with fail
      go_ret
      exact ⟨_, rfl, Nat.le_refl _, hfin, hB9⟩
end Go.Proofs.YtpgngegdflbahaaGreatDoor
