/- ShapeDoes walked. -/
import Derived.Test.YtaokgblkhnipgaaSM
import Derived.Test.YtaokgblkhnipgaaSOP
import Derived.Test.YtaokgblkhnipgaaMR
import Derived.RegionTactic
import Derived.Deep.QuietTactic
set_option linter.unusedVariables false
namespace Go.Proofs.Ytaokgblkhnipgaa
open Go.RowKit

theorem OpAt.below {w w' : World} {B b o : Nat} {d : OpD} (h : OpAt w B b o d) (hb : Below B w w') (hlt : b < B) : OpAt w' B b o d := by
  obtain ⟨h1, h2, h3, v, h4, h5⟩ := h
  exact ⟨(hb.cell (p := ⟨b, o, none⟩) hlt).trans h1, (hb.cell (p := ⟨b, o + 1, none⟩) hlt).trans h2, (hb.cell (p := ⟨b, o + 2, none⟩) hlt).trans h3, v, (hb.cell (p := ⟨b, o + 3, none⟩) hlt).trans h4, h5.below hb⟩

/-- Both trees hold the same shapes, each in memory of its own, behind what was there. -/
def Both (w : World) (B bt br : Nat) (L : List (List Nm)) : Prop :=
  ∃ F G : Nat → Prop, TreeAt w F bt L ∧ RefAt w G br L ∧ (∀ j, F j → ¬ G j) ∧ (∀ j, F j → B ≤ j) ∧ ∀ j, G j → B ≤ j
theorem Both.below {w w' : World} {B bt br : Nat} {L : List (List Nm)} (h : Both w B bt br L) (hb : Below w.heap.size w w') : Both w' B bt br L := by
  obtain ⟨F, G, hT, hR, hd, hF, hG⟩ := h
  exact ⟨F, G, hT.turn (Turn.of_below (F := fun _ => False) hb) (fun _ _ h => h), hR.turn (Turn.of_below (F := fun _ => False) hb) (fun _ _ h => h), hd, hF, hG⟩
theorem Both.good {w : World} {B bt br : Nat} {L : List (List Nm)} (h : Both w B bt br L) : Good L := by
  obtain ⟨F, G, hT, _⟩ := h
  exact hT.good
/-- One call on each. -/
theorem both_step {w0 w w1 w2 : World} {B bt br : Nat} {L L' : List (List Nm)} {F G F' G' : Nat → Prop} (hT : TreeAt w F bt L) (hR : RefAt w G br L) (hd : ∀ j, F j → ¬ G j) (hF : ∀ j, F j → B ≤ j) (hG : ∀ j, G j → B ≤ j)
    (hT1 : TreeAt w1 F' bt L') (t1 : Turn F w w1) (n1 : ∀ j, F' j → F j ∨ w.heap.size ≤ j) (hR2 : RefAt w2 G' br L') (t2 : Turn G w1 w2) (n2 : ∀ j, G' j → G j ∨ w1.heap.size ≤ j) (hB : Below B w0 w) (hs : B ≤ w.heap.size) :
    Both w2 B bt br L' ∧ Below B w0 w2 := by
  have hGl := hR.lt
  have hFl := hT1.lt
  have s1 := t1.size
  have dd : ∀ j, F' j → ¬ G j := fun j h hg => by
    rcases n1 j h with h | h
    · exact hd j h hg
    · have := hGl j hg; omega
  refine ⟨⟨F', G', hT1.turn t2 dd, hR2, fun j h hg => ?_, fun j h => ?_, fun j h => ?_⟩, ?_⟩
  · rcases n2 j hg with hg | hg
    · exact dd j h hg
    · have := hFl j h; omega
  · rcases n1 j h with h | h
    · exact hF j h
    · omega
  · rcases n2 j h with h | h
    · exact hG j h
    · omega
  · exact (hB.trans (t1.below hs (fun k hk h => by have := hF k h; omega))).trans (t2.below (by omega) (fun k hk h => by have := hG k h; omega))

theorem addL_len {L : List (List Nm)} (hG : Good L) (s : Int) {x : Nm} (hx : x.length ≤ maxLen) : L.length ≤ (addL L s x).1.length ∧ (addL L s x).1.length ≤ L.length + 1 := by
  by_cases hs : 0 ≤ s ∧ s < L.length
  · obtain ⟨k, rfl⟩ : ∃ k : Nat, s = k := ⟨s.toNat, by omega⟩
    rw [addL_in (by omega)]
    obtain ⟨_, _, a, b⟩ := addT_good hG (s := k) (by omega) hx
    exact ⟨a, b⟩
  · have hv : addL L s x = (L, 0, 1) := by unfold addL; rw [if_neg hs]
    rw [hv]; exact ⟨Nat.le_refl _, Nat.le_succ _⟩
theorem ofT_len2 {L : List (List Nm)} (hG : Good L) {l : List Nm} (hm : ∀ y ∈ l, y.length ≤ maxLen) : (ofT (L, 0) l).1.length ≤ L.length + l.length := by
  have := (ofT_good hG hG.pos hm l.length (Nat.le_refl _)).2.2.2
  rwa [List.take_length] at this

def DoesRel (w : World) (bt br k : Nat) (wr : World) : Prop := ∃ L, Both wr w.heap.size bt br L ∧ Below w.heap.size w wr ∧ L.length ≤ 1 + 50 * k

set_option maxRecDepth 100000 in
set_option maxHeartbeats 1000000 in
theorem shapeDoes_any (v : Value) (l : List OpD) (nm : ByteArray) (w : World) (hv : OpsAt w w.heap.size v l) (hok : ∀ o ∈ l, o.Ok) (hnm : nm.size ≤ maxLen) :
    Calls Try.prog 5 #[v, .string nm] w fun e w' => e = .returned (.bool true) ∧ Below w.heap.size w w' := by
  obtain ⟨x, hx0, hxl⟩ : ∃ x : Nm, Value.string nm = sv x ∧ x.length ≤ maxLen := ⟨nm.data.toList, sv_of nm, by
    have e : nm.data.toList.length = nm.size := Array.length_toList
    rw [e]; exact hnm⟩
  rw [hx0]
  clear hx0 hnm
  obtain ⟨A, c, rfl, hn, hc, hx⟩ := hv
  unfold maxLen at hc
  go_enter Try.func5, Try.ntmps5
  go_wp2_with fail
  refine (awake_any _).mono ?_
  rintro e w1 ⟨rfl, hb1⟩
  go_wp2_with fail
  refine (new_any _).mono ?_
  rintro e w2 ⟨F, bt, rfl, hT, hF, hb2⟩
  have hB2 := bthen hb1 hb2
  by_cases h60 : (100 : Int) < l.length
  · go_wp2_with fail
    go_ret
    exact ⟨rfl, hB2⟩
  have hF0 : ∀ k, F k → w.heap.size ≤ k := fun k hk => Nat.le_trans hb1.size (hF k hk)
  go_wp2_with fail
  refine (refnew_any _).mono ?_
  rintro e w3 ⟨G, br, rfl, hR, hG, hb3⟩
  have hB3 := bthen hB2 hb3
  have hrel0 : DoesRel w bt br 0 w3 := ⟨[[]], ⟨F, G, hT.turn (Turn.of_below (F := fun _ => False) hb3) (fun _ _ h => h), hR, fun j h hg => by have := hT.lt j h; have := hG j hg; omega, hF0, fun j h => by have := hG j h; have := hB2.size; omega⟩, hB3, by simp⟩
  clear hT hF hb1 hb2 hB2 hF0 hR hG hb3 hB3
  have HX := hid hx
  have HOK := hid hok
  have HXL := hid hxl
  clear hx hok hxl
  go_wp2_with fail
  go_loopw [8] (fun v8 wr => ∃ k : Nat, v8 = .int .i64 k ∧ k ≤ l.length ∧ DoesRel w bt br k wr) (fun v8 _ => l.length - (intOf v8).toNat)
  case atStart => exact ⟨0, rfl, by omega, hrel0⟩
  case round =>
    obtain ⟨k, rfl, hk, L, hboth, hB, hLn⟩ := hrel
    by_cases hlt : k < l.length
    · obtain ⟨b, o, rfl, hb, hop⟩ := HX.out (by omega)
      have hopk := (hop k hlt).below hB hb
      have hokk := HOK.out _ (List.getElem_mem hlt)
      clear hop
      generalize l[k] = op at *
      obtain ⟨s, x1, q, names⟩ := op
      obtain ⟨d0, d1, d2, v3, d3, hss⟩ := hopk
      obtain ⟨hx1, hm⟩ := hokk
      simp only at d0 d1 d2 d3 hss hx1 hm
      have hss2 : Ss wr wr.heap.size v3 names := hss.more hB.size
      obtain ⟨A3, c3, rfl, _, hc3, hx3⟩ := hss.open_
      unfold maxLen at hc3
      by_cases h50 : (50 : Int) < names.length
      · go_wp2_with fail
        go_ret
        exact ⟨rfl, hB⟩
      · obtain ⟨F, G, hT, hR, hd, hF, hG⟩ := hboth
        have hgood := hT.good
        cases q with
        | true =>
          have hlen2 := ofT_len2 hgood hm
          have hdF : ∀ (K : Nat → Prop), (∀ j, K j → w.heap.size ≤ j) → 0 < names.length → ∀ g, Value.ownBlock (.slice A3 names.length c3) = some g → ¬ K g := by
            intro K hK h0 g hg
            obtain ⟨b, o, rfl, hb, _⟩ := hx3 h0
            simp only [Value.ownBlock, Option.some.injEq] at hg
            subst hg
            exact fun h => by have := hK b h; omega
          have HD := hid hdF
          have HM := hid hm
          clear hdF hx3 hm
          go_wp2_with fail
          refine (of_any F bt L _ names _ hT hss2 (HD.out F hF) HM.out (by omega)).mono ?_
          rintro e w4 ⟨F4, rfl, hT4, t4, n4⟩
          have hb4 := t4.below hB.size (fun k hk h => by have := hF k h; omega)
          have hss4 := (hss.below hb4).more (Nat.le_trans hB.size t4.size)
          have d34 := (hb4.cell (p := ⟨b, o + k * 4 + 3, none⟩) hb).trans d3
          go_wp2_with fail
          refine (refof_any G br L _ names _ (hR.turn t4 (fun j h hf => hd j hf h)) hgood hss4 (HD.out G hG) HM.out (by omega)).mono ?_
          rintro e w5 ⟨G5, rfl, hR5, t5, n5⟩
          obtain ⟨hboth, hB5⟩ := both_step hT hR hd hF hG hT4 t4 n4 hR5 t5 n5 hB hB.size
          have HBOTH := hid hboth
          clear hT hR hd hF hG hT4 t4 n4 hR5 t5 n5 hboth hss hss2 hss4
          generalize ofT (L, 0) names = T2 at *
          go_wp2_with fail
          go_roundw
          case rel => exact ⟨k + 1, rfl, by omega, _, HBOTH.out, hB5, by omega⟩
          case measure => simp [intOf]; omega
        | false =>
          have hlen2 := addL_len hgood s hx1
          clear hss hss2 hx3 hm
          go_wp2_with fail
          have hS0 : wr.drew.cell? ⟨b, o + k * 4, none⟩ = some (.int .i64 s) ∧ wr.drew.cell? ⟨b, o + k * 4 + 1, none⟩ = some (sv x1) := ⟨d0, d1⟩
          refine wp_region_held_drew (S := fun w' => w'.cell? ⟨b, o + k * 4, none⟩ = some (.int .i64 s) ∧ w'.cell? ⟨b, o + k * 4 + 1, none⟩ = some (sv x1)) (by kernel_rfl) hS0 (fun _ => ?_)
          try simp only [Act.put, List.getElem_toArray, List.getElem_cons_zero, List.getElem_cons_succ, List.setIfInBounds_toArray, List.set_cons_zero, List.set_cons_succ]
          refine wpAnyH_take (i := 0) (v := (.pointer (some ⟨bt, 0, none⟩))) rfl (by kernel_rfl) (by kernel_rfl) (by kernel_rfl) (fun _ _ _ h => h) (Or.inl ⟨by kernel_rfl, by intro w hSw; obtain ⟨hSw0, hSw1⟩ := hSw; go_simp⟩) hS0 ?_
          try simp only [Act.put, List.getElem_toArray, List.getElem_cons_zero, List.getElem_cons_succ, List.setIfInBounds_toArray, List.set_cons_zero, List.set_cons_succ]
          refine wpAnyH_take (i := 1) (v := (.slice (some ⟨b, o, none⟩) l.length c)) rfl (by kernel_rfl) (by kernel_rfl) (by kernel_rfl) (fun _ _ _ h => h) (Or.inl ⟨by kernel_rfl, by intro w hSw; obtain ⟨hSw0, hSw1⟩ := hSw; go_simp⟩) hS0 ?_
          try simp only [Act.put, List.getElem_toArray, List.getElem_cons_zero, List.getElem_cons_succ, List.setIfInBounds_toArray, List.set_cons_zero, List.set_cons_succ]
          refine wpAnyH_take (i := 2) (v := (.int .i64 k)) rfl (by kernel_rfl) (by kernel_rfl) (by kernel_rfl) (fun _ _ _ h => h) (Or.inl ⟨by kernel_rfl, by intro w hSw; obtain ⟨hSw0, hSw1⟩ := hSw; go_simp⟩) hS0 ?_
          try simp only [Act.put, List.getElem_toArray, List.getElem_cons_zero, List.getElem_cons_succ, List.setIfInBounds_toArray, List.set_cons_zero, List.set_cons_succ]
          refine wpAnyH_take (i := 3) (v := (.pointer (some ⟨b, o + k * 4, none⟩))) rfl (by kernel_rfl) (by kernel_rfl) (by kernel_rfl) (fun _ _ _ h => h) (Or.inl ⟨by kernel_rfl, by intro w hSw; obtain ⟨hSw0, hSw1⟩ := hSw; go_simp⟩) hS0 ?_
          try simp only [Act.put, List.getElem_toArray, List.getElem_cons_zero, List.getElem_cons_succ, List.setIfInBounds_toArray, List.set_cons_zero, List.set_cons_succ]
          refine wpAnyH_take (i := 4) (v := (.pointer (some ⟨b, o + k * 4, none⟩))) rfl (by kernel_rfl) (by kernel_rfl) (by kernel_rfl) (fun _ _ _ h => h) (Or.inl ⟨by kernel_rfl, by intro w hSw; obtain ⟨hSw0, hSw1⟩ := hSw; go_simp⟩) hS0 ?_
          try simp only [Act.put, List.getElem_toArray, List.getElem_cons_zero, List.getElem_cons_succ, List.setIfInBounds_toArray, List.set_cons_zero, List.set_cons_succ]
          refine wpAnyH_take (i := 5) (v := (.int .i64 s)) rfl (by kernel_rfl) (by kernel_rfl) (by kernel_rfl) (fun _ _ _ h => h) (Or.inl ⟨by kernel_rfl, by intro w hSw; obtain ⟨hSw0, hSw1⟩ := hSw; go_simp⟩) hS0 ?_
          try simp only [Act.put, List.getElem_toArray, List.getElem_cons_zero, List.getElem_cons_succ, List.setIfInBounds_toArray, List.set_cons_zero, List.set_cons_succ]
          refine wpAnyH_take (i := 6) (v := (.slice (some ⟨b, o, none⟩) l.length c)) rfl (by kernel_rfl) (by kernel_rfl) (by kernel_rfl) (fun _ _ _ h => h) (Or.inl ⟨by kernel_rfl, by intro w hSw; obtain ⟨hSw0, hSw1⟩ := hSw; go_simp⟩) hS0 ?_
          try simp only [Act.put, List.getElem_toArray, List.getElem_cons_zero, List.getElem_cons_succ, List.setIfInBounds_toArray, List.set_cons_zero, List.set_cons_succ]
          refine wpAnyH_take (i := 7) (v := (.int .i64 k)) rfl (by kernel_rfl) (by kernel_rfl) (by kernel_rfl) (fun _ _ _ h => h) (Or.inl ⟨by kernel_rfl, by intro w hSw; obtain ⟨hSw0, hSw1⟩ := hSw; go_simp⟩) hS0 ?_
          try simp only [Act.put, List.getElem_toArray, List.getElem_cons_zero, List.getElem_cons_succ, List.setIfInBounds_toArray, List.set_cons_zero, List.set_cons_succ]
          refine wpAnyH_take (i := 8) (v := (.pointer (some ⟨b, o + k * 4, none⟩))) rfl (by kernel_rfl) (by kernel_rfl) (by kernel_rfl) (fun _ _ _ h => h) (Or.inl ⟨by kernel_rfl, by intro w hSw; obtain ⟨hSw0, hSw1⟩ := hSw; go_simp⟩) hS0 ?_
          try simp only [Act.put, List.getElem_toArray, List.getElem_cons_zero, List.getElem_cons_succ, List.setIfInBounds_toArray, List.set_cons_zero, List.set_cons_succ]
          refine wpAnyH_take (i := 9) (v := (.pointer (some ⟨b, o + k * 4 + 1, none⟩))) rfl (by kernel_rfl) (by kernel_rfl) (by kernel_rfl) (fun _ _ _ h => h) (Or.inl ⟨by kernel_rfl, by intro w hSw; obtain ⟨hSw0, hSw1⟩ := hSw; go_simp⟩) hS0 ?_
          try simp only [Act.put, List.getElem_toArray, List.getElem_cons_zero, List.getElem_cons_succ, List.setIfInBounds_toArray, List.set_cons_zero, List.set_cons_succ]
          refine wpAnyH_take (i := 10) (v := (sv x1)) rfl (by kernel_rfl) (by kernel_rfl) (by kernel_rfl) (fun _ _ _ h => h) (Or.inl ⟨by kernel_rfl, by intro w hSw; obtain ⟨hSw0, hSw1⟩ := hSw; go_simp⟩) hS0 ?_
          try simp only [Act.put, List.getElem_toArray, List.getElem_cons_zero, List.getElem_cons_succ, List.setIfInBounds_toArray, List.set_cons_zero, List.set_cons_succ]
          refine wpAnyH_ready (rs := [11]) (by kernel_rfl) (by simp) ?_
          refine AllReadyH.cons rfl (fun K hK => ?_) AllReadyH.nil
          go_simp
          refine (add_any F bt L s x1 _ (hT.turn (Turn.drewN (fun _ => False) wr 1) (fun _ _ h => h)) hx1 (by omega)).mono ?_
          rintro e w4 ⟨F4, rfl, hT4, t4, n4⟩
          have t4' : Turn F wr w4 := (Turn.drewN F wr 1).trans t4 (fun _ _ h => h)
          have hb4 := t4'.below hB.size (fun j hj h => by have := hF j h; omega)
          have hS4 : w4.cell? ⟨b, o + k * 4, none⟩ = some (.int .i64 s) ∧ w4.cell? ⟨b, o + k * 4 + 1, none⟩ = some (sv x1) := ⟨(hb4.cell (p := ⟨b, o + k * 4, none⟩) hb).trans d0, (hb4.cell (p := ⟨b, o + k * 4 + 1, none⟩) hb).trans d1⟩
          refine hK.out _ _ hS4 (fun _ => ?_)
          clear hK K
          try simp only [Act.put, List.getElem_toArray, List.getElem_cons_zero, List.getElem_cons_succ, List.setIfInBounds_toArray, List.set_cons_zero, List.set_cons_succ]
          refine wpAnyH_take (i := 12) (v := (.tuple #[.int .i64 (addL L s x1).2.1, .int .i64 (addL L s x1).2.2])) rfl (by kernel_rfl) (by kernel_rfl) (by kernel_rfl) (fun _ _ _ h => h) (Or.inl ⟨by kernel_rfl, by intro w hSw; obtain ⟨hSw0, hSw1⟩ := hSw; go_simp⟩) hS4 ?_
          try simp only [Act.put, List.getElem_toArray, List.getElem_cons_zero, List.getElem_cons_succ, List.setIfInBounds_toArray, List.set_cons_zero, List.set_cons_succ]
          refine wpAnyH_take (i := 13) (v := (.int .i64 (addL L s x1).2.1)) rfl (by kernel_rfl) (by kernel_rfl) (by kernel_rfl) (fun _ _ _ h => h) (Or.inl ⟨by kernel_rfl, by intro w hSw; obtain ⟨hSw0, hSw1⟩ := hSw; go_simp⟩) hS4 ?_
          try simp only [Act.put, List.getElem_toArray, List.getElem_cons_zero, List.getElem_cons_succ, List.setIfInBounds_toArray, List.set_cons_zero, List.set_cons_succ]
          refine wpAnyH_take (i := 14) (v := (.int .i64 (addL L s x1).2.2)) rfl (by kernel_rfl) (by kernel_rfl) (by kernel_rfl) (fun _ _ _ h => h) (Or.inl ⟨by kernel_rfl, by intro w hSw; obtain ⟨hSw0, hSw1⟩ := hSw; go_simp⟩) hS4 ?_
          try simp only [Act.put, List.getElem_toArray, List.getElem_cons_zero, List.getElem_cons_succ, List.setIfInBounds_toArray, List.set_cons_zero, List.set_cons_succ]
          refine wpAnyH_take (i := 15) (v := (.int .i64 (addL L s x1).2.1)) rfl (by kernel_rfl) (by kernel_rfl) (by kernel_rfl) (fun _ _ _ h => h) (Or.inl ⟨by kernel_rfl, by intro w hSw; obtain ⟨hSw0, hSw1⟩ := hSw; go_simp⟩) hS4 ?_
          try simp only [Act.put, List.getElem_toArray, List.getElem_cons_zero, List.getElem_cons_succ, List.setIfInBounds_toArray, List.set_cons_zero, List.set_cons_succ]
          refine wpAnyH_take (i := 16) (v := (.int .i64 (addL L s x1).2.2)) rfl (by kernel_rfl) (by kernel_rfl) (by kernel_rfl) (fun _ _ _ h => h) (Or.inl ⟨by kernel_rfl, by intro w hSw; obtain ⟨hSw0, hSw1⟩ := hSw; go_simp⟩) hS4 ?_
          try simp only [Act.put, List.getElem_toArray, List.getElem_cons_zero, List.getElem_cons_succ, List.setIfInBounds_toArray, List.set_cons_zero, List.set_cons_succ]
          refine wpAnyH_done (by kernel_rfl) ?_ _
          have n4' : ∀ j, F4 j → F j ∨ wr.heap.size ≤ j := n4
          have d04 := hS4.1
          have d14 := hS4.2
          have hR4 := hR.turn t4' (fun j h hf => hd j hf h)
          go_wp2_with fail
          have hS5 : w4.drew.cell? ⟨b, o + k * 4, none⟩ = some (.int .i64 s) ∧ w4.drew.cell? ⟨b, o + k * 4 + 1, none⟩ = some (sv x1) := hS4
          refine wp_region_held_drew (S := fun w' => w'.cell? ⟨b, o + k * 4, none⟩ = some (.int .i64 s) ∧ w'.cell? ⟨b, o + k * 4 + 1, none⟩ = some (sv x1)) (by kernel_rfl) hS5 (fun _ => ?_)
          try simp only [Act.put, List.getElem_toArray, List.getElem_cons_zero, List.getElem_cons_succ, List.setIfInBounds_toArray, List.set_cons_zero, List.set_cons_succ]
          refine wpAnyH_take (i := 0) (v := (.pointer (some ⟨br, 0, none⟩))) rfl (by kernel_rfl) (by kernel_rfl) (by kernel_rfl) (fun _ _ _ h => h) (Or.inl ⟨by kernel_rfl, by intro w hSw; obtain ⟨hSw0, hSw1⟩ := hSw; go_simp⟩) hS5 ?_
          try simp only [Act.put, List.getElem_toArray, List.getElem_cons_zero, List.getElem_cons_succ, List.setIfInBounds_toArray, List.set_cons_zero, List.set_cons_succ]
          refine wpAnyH_take (i := 1) (v := (.slice (some ⟨b, o, none⟩) l.length c)) rfl (by kernel_rfl) (by kernel_rfl) (by kernel_rfl) (fun _ _ _ h => h) (Or.inl ⟨by kernel_rfl, by intro w hSw; obtain ⟨hSw0, hSw1⟩ := hSw; go_simp⟩) hS5 ?_
          try simp only [Act.put, List.getElem_toArray, List.getElem_cons_zero, List.getElem_cons_succ, List.setIfInBounds_toArray, List.set_cons_zero, List.set_cons_succ]
          refine wpAnyH_take (i := 2) (v := (.int .i64 k)) rfl (by kernel_rfl) (by kernel_rfl) (by kernel_rfl) (fun _ _ _ h => h) (Or.inl ⟨by kernel_rfl, by intro w hSw; obtain ⟨hSw0, hSw1⟩ := hSw; go_simp⟩) hS5 ?_
          try simp only [Act.put, List.getElem_toArray, List.getElem_cons_zero, List.getElem_cons_succ, List.setIfInBounds_toArray, List.set_cons_zero, List.set_cons_succ]
          refine wpAnyH_take (i := 3) (v := (.pointer (some ⟨b, o + k * 4, none⟩))) rfl (by kernel_rfl) (by kernel_rfl) (by kernel_rfl) (fun _ _ _ h => h) (Or.inl ⟨by kernel_rfl, by intro w hSw; obtain ⟨hSw0, hSw1⟩ := hSw; go_simp⟩) hS5 ?_
          try simp only [Act.put, List.getElem_toArray, List.getElem_cons_zero, List.getElem_cons_succ, List.setIfInBounds_toArray, List.set_cons_zero, List.set_cons_succ]
          refine wpAnyH_take (i := 4) (v := (.pointer (some ⟨b, o + k * 4, none⟩))) rfl (by kernel_rfl) (by kernel_rfl) (by kernel_rfl) (fun _ _ _ h => h) (Or.inl ⟨by kernel_rfl, by intro w hSw; obtain ⟨hSw0, hSw1⟩ := hSw; go_simp⟩) hS5 ?_
          try simp only [Act.put, List.getElem_toArray, List.getElem_cons_zero, List.getElem_cons_succ, List.setIfInBounds_toArray, List.set_cons_zero, List.set_cons_succ]
          refine wpAnyH_take (i := 5) (v := (.int .i64 s)) rfl (by kernel_rfl) (by kernel_rfl) (by kernel_rfl) (fun _ _ _ h => h) (Or.inl ⟨by kernel_rfl, by intro w hSw; obtain ⟨hSw0, hSw1⟩ := hSw; go_simp⟩) hS5 ?_
          try simp only [Act.put, List.getElem_toArray, List.getElem_cons_zero, List.getElem_cons_succ, List.setIfInBounds_toArray, List.set_cons_zero, List.set_cons_succ]
          refine wpAnyH_take (i := 6) (v := (.slice (some ⟨b, o, none⟩) l.length c)) rfl (by kernel_rfl) (by kernel_rfl) (by kernel_rfl) (fun _ _ _ h => h) (Or.inl ⟨by kernel_rfl, by intro w hSw; obtain ⟨hSw0, hSw1⟩ := hSw; go_simp⟩) hS5 ?_
          try simp only [Act.put, List.getElem_toArray, List.getElem_cons_zero, List.getElem_cons_succ, List.setIfInBounds_toArray, List.set_cons_zero, List.set_cons_succ]
          refine wpAnyH_take (i := 7) (v := (.int .i64 k)) rfl (by kernel_rfl) (by kernel_rfl) (by kernel_rfl) (fun _ _ _ h => h) (Or.inl ⟨by kernel_rfl, by intro w hSw; obtain ⟨hSw0, hSw1⟩ := hSw; go_simp⟩) hS5 ?_
          try simp only [Act.put, List.getElem_toArray, List.getElem_cons_zero, List.getElem_cons_succ, List.setIfInBounds_toArray, List.set_cons_zero, List.set_cons_succ]
          refine wpAnyH_take (i := 8) (v := (.pointer (some ⟨b, o + k * 4, none⟩))) rfl (by kernel_rfl) (by kernel_rfl) (by kernel_rfl) (fun _ _ _ h => h) (Or.inl ⟨by kernel_rfl, by intro w hSw; obtain ⟨hSw0, hSw1⟩ := hSw; go_simp⟩) hS5 ?_
          try simp only [Act.put, List.getElem_toArray, List.getElem_cons_zero, List.getElem_cons_succ, List.setIfInBounds_toArray, List.set_cons_zero, List.set_cons_succ]
          refine wpAnyH_take (i := 9) (v := (.pointer (some ⟨b, o + k * 4 + 1, none⟩))) rfl (by kernel_rfl) (by kernel_rfl) (by kernel_rfl) (fun _ _ _ h => h) (Or.inl ⟨by kernel_rfl, by intro w hSw; obtain ⟨hSw0, hSw1⟩ := hSw; go_simp⟩) hS5 ?_
          try simp only [Act.put, List.getElem_toArray, List.getElem_cons_zero, List.getElem_cons_succ, List.setIfInBounds_toArray, List.set_cons_zero, List.set_cons_succ]
          refine wpAnyH_take (i := 10) (v := (sv x1)) rfl (by kernel_rfl) (by kernel_rfl) (by kernel_rfl) (fun _ _ _ h => h) (Or.inl ⟨by kernel_rfl, by intro w hSw; obtain ⟨hSw0, hSw1⟩ := hSw; go_simp⟩) hS5 ?_
          try simp only [Act.put, List.getElem_toArray, List.getElem_cons_zero, List.getElem_cons_succ, List.setIfInBounds_toArray, List.set_cons_zero, List.set_cons_succ]
          refine wpAnyH_ready (rs := [11]) (by kernel_rfl) (by simp) ?_
          refine AllReadyH.cons rfl (fun K hK => ?_) AllReadyH.nil
          go_simp
          refine (refadd_any G br L s x1 _ (hR4.turn (Turn.drewN (fun _ => False) w4 1) (fun _ _ h => h)) hgood (by omega)).mono ?_
          rintro e w5 ⟨G5, rfl, hR5, t5, n5⟩
          have t5' : Turn G w4 w5 := (Turn.drewN G w4 1).trans t5 (fun _ _ h => h)
          have hb5 := t5'.below (Nat.le_trans hB.size t4'.size) (fun j hj h => by have := hG j h; omega)
          have hS6 : w5.cell? ⟨b, o + k * 4, none⟩ = some (.int .i64 s) ∧ w5.cell? ⟨b, o + k * 4 + 1, none⟩ = some (sv x1) := ⟨(hb5.cell (p := ⟨b, o + k * 4, none⟩) hb).trans d04, (hb5.cell (p := ⟨b, o + k * 4 + 1, none⟩) hb).trans d14⟩
          refine hK.out _ _ hS6 (fun _ => ?_)
          clear hK K
          try simp only [Act.put, List.getElem_toArray, List.getElem_cons_zero, List.getElem_cons_succ, List.setIfInBounds_toArray, List.set_cons_zero, List.set_cons_succ]
          refine wpAnyH_take (i := 12) (v := (.tuple #[.int .i64 (addL L s x1).2.1, .int .i64 (addL L s x1).2.2])) rfl (by kernel_rfl) (by kernel_rfl) (by kernel_rfl) (fun _ _ _ h => h) (Or.inl ⟨by kernel_rfl, by intro w hSw; obtain ⟨hSw0, hSw1⟩ := hSw; go_simp⟩) hS6 ?_
          try simp only [Act.put, List.getElem_toArray, List.getElem_cons_zero, List.getElem_cons_succ, List.setIfInBounds_toArray, List.set_cons_zero, List.set_cons_succ]
          refine wpAnyH_take (i := 13) (v := (.int .i64 (addL L s x1).2.1)) rfl (by kernel_rfl) (by kernel_rfl) (by kernel_rfl) (fun _ _ _ h => h) (Or.inl ⟨by kernel_rfl, by intro w hSw; obtain ⟨hSw0, hSw1⟩ := hSw; go_simp⟩) hS6 ?_
          try simp only [Act.put, List.getElem_toArray, List.getElem_cons_zero, List.getElem_cons_succ, List.setIfInBounds_toArray, List.set_cons_zero, List.set_cons_succ]
          refine wpAnyH_take (i := 14) (v := (.int .i64 (addL L s x1).2.2)) rfl (by kernel_rfl) (by kernel_rfl) (by kernel_rfl) (fun _ _ _ h => h) (Or.inl ⟨by kernel_rfl, by intro w hSw; obtain ⟨hSw0, hSw1⟩ := hSw; go_simp⟩) hS6 ?_
          try simp only [Act.put, List.getElem_toArray, List.getElem_cons_zero, List.getElem_cons_succ, List.setIfInBounds_toArray, List.set_cons_zero, List.set_cons_succ]
          refine wpAnyH_take (i := 15) (v := (.int .i64 (addL L s x1).2.1)) rfl (by kernel_rfl) (by kernel_rfl) (by kernel_rfl) (fun _ _ _ h => h) (Or.inl ⟨by kernel_rfl, by intro w hSw; obtain ⟨hSw0, hSw1⟩ := hSw; go_simp⟩) hS6 ?_
          try simp only [Act.put, List.getElem_toArray, List.getElem_cons_zero, List.getElem_cons_succ, List.setIfInBounds_toArray, List.set_cons_zero, List.set_cons_succ]
          refine wpAnyH_take (i := 16) (v := (.int .i64 (addL L s x1).2.2)) rfl (by kernel_rfl) (by kernel_rfl) (by kernel_rfl) (fun _ _ _ h => h) (Or.inl ⟨by kernel_rfl, by intro w hSw; obtain ⟨hSw0, hSw1⟩ := hSw; go_simp⟩) hS6 ?_
          try simp only [Act.put, List.getElem_toArray, List.getElem_cons_zero, List.getElem_cons_succ, List.setIfInBounds_toArray, List.set_cons_zero, List.set_cons_succ]
          refine wpAnyH_done (by kernel_rfl) ?_ _
          have n5' : ∀ j, G5 j → G j ∨ w4.heap.size ≤ j := n5
          obtain ⟨hboth, hB5⟩ := both_step hT hR hd hF hG hT4 t4' n4' hR5 t5' n5' hB hB.size
          have HBOTH := hid hboth
          clear hT hR hd hF hG hT4 t4 n4 hR5 t5 n5 hboth t4' t5' n4' n5' hR4 hS4 hS5 hS6 hS0
          generalize addL L s x1 = T2 at *
          go_wp2_with fail
          go_roundw
          case rel => exact ⟨k + 1, rfl, by omega, _, HBOTH.out, hB5, by omega⟩
          case measure => simp [intOf]; omega
    · obtain rfl : k = l.length := by omega
      obtain ⟨wo, hwo⟩ : ∃ wo, wo = wr := ⟨wr, rfl⟩
      subst hwo
      obtain ⟨F, G, hT, hR, hd, hF, hG⟩ := hboth
      obtain ⟨R, va, rows, hI⟩ := hR
      obtain ⟨gr, cr, rfl, hmr, hc0, hsh⟩ := hI.read
      clear hsh HX HOK hrel0
      unfold maxLen at hmr
      go_wp2_with fail
      go_quiet ((go_at_call 17; exact Calls.quiet_of_same (len_any F bt L _ (hT.turn (Turn.drewN (fun _ => False) _ _) (fun _ _ h => h)))))
      go_wp2_with fail
      go_loopw [17] (fun v17 wq => ∃ k : Nat, v17 = .int .i64 k ∧ k ≤ L.length ∧ Below wo.heap.size wo wq) (fun v17 _ => L.length - (intOf v17).toNat)
      case atStart => exact ⟨0, rfl, by omega, below_drawn _ _⟩
      case round =>
        obtain ⟨k, rfl, hk, hbq⟩ := hrel
        have hTq := hT.turn (Turn.of_below (F := fun _ => False) hbq) (fun _ _ h => h)
        have hIq := hI.turn (Turn.of_below (F := fun _ => False) hbq) (fun _ _ h => h)
        obtain ⟨g', c', hva, _, hc0q, hshq⟩ := hIq.read
        obtain ⟨rfl, rfl⟩ : gr = g' ∧ cr = c' := by simpa using hva
        by_cases hlt : k < L.length
        · obtain ⟨vk, hrk, hck, hslk⟩ := hshq k hlt
          have hssk : Ss wr wr.heap.size vk (L.getD k []) := hslk.1
          have hbr := hIq.lt br hIq.fbr
          have hgr := hIq.lt gr (hIq.fva gr rfl).1
          have hnm := namesL_in hlt
          clear hshq hslk hva hrk
          generalize L.getD k [] = lk at *
          go_wp2_with fail
          have hS0 : wr.drew.cell? ⟨br, 0, none⟩ = some (.slice (some ⟨gr, 0, none⟩) L.length cr) ∧ wr.drew.cell? ⟨gr, k, none⟩ = some vk := ⟨hc0q, hck⟩
          have hTd := hTq.turn (Turn.drewN (fun _ => False) wr 1) (fun _ _ h => h)
          have hssd : Ss wr.drew wr.drew.heap.size vk lk := hssk
          refine wp_region_held_drew (S := fun w' => w'.cell? ⟨br, 0, none⟩ = some (.slice (some ⟨gr, 0, none⟩) L.length cr) ∧ w'.cell? ⟨gr, k, none⟩ = some vk) (by kernel_rfl) hS0 (fun _ => ?_)
          try simp only [Act.put, List.getElem_toArray, List.getElem_cons_zero, List.getElem_cons_succ, List.setIfInBounds_toArray, List.set_cons_zero, List.set_cons_succ]
          refine wpAnyH_take (i := 0) (v := (.pointer (some ⟨bt, 0, none⟩))) rfl (by kernel_rfl) (by kernel_rfl) (by kernel_rfl) (fun _ _ _ h => h) (Or.inl ⟨by kernel_rfl, by intro w hSw; obtain ⟨hSw0, hSw1⟩ := hSw; go_simp⟩) hS0 ?_
          try simp only [Act.put, List.getElem_toArray, List.getElem_cons_zero, List.getElem_cons_succ, List.setIfInBounds_toArray, List.set_cons_zero, List.set_cons_succ]
          refine wpAnyH_take (i := 1) (v := (.int .i64 k)) rfl (by kernel_rfl) (by kernel_rfl) (by kernel_rfl) (fun _ _ _ h => h) (Or.inl ⟨by kernel_rfl, by intro w hSw; obtain ⟨hSw0, hSw1⟩ := hSw; go_simp⟩) hS0 ?_
          try simp only [Act.put, List.getElem_toArray, List.getElem_cons_zero, List.getElem_cons_succ, List.setIfInBounds_toArray, List.set_cons_zero, List.set_cons_succ]
          refine wpAnyH_take (i := 3) (v := (.pointer (some ⟨br, 0, none⟩))) rfl (by kernel_rfl) (by kernel_rfl) (by kernel_rfl) (fun _ _ _ h => h) (Or.inl ⟨by kernel_rfl, by intro w hSw; obtain ⟨hSw0, hSw1⟩ := hSw; go_simp⟩) hS0 ?_
          try simp only [Act.put, List.getElem_toArray, List.getElem_cons_zero, List.getElem_cons_succ, List.setIfInBounds_toArray, List.set_cons_zero, List.set_cons_succ]
          refine wpAnyH_take (i := 4) (v := (.pointer (some ⟨br, 0, none⟩))) rfl (by kernel_rfl) (by kernel_rfl) (by kernel_rfl) (fun _ _ _ h => h) (Or.inl ⟨by kernel_rfl, by intro w hSw; obtain ⟨hSw0, hSw1⟩ := hSw; go_simp⟩) hS0 ?_
          try simp only [Act.put, List.getElem_toArray, List.getElem_cons_zero, List.getElem_cons_succ, List.setIfInBounds_toArray, List.set_cons_zero, List.set_cons_succ]
          refine wpAnyH_take (i := 5) (v := (.pointer (some ⟨br, 0, none⟩))) rfl (by kernel_rfl) (by kernel_rfl) (by kernel_rfl) (fun _ _ _ h => h) (Or.inl ⟨by kernel_rfl, by intro w hSw; obtain ⟨hSw0, hSw1⟩ := hSw; go_simp⟩) hS0 ?_
          try simp only [Act.put, List.getElem_toArray, List.getElem_cons_zero, List.getElem_cons_succ, List.setIfInBounds_toArray, List.set_cons_zero, List.set_cons_succ]
          refine wpAnyH_take (i := 7) (v := (.int .i64 k)) rfl (by kernel_rfl) (by kernel_rfl) (by kernel_rfl) (fun _ _ _ h => h) (Or.inl ⟨by kernel_rfl, by intro w hSw; obtain ⟨hSw0, hSw1⟩ := hSw; go_simp⟩) hS0 ?_
          try simp only [Act.put, List.getElem_toArray, List.getElem_cons_zero, List.getElem_cons_succ, List.setIfInBounds_toArray, List.set_cons_zero, List.set_cons_succ]
          refine wpAnyH_ready (rs := [2, 6]) (by kernel_rfl) (by simp) ?_
          refine AllReadyH.cons rfl (fun K hK => ?_) (AllReadyH.cons rfl (fun K hK => ?_) AllReadyH.nil)
          · go_simp
            refine (names_any F bt L k _ hTd (by omega)).mono ?_
            rintro e w4 ⟨v4, rfl, hown4, hb4⟩
            rw [hnm] at hown4
            have hS4 : w4.cell? ⟨br, 0, none⟩ = some (.slice (some ⟨gr, 0, none⟩) L.length cr) ∧ w4.cell? ⟨gr, k, none⟩ = some vk := ⟨(hb4.cell (p := ⟨br, 0, none⟩) hbr).trans hS0.1, (hb4.cell (p := ⟨gr, k, none⟩) hgr).trans hS0.2⟩
            have hssk4 := (hssd.below hb4).more hb4.size
            refine hK.out _ _ hS4 (fun _ => ?_)
            clear hK K
            try simp only [Act.put, List.getElem_toArray, List.getElem_cons_zero, List.getElem_cons_succ, List.setIfInBounds_toArray, List.set_cons_zero, List.set_cons_succ]
            refine wpAnyH_take (i := 6) (v := (.slice (some ⟨gr, 0, none⟩) L.length cr)) rfl (by kernel_rfl) (by kernel_rfl) (by kernel_rfl) (fun _ _ _ h => h) (Or.inl ⟨by kernel_rfl, by intro w hSw; obtain ⟨hSw0, hSw1⟩ := hSw; go_simp⟩) hS4 ?_
            try simp only [Act.put, List.getElem_toArray, List.getElem_cons_zero, List.getElem_cons_succ, List.setIfInBounds_toArray, List.set_cons_zero, List.set_cons_succ]
            refine wpAnyH_take (i := 8) (v := (.pointer (some ⟨gr, k, none⟩))) rfl (by kernel_rfl) (by kernel_rfl) (by kernel_rfl) (fun _ _ _ h => h) (Or.inl ⟨by kernel_rfl, by intro w hSw; obtain ⟨hSw0, hSw1⟩ := hSw; go_simp⟩) hS4 ?_
            try simp only [Act.put, List.getElem_toArray, List.getElem_cons_zero, List.getElem_cons_succ, List.setIfInBounds_toArray, List.set_cons_zero, List.set_cons_succ]
            refine wpAnyH_take (i := 9) (v := vk) rfl (by kernel_rfl) (by kernel_rfl) (by kernel_rfl) (fun _ _ _ h => h) (Or.inl ⟨by kernel_rfl, by intro w hSw; obtain ⟨hSw0, hSw1⟩ := hSw; go_simp⟩) hS4 ?_
            try simp only [Act.put, List.getElem_toArray, List.getElem_cons_zero, List.getElem_cons_succ, List.setIfInBounds_toArray, List.set_cons_zero, List.set_cons_succ]
            refine wpAnyH_ready (rs := [10]) (by kernel_rfl) (by simp) ?_
            refine AllReadyH.cons rfl (fun K hK => ?_) AllReadyH.nil
            go_simp
            refine (texts_any v4 vk lk lk _ hown4.ss hssk4).mono ?_
            rintro e w5 ⟨rfl, hb5⟩
            rw [decide_eq_true (by rfl)]
            have hbs : Below wr.heap.size wr w5 := (below_drawn wr 1).trans (Below.trans (B := wr.heap.size) hb4 (hb5.mono hb4.size))
            refine hK.out _ _ ⟨(hb5.cell (p := ⟨br, 0, none⟩) (Nat.lt_of_lt_of_le hbr hb4.size)).trans hS4.1, (hb5.cell (p := ⟨gr, k, none⟩) (Nat.lt_of_lt_of_le hgr hb4.size)).trans hS4.2⟩ (fun _ => ?_)
            clear hK K
            try simp only [Act.put, List.getElem_toArray, List.getElem_cons_zero, List.getElem_cons_succ, List.setIfInBounds_toArray, List.set_cons_zero, List.set_cons_succ]
            refine wpAnyH_ready (rs := [11]) (by kernel_rfl) (by simp) ?_
            refine AllReadyH.cons rfl (fun K hK => ?_) AllReadyH.nil
            go_simp
            refine hK.out _ _ ⟨(hb5.cell (p := ⟨br, 0, none⟩) (Nat.lt_of_lt_of_le hbr hb4.size)).trans hS4.1, (hb5.cell (p := ⟨gr, k, none⟩) (Nat.lt_of_lt_of_le hgr hb4.size)).trans hS4.2⟩ (fun _ => ?_)
            clear hK K
            try simp only [Act.put, List.getElem_toArray, List.getElem_cons_zero, List.getElem_cons_succ, List.setIfInBounds_toArray, List.set_cons_zero, List.set_cons_succ]
            refine wpAnyH_done (by kernel_rfl) ?_ _
            go_wp2_with fail
            refine (slot_any F bt L k x _ (hTq.turn (Turn.of_below (F := fun _ => False) hbs) (fun _ _ h => h)) HXL.out).mono ?_
            rintro e w6 ⟨rfl, rfl⟩
            go_wp2_with fail
            refine (refslot_any G br L k x _ ⟨R, _, rows, hIq.turn (Turn.of_below (F := fun _ => False) hbs) (fun _ _ h => h)⟩).mono ?_
            rintro e w7 ⟨rfl, rfl⟩
            generalize slotL L k x = sl at *
            go_wp2_with fail
            go_roundw
            case rel => exact ⟨k + 1, rfl, by omega, hbq.trans (hbs.mono hbq.size)⟩
            case measure => simp [intOf]; omega
          · go_simp
            refine hK.out _ _ hS0 (fun _ => ?_)
            clear hK K
            try simp only [Act.put, List.getElem_toArray, List.getElem_cons_zero, List.getElem_cons_succ, List.setIfInBounds_toArray, List.set_cons_zero, List.set_cons_succ]
            refine wpAnyH_take (i := 8) (v := (.pointer (some ⟨gr, k, none⟩))) rfl (by kernel_rfl) (by kernel_rfl) (by kernel_rfl) (fun _ _ _ h => h) (Or.inl ⟨by kernel_rfl, by intro w hSw; obtain ⟨hSw0, hSw1⟩ := hSw; go_simp⟩) hS0 ?_
            try simp only [Act.put, List.getElem_toArray, List.getElem_cons_zero, List.getElem_cons_succ, List.setIfInBounds_toArray, List.set_cons_zero, List.set_cons_succ]
            refine wpAnyH_ready (rs := [2, 9]) (by kernel_rfl) (by simp) ?_
            refine AllReadyH.cons rfl (fun K hK => ?_) (AllReadyH.cons rfl (fun K hK => ?_) AllReadyH.nil)
            · go_simp
              refine (names_any F bt L k _ hTd (by omega)).mono ?_
              rintro e w4 ⟨v4, rfl, hown4, hb4⟩
              rw [hnm] at hown4
              have hS4 : w4.cell? ⟨br, 0, none⟩ = some (.slice (some ⟨gr, 0, none⟩) L.length cr) ∧ w4.cell? ⟨gr, k, none⟩ = some vk := ⟨(hb4.cell (p := ⟨br, 0, none⟩) hbr).trans hS0.1, (hb4.cell (p := ⟨gr, k, none⟩) hgr).trans hS0.2⟩
              have hssk4 := (hssd.below hb4).more hb4.size
              refine hK.out _ _ hS4 (fun _ => ?_)
              clear hK K
              try simp only [Act.put, List.getElem_toArray, List.getElem_cons_zero, List.getElem_cons_succ, List.setIfInBounds_toArray, List.set_cons_zero, List.set_cons_succ]
              refine wpAnyH_take (i := 9) (v := vk) rfl (by kernel_rfl) (by kernel_rfl) (by kernel_rfl) (fun _ _ _ h => h) (Or.inl ⟨by kernel_rfl, by intro w hSw; obtain ⟨hSw0, hSw1⟩ := hSw; go_simp⟩) hS4 ?_
              try simp only [Act.put, List.getElem_toArray, List.getElem_cons_zero, List.getElem_cons_succ, List.setIfInBounds_toArray, List.set_cons_zero, List.set_cons_succ]
              refine wpAnyH_ready (rs := [10]) (by kernel_rfl) (by simp) ?_
              refine AllReadyH.cons rfl (fun K hK => ?_) AllReadyH.nil
              go_simp
              refine (texts_any v4 vk lk lk _ hown4.ss hssk4).mono ?_
              rintro e w5 ⟨rfl, hb5⟩
              rw [decide_eq_true (by rfl)]
              have hbs : Below wr.heap.size wr w5 := (below_drawn wr 1).trans (Below.trans (B := wr.heap.size) hb4 (hb5.mono hb4.size))
              refine hK.out _ _ ⟨(hb5.cell (p := ⟨br, 0, none⟩) (Nat.lt_of_lt_of_le hbr hb4.size)).trans hS4.1, (hb5.cell (p := ⟨gr, k, none⟩) (Nat.lt_of_lt_of_le hgr hb4.size)).trans hS4.2⟩ (fun _ => ?_)
              clear hK K
              try simp only [Act.put, List.getElem_toArray, List.getElem_cons_zero, List.getElem_cons_succ, List.setIfInBounds_toArray, List.set_cons_zero, List.set_cons_succ]
              refine wpAnyH_ready (rs := [11]) (by kernel_rfl) (by simp) ?_
              refine AllReadyH.cons rfl (fun K hK => ?_) AllReadyH.nil
              go_simp
              refine hK.out _ _ ⟨(hb5.cell (p := ⟨br, 0, none⟩) (Nat.lt_of_lt_of_le hbr hb4.size)).trans hS4.1, (hb5.cell (p := ⟨gr, k, none⟩) (Nat.lt_of_lt_of_le hgr hb4.size)).trans hS4.2⟩ (fun _ => ?_)
              clear hK K
              try simp only [Act.put, List.getElem_toArray, List.getElem_cons_zero, List.getElem_cons_succ, List.setIfInBounds_toArray, List.set_cons_zero, List.set_cons_succ]
              refine wpAnyH_done (by kernel_rfl) ?_ _
              go_wp2_with fail
              refine (slot_any F bt L k x _ (hTq.turn (Turn.of_below (F := fun _ => False) hbs) (fun _ _ h => h)) HXL.out).mono ?_
              rintro e w6 ⟨rfl, rfl⟩
              go_wp2_with fail
              refine (refslot_any G br L k x _ ⟨R, _, rows, hIq.turn (Turn.of_below (F := fun _ => False) hbs) (fun _ _ h => h)⟩).mono ?_
              rintro e w7 ⟨rfl, rfl⟩
              generalize slotL L k x = sl at *
              go_wp2_with fail
              go_roundw
              case rel => exact ⟨k + 1, rfl, by omega, hbq.trans (hbs.mono hbq.size)⟩
              case measure => simp [intOf]; omega
            · go_simp
              refine hK.out _ _ hS0 (fun _ => ?_)
              clear hK K
              try simp only [Act.put, List.getElem_toArray, List.getElem_cons_zero, List.getElem_cons_succ, List.setIfInBounds_toArray, List.set_cons_zero, List.set_cons_succ]
              refine wpAnyH_ready (rs := [2]) (by kernel_rfl) (by simp) ?_
              refine AllReadyH.cons rfl (fun K hK => ?_) AllReadyH.nil
              go_simp
              refine (names_any F bt L k _ hTd (by omega)).mono ?_
              rintro e w4 ⟨v4, rfl, hown4, hb4⟩
              rw [hnm] at hown4
              have hS4 : w4.cell? ⟨br, 0, none⟩ = some (.slice (some ⟨gr, 0, none⟩) L.length cr) ∧ w4.cell? ⟨gr, k, none⟩ = some vk := ⟨(hb4.cell (p := ⟨br, 0, none⟩) hbr).trans hS0.1, (hb4.cell (p := ⟨gr, k, none⟩) hgr).trans hS0.2⟩
              have hssk4 := (hssd.below hb4).more hb4.size
              refine hK.out _ _ hS4 (fun _ => ?_)
              clear hK K
              try simp only [Act.put, List.getElem_toArray, List.getElem_cons_zero, List.getElem_cons_succ, List.setIfInBounds_toArray, List.set_cons_zero, List.set_cons_succ]
              refine wpAnyH_ready (rs := [10]) (by kernel_rfl) (by simp) ?_
              refine AllReadyH.cons rfl (fun K hK => ?_) AllReadyH.nil
              go_simp
              refine (texts_any v4 vk lk lk _ hown4.ss hssk4).mono ?_
              rintro e w5 ⟨rfl, hb5⟩
              rw [decide_eq_true (by rfl)]
              have hbs : Below wr.heap.size wr w5 := (below_drawn wr 1).trans (Below.trans (B := wr.heap.size) hb4 (hb5.mono hb4.size))
              refine hK.out _ _ ⟨(hb5.cell (p := ⟨br, 0, none⟩) (Nat.lt_of_lt_of_le hbr hb4.size)).trans hS4.1, (hb5.cell (p := ⟨gr, k, none⟩) (Nat.lt_of_lt_of_le hgr hb4.size)).trans hS4.2⟩ (fun _ => ?_)
              clear hK K
              try simp only [Act.put, List.getElem_toArray, List.getElem_cons_zero, List.getElem_cons_succ, List.setIfInBounds_toArray, List.set_cons_zero, List.set_cons_succ]
              refine wpAnyH_ready (rs := [11]) (by kernel_rfl) (by simp) ?_
              refine AllReadyH.cons rfl (fun K hK => ?_) AllReadyH.nil
              go_simp
              refine hK.out _ _ ⟨(hb5.cell (p := ⟨br, 0, none⟩) (Nat.lt_of_lt_of_le hbr hb4.size)).trans hS4.1, (hb5.cell (p := ⟨gr, k, none⟩) (Nat.lt_of_lt_of_le hgr hb4.size)).trans hS4.2⟩ (fun _ => ?_)
              clear hK K
              try simp only [Act.put, List.getElem_toArray, List.getElem_cons_zero, List.getElem_cons_succ, List.setIfInBounds_toArray, List.set_cons_zero, List.set_cons_succ]
              refine wpAnyH_done (by kernel_rfl) ?_ _
              go_wp2_with fail
              refine (slot_any F bt L k x _ (hTq.turn (Turn.of_below (F := fun _ => False) hbs) (fun _ _ h => h)) HXL.out).mono ?_
              rintro e w6 ⟨rfl, rfl⟩
              go_wp2_with fail
              refine (refslot_any G br L k x _ ⟨R, _, rows, hIq.turn (Turn.of_below (F := fun _ => False) hbs) (fun _ _ h => h)⟩).mono ?_
              rintro e w7 ⟨rfl, rfl⟩
              generalize slotL L k x = sl at *
              go_wp2_with fail
              go_roundw
              case rel => exact ⟨k + 1, rfl, by omega, hbq.trans (hbs.mono hbq.size)⟩
              case measure => simp [intOf]; omega
        · obtain rfl : k = L.length := by omega
          have hB9 : Below w.heap.size w wr := hB.trans (hbq.mono hB.size)
          have hs1 : slotL L (L.length : Nat) x = (0, false) := by unfold slotL; rw [if_neg (by omega)]
          have hn1 : namesL L (-1) = [] := by unfold namesL; rw [if_neg (by omega)]
          clear hshq hva
          go_wp2_with fail
          refine (slot_any F bt L (L.length : Nat) x _ hTq HXL.out).mono ?_
          rintro e w6 ⟨rfl, rfl⟩
          rw [hs1]
          go_wp2_with fail
          refine (names_any F bt L (-1) _ hTq (by omega)).mono ?_
          rintro e w7 ⟨v7, rfl, hown7, hb7⟩
          rw [hn1] at hown7
          obtain ⟨A7, c7, rfl, _, _, _⟩ := hown7.ss.open_
          go_wp2_with fail
          go_ret
          exact ⟨rfl, hB9.trans (hb7.mono hB9.size)⟩
end Go.Proofs.Ytaokgblkhnipgaa
