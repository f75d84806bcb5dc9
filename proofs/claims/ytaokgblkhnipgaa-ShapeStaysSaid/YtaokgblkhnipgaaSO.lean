/- ShapeStays walked. -/
import Derived.Test.YtaokgblkhnipgaaSM
set_option linter.unusedVariables false
namespace Go.Proofs.Ytaokgblkhnipgaa
open Go.RowKit

/-- What three calls of Of leave, in plain words. -/
theorem stays_facts {l more : List Nm} (hm : ∀ y ∈ l, y.length ≤ maxLen) (hm2 : ∀ y ∈ more, y.length ≤ maxLen) :
    ∃ (L1 L2 L3 : List (List Nm)) (a b : Nat), ofT ([[]], 0) l = (L1, a) ∧ ofT (L1, 0) (l ++ more) = (L2, b) ∧ ofT (L2, 0) l = (L3, a) ∧ Good L1 ∧ Good L2 ∧ L1.length ≤ 1 + l.length ∧ L2.length ≤ 1 + l.length + (l.length + more.length) ∧ L3.length ≤ 1 + l.length + (l.length + more.length) + l.length ∧
      a < L3.length ∧ b < L3.length ∧ L3.getD a [] = ext [] l ∧ L3.getD b [] = ext (ext [] l) more := by
  have hmm : ∀ y ∈ l ++ more, y.length ≤ maxLen := fun y hy => (List.mem_append.1 hy).elim (hm y) (hm2 y)
  obtain ⟨p1, p2, p3, p4⟩ := ofT_good (s := 0) good_new (by simp) hm l.length (Nat.le_refl _)
  obtain ⟨⟨r1, q1⟩, q2⟩ := ofT_names (s := 0) good_new (by simp) hm l.length (Nat.le_refl _)
  rw [List.take_length] at p1 p2 p3 p4 q1 q2
  have z1 : (ofT ([[]], 0) l).1.getD 0 [] = [] := by rw [q1]; rfl
  generalize h1 : ofT ([[]], 0) l = T1 at *
  obtain ⟨L1, a⟩ := T1
  simp only at *
  have q2' : L1.getD a [] = ext [] l := q2
  obtain ⟨p5, p6, p7, p8⟩ := ofT_good (s := 0) p1 p1.pos hmm (l ++ more).length (Nat.le_refl _)
  obtain ⟨⟨r2, q3⟩, q4⟩ := ofT_names (s := 0) p1 p1.pos hmm (l ++ more).length (Nat.le_refl _)
  rw [List.take_length] at p5 p6 p7 p8 q3 q4
  generalize h2 : ofT (L1, 0) (l ++ more) = T2 at *
  obtain ⟨L2, b⟩ := T2
  simp only at *
  rw [z1, ext_append] at q4
  obtain ⟨p9, p10, p11, p12⟩ := ofT_good (s := 0) p5 p5.pos hm l.length (Nat.le_refl _)
  obtain ⟨⟨r3, q5⟩, q6⟩ := ofT_names (s := 0) p5 p5.pos hm l.length (Nat.le_refl _)
  rw [List.take_length] at p9 p10 p11 p12 q5 q6
  have z2 : L2.getD 0 [] = [] := by rw [q3, getD_more p1.pos]; exact z1
  rw [z2] at q6
  generalize h3 : ofT (L2, 0) l = T3 at *
  obtain ⟨L3, c⟩ := T3
  simp only at *
  have e1 : L3.getD a [] = ext [] l := by rw [q5, getD_more (by omega), q3, getD_more p2]; exact q2'
  have e2 : L3.getD b [] = ext (ext [] l) more := by rw [q5, getD_more p6]; exact q4
  have hac : a = c := good_inj p9 (by omega) p10 (e1.trans q6.symm)
  subst hac
  refine ⟨L1, L2, L3, a, b, rfl, h2, h3, p1, p5, ?_, ?_, ?_, by omega, by omega, e1, e2⟩
  · simp at p4; omega
  · simp at p4 p8; omega
  · simp at p4 p8; omega

theorem slotL_all {L : List (List Nm)} {s : Nat} (hs : s < L.length) {f : List Nm} (hf : L.getD s [] = f) (x : Nm) : slotL L s x = (if x ∈ f then ((f.idxOf x : Nat) : Int) else 0, decide (x ∈ f)) := by
  by_cases h : x ∈ f
  · rw [if_pos h, decide_eq_true h, slotL_in hs (by rw [hf]; exact h), hf]
  · rw [if_neg h, decide_eq_false h]
    unfold slotL
    rw [if_neg]
    rintro ⟨_, _, hh⟩
    exact h (by rw [← hf]; simpa using hh)

set_option maxRecDepth 100000 in
set_option maxHeartbeats 1000000 in
theorem shapeStays_any (v : Value) (l : List Nm) (v' : Value) (more : List Nm) (w : World) (hv : Ss w w.heap.size v l) (hm : ∀ y ∈ l, y.length ≤ maxLen) (hv' : Ss w w.heap.size v' more) (hm2 : ∀ y ∈ more, y.length ≤ maxLen) :
    Calls Try.prog 3 #[v, v'] w fun e w' => e = .returned (.bool true) ∧ Below w.heap.size w w' := by
  obtain ⟨A, c, rfl, hn, hc, hx⟩ := hv.open_
  obtain ⟨A', c', rfl, hn', hc', hx'⟩ := hv'.open_
  unfold maxLen at hc hc'
  go_enter Try.func3, Try.ntmps3
  go_wp2_with fail
  refine (awake_any _).mono ?_
  rintro e w1 ⟨rfl, hb1⟩
  go_wp2_with fail
  refine (new_any _).mono ?_
  rintro e w2 ⟨F, bt, rfl, hT, hF, hb2⟩
  have hB2 := bthen hb1 hb2
  by_cases h60 : (40 : Int) < l.length
  · go_wp2_with fail
    go_ret
    exact ⟨rfl, hB2⟩
  by_cases h61 : (40 : Int) < more.length
  · go_wp2_with fail
    go_ret
    exact ⟨rfl, hB2⟩
  have hF0 : ∀ k, F k → w.heap.size ≤ k := fun k hk => Nat.le_trans hb1.size (hF k hk)
  obtain ⟨L1, L2, L3, a, b, e1, e2, e3, g1, g2, n1, n2, n3, ha, hb, na, nb⟩ := stays_facts hm hm2
  have hd : ∀ Fk : Nat → Prop, (∀ k, Fk k → w.heap.size ≤ k) → 0 < l.length → ∀ g, Value.ownBlock (.slice A l.length c) = some g → ¬ Fk g := by
    intro Fk hFk h0 g hg
    obtain ⟨b, o, rfl, hb, _⟩ := hx h0
    simp only [Value.ownBlock, Option.some.injEq] at hg
    subst hg
    exact fun h => by have := hFk b h; omega
  have HD := hid hd
  clear hd
  go_wp2_with fail
  refine (of_any F bt [[]] _ l _ hT ((hv.below hB2).more hB2.size) (HD.out F hF0) hm (by simp; omega)).mono ?_
  rintro e w3 ⟨F3, rfl, hT3, ht3, hn3⟩
  obtain ⟨hB3, hF3⟩ := step_base hB2 (Nat.le_refl _) hF0 ht3 hn3
  rw [e1] at hT3 ⊢
  have hss1 := (hv.below hB3).more hB3.size
  have hss2 := (hv'.below hB3).more hB3.size
  have hl3 := hT3.lt
  clear hT hF hb1 hb2 ht3 hn3 hB2 hF0
  go_wp2_with (first
    | (at_builtin; refine wpList_appS rfl _ (.tmp 50) _ rfl w3.heap.size el_str _ _ rfl rfl (OwnS.nil _ _ _) hss1 (by simp; omega) (Nat.le_refl _) (fun v4 w4 hown4 hg4 hbk4 => ?_); rw [List.nil_append] at hown4; have hb4 := below_appS (Below.refl w3.heap.size w3) (OwnS.nil w3 w3.heap.size 9) hg4 (Nat.le_refl _) (Nat.le_refl _); have hss4 := (hss2.below hb4).more hb4.size; clear hg4 hbk4)
    | (at_builtin; refine wpList_appS rfl (.tmp 51) (.tmp 52) _ rfl w3.heap.size el_str _ _ rfl rfl hown4 hss4 (by omega) hb4.size (fun v5 w5 hown5 hg5 hbk5 => ?_); have hb5 := below_appS hb4 hown4 hg5 (Nat.le_refl _) hb4.size; clear hg5 hbk5 hown4 hb4))
  have hT5 := hT3.turn (Turn.of_below (F := fun _ => False) hb5) (fun _ _ h => h)
  have hB5 : Below w.heap.size w w5 := hB3.trans (hb5.mono hB3.size)
  refine (of_any F3 bt L1 _ (l ++ more) _ hT5 hown5.ss (fun _ g hg h => by have := (hown5.lt g hg).1; have := hl3 g h; omega) (fun y hy => (List.mem_append.1 hy).elim (hm y) (hm2 y)) (by simp; omega)).mono ?_
  rintro e w6 ⟨F6, rfl, hT6, ht6, hn6⟩
  obtain ⟨hB6, hF6⟩ := step_base hB5 (Nat.le_refl _) hF3 ht6 hn6
  rw [e2] at hT6 ⊢
  clear hT5 hT3 hown5 hb5 hB5 hF3 ht6 hn6 hl3
  go_wp2_with fail
  refine (of_any F6 bt L2 _ l _ hT6 ((hv.below hB6).more hB6.size) (HD.out F6 hF6) hm (by omega)).mono ?_
  rintro e w7 ⟨F7, rfl, hT7, ht7, hn7⟩
  obtain ⟨hB7, hF7⟩ := step_base hB6 (Nat.le_refl _) hF6 ht7 hn7
  rw [e3] at hT7 ⊢
  have hsa := slotL_all ha na
  have hsb := slotL_all hb nb
  have hna := namesL_in ha
  rw [na] at hna
  have hea := len_ext [] l
  simp only [List.length_nil] at hea
  have hmem : ∀ y, y ∈ ext [] l ↔ y ∈ l := fun y => by rw [mem_ext]; simp
  have hmem2 : ∀ y, y ∈ ext (ext [] l) more ↔ y ∈ l ∨ y ∈ more := fun y => by rw [mem_ext, hmem]
  have hidx : ∀ y, y ∈ l → (ext (ext [] l) more).idxOf y = (ext [] l).idxOf y := fun y hy => idx_ext ((hmem y).2 hy)
  have hnew : ∀ y, y ∉ l → (ext [] l).length ≤ (ext (ext [] l) more).idxOf y := fun y hy => idx_ext_new (fun h => hy ((hmem y).1 h))
  have HSA := hid hsa
  have HSB := hid hsb
  have HI := hid hidx
  have HN := hid hnew
  have HM := hid hmem
  have HM2 := hid hmem2
  clear hT6 hB6 hF6 ht7 hn7 hsa hsb hidx hnew hmem hmem2 na nb e1 e2 e3 g1 g2
  generalize ext (ext [] l) more = f2 at *
  generalize ext [] l = f1 at *
  have hx1 := hid hx
  have hx2 := hid hx'
  clear hx hx'
  have hm1 := hid hm
  have hm3 := hid hm2
  clear hm hm2
  go_wp2_with fail
  go_loop [13] (fun v13 => ∃ k : Nat, v13 = .int .i64 k ∧ k ≤ l.length) (fun v13 => l.length - (intOf v13).toNat)
  case atStart => exact ⟨0, rfl, by omega⟩
  case round =>
    obtain ⟨k, rfl, hk⟩ := hrel
    by_cases hlt : k < l.length
    · obtain ⟨b0, o, rfl, hb0, hcell⟩ := hx1.out (by omega)
      have d1 := (hB7.cell (p := ⟨b0, o + k, none⟩) hb0).trans (hcell k hlt)
      have hin : l[k] ∈ l := List.getElem_mem hlt
      have hmx := hm1.out _ hin
      have r1 : slotL L3 a l[k] = (((f1.idxOf l[k] : Nat) : Int), true) := by rw [HSA.out, if_pos ((HM.out _).2 hin), decide_eq_true ((HM.out _).2 hin)]
      have r2 : slotL L3 b l[k] = (((f1.idxOf l[k] : Nat) : Int), true) := by rw [HSB.out, if_pos ((HM2.out _).2 (.inl hin)), decide_eq_true ((HM2.out _).2 (.inl hin)), HI.out _ hin]
      clear hcell hin
      generalize l[k] = X at *
      generalize f1.idxOf X = ix at *
      go_wp2_with fail
      refine (slot_any F7 bt L3 a X _ hT7 hmx).mono ?_
      rintro e w8 ⟨rfl, rfl⟩
      rw [r1]
      go_wp2_with fail
      refine (slot_any F7 bt L3 b X _ hT7 hmx).mono ?_
      rintro e w9 ⟨rfl, rfl⟩
      rw [r2]
      go_wp2_with fail
      go_round
      case rel => exact ⟨k + 1, rfl, by omega⟩
      case measure => simp [intOf]; omega
    · obtain rfl : k = l.length := by omega
      go_wp2_with fail
      go_loopw [18] (fun v18 wr => ∃ k : Nat, v18 = .int .i64 k ∧ k ≤ more.length ∧ Below w7.heap.size w7 wr) (fun v18 _ => more.length - (intOf v18).toNat)
      case atStart => exact ⟨0, rfl, by omega, Below.refl _ _⟩
      case round =>
        obtain ⟨k, rfl, hk, hbr⟩ := hrel
        have hB9 : Below w.heap.size w wr := hB7.trans (hbr.mono hB7.size)
        by_cases hlt : k < more.length
        · obtain ⟨b0, o, rfl, hb0, hcell⟩ := hx2.out (by omega)
          have d1 := (hB9.cell (p := ⟨b0, o + k, none⟩) hb0).trans (hcell k hlt)
          have hin : more[k] ∈ more := List.getElem_mem hlt
          have hmx := hm3.out _ hin
          have hT9 := hT7.turn (Turn.of_below (F := fun _ => False) hbr) (fun _ _ h => h)
          have r2 : slotL L3 b more[k] = (((f2.idxOf more[k] : Nat) : Int), true) := by rw [HSB.out, if_pos ((HM2.out _).2 (.inr hin)), decide_eq_true ((HM2.out _).2 (.inr hin))]
          have hnew := HN.out more[k]
          have r1 := HSA.out more[k]
          have hmm := HM.out more[k]
          clear hcell hin
          generalize more[k] = X at *
          by_cases hold : X ∈ l
          · rw [if_pos (hmm.2 hold), decide_eq_true (hmm.2 hold)] at r1
            clear hnew hmm hold
            generalize f1.idxOf X = ix at *
            generalize f2.idxOf X = iy at *
            go_wp2_with fail
            refine (slot_any F7 bt L3 a X _ hT9 hmx).mono ?_
            rintro e w8 ⟨rfl, rfl⟩
            rw [r1]
            go_wp2_with fail
            refine (slot_any F7 bt L3 b X _ hT9 hmx).mono ?_
            rintro e w9 ⟨rfl, rfl⟩
            rw [r2]
            go_wp2_with fail
            go_roundw
            case rel => exact ⟨k + 1, rfl, by omega, hbr⟩
            case measure => simp [intOf]; omega
          · have hge := hnew hold
            rw [if_neg (fun h => hold (hmm.1 h)), decide_eq_false (fun h => hold (hmm.1 h))] at r1
            clear hnew hmm hold
            generalize f2.idxOf X = iy at *
            have hge2 : ¬ ((iy : Int) < (f1.length : Int)) := by omega
            clear hge
            go_wp2_with fail
            refine (slot_any F7 bt L3 a X _ hT9 hmx).mono ?_
            rintro e w8 ⟨rfl, rfl⟩
            rw [r1]
            go_wp2_with fail
            refine (slot_any F7 bt L3 b X _ hT9 hmx).mono ?_
            rintro e w9 ⟨rfl, rfl⟩
            rw [r2]
            go_wp2_with fail
            refine (names_any F7 bt L3 a _ hT9 (by omega)).mono ?_
            rintro e w10 ⟨v10, rfl, hown10, hb10⟩
            rw [hna] at hown10
            obtain ⟨A9, c9, rfl, _, _, _⟩ := hown10.ss.open_
            go_wp2_with fail
            go_roundw
            case rel => exact ⟨k + 1, rfl, by omega, hbr.trans (hb10.mono hbr.size)⟩
            case measure => simp [intOf]; omega
        · obtain rfl : k = more.length := by omega
          go_wp2_with fail
          go_ret
          exact ⟨rfl, hB9⟩
end Go.Proofs.Ytaokgblkhnipgaa
