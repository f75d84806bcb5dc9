/- LexAgain walked. -/
import Derived.Test.YtpgngegdflbahaaGreatDoorQG
set_option linter.unusedVariables false
namespace Go.Proofs.YtpgngegdflbahaaGreatDoor
open Go.RowKit

theorem write_len (x : Int × Bt) : x.2.length ≤ (writeT x).length := by
  unfold writeT
  split
  · unfold quoteW
    have := esc_len x.2
    rw [List.length_cons, List.length_append]; omega
  · exact Nat.le_refl _
theorem join_take {l : List TokD} {k : Nat} (hk : k < l.length) : joinT ((l.map ktOf).take (k + 1)) = joinT ((l.map ktOf).take k) ++ 32 :: writeT (ktOf l[k]) := by
  rw [List.take_succ_eq_append_getElem (by simpa using hk)]
  unfold joinT
  rw [List.flatMap_append]
  simp
theorem join_le (l : List (Int × Bt)) (k : Nat) : (joinT (l.take k)).length ≤ (joinT l).length := by
  have h : joinT l = joinT (l.take k) ++ joinT (l.drop k) := by
    unfold joinT; rw [← List.flatMap_append, List.take_append_drop]
  rw [h, List.length_append]; omega

set_option maxRecDepth 100000 in
set_option maxHeartbeats 4000000 in
theorem lexAgain_any (nm : ByteArray) (w : World) (hn : nm.size ≤ 140737488351232) (hX : LaidX w) :
    Calls Tryz.prog 4 #[.string nm] w fun e w' => e = .returned (.bool true) ∧ Below w.heap.size w w' := by
  obtain ⟨s, hs0, hsl⟩ : ∃ s : Bt, Value.string nm = sv s ∧ s.length ≤ 281474976710656 := ⟨nm.data.toList, by show Value.string nm = Value.string ⟨nm.data.toList.toArray⟩; simp, by
    have e : nm.data.toList.length = nm.size := Array.length_toList
    omega⟩
  rw [hs0]
  clear hs0 hn
  have hsz := sv_size s
  go_enter Tryz.func4, Tryz.ntmps4
  go_wp2_with fail
  refine (awake_any _ hX).mono ?_
  rintro e w1 ⟨rfl, hb1⟩
  by_cases h5 : (3000 : Int) < s.length
  · go_wp2_with fail
    go_ret
    exact ⟨rfl, hb1⟩
  go_wp2_with fail
  refine (lex_any _ s (hX.below hb1)).mono ?_
  rintro e w2 ⟨v, n, rfl, hrow, hb2⟩
  have hB2 := bthen hb1 hb2
  have hsure := lexL_sure s (by omega)
  have hagain := fun l hl => again_law s (by omega) l hl
  generalize lexL s = ans at *
  obtain ⟨toks, ln, cl, er⟩ := ans
  simp only at hsure hrow
  unfold diagV
  simp only []
  rcases hsure with ⟨_, her⟩ | ⟨l, hl, hpl⟩
  · clear hagain
    go_wp2_with fail
    go_ret
    exact ⟨rfl, hB2.alloc hB2.size _⟩
  · have hlen0 : 1 ≤ l.length := by cases hpl <;> simp
    clear hpl
    obtain ⟨g1, g2, g3, m, hm, hmk⟩ := hagain l hl
    simp only [Prod.mk.injEq] at hl
    obtain ⟨rfl, rfl, rfl, rfl⟩ := hl
    clear hagain
    generalize toks = l at *
    have hrl : n = l.length := by have := hrow.1; rw [tokCells_length] at this; omega
    subst hrl
    obtain ⟨g, c, rfl, _, hgl, _, hcm⟩ := own_form hrow (by omega)
    unfold maxLen at hcm
    have hr2 := hrow.alloc (.cells #[.int .i64 0, .int .i64 0, .int .i64 0, .int .i64 0] 27)
    have hB3 := hB2.alloc hB2.size (.cells #[.int .i64 0, .int .i64 0, .int .i64 0, .int .i64 0] 27)
    simp only [show ((0 : Nat) : Int) = 0 from rfl]
    have HROW := hid hr2
    have HG3 := hid g3
    have HM := hid hm
    have HMK := hid hmk
    have hgl3 : g < (w2.alloc (.cells #[.int .i64 0, .int .i64 0, .int .i64 0, .int .i64 0] 27)).heap.size := Nat.lt_of_lt_of_le hgl ((Below.refl w2.heap.size w2).alloc (Nat.le_refl _) (.cells #[.int .i64 0, .int .i64 0, .int .i64 0, .int .i64 0] 27)).size
    clear hrow hr2 g3 hm hmk hb1 hb2 hB2 hgl
    go_wp2_with fail
    generalize w2.alloc (.cells #[.int .i64 0, .int .i64 0, .int .i64 0, .int .i64 0] 27) = w3 at *
    go_loopw [6, 7] (fun v6 v7 wr => ∃ (k : Nat) (o : Bt), v7 = .int .i64 k ∧ v6 = sv o ∧ k ≤ l.length ∧ o.length ≤ 6001 ∧ o = joinT ((l.map ktOf).take k) ∧ Below w3.heap.size w3 wr) (fun _ v7 _ => l.length - (intOf v7).toNat)
    case atStart => exact ⟨0, [], rfl, rfl, by omega, by simp, rfl, Below.refl _ _⟩
    case round =>
      obtain ⟨k, o, rfl, rfl, hk, hol, ho, hbr⟩ := hrel
      have hos := sv_size o
      by_cases hlt : k < l.length
      · obtain ⟨d0, d1, _, _⟩ := tok_cells (own_below HROW.out hbr) hlt
        have hwl := HG3.out l[k] (List.getElem_mem hlt)
        have hjt := join_take hlt
        have hjl := join_le (l.map ktOf) (k + 1)
        have htl := write_len (ktOf l[k])
        rw [hjt, ← ho, List.length_append, List.length_cons] at hjl
        generalize l[k] = T at *
        obtain ⟨kd, t, ln, cl⟩ := T
        rw [show ktOf ⟨kd, t, ln, cl⟩ = (kd, t) from rfl] at hjt hwl hjl htl
        simp only at d0 d1
        have HJT := hid hjt
        have HO := hid ho
        clear hjt ho
        have hb1 : ¬ 9223372036854775807 < o.length + 1 := by omega
        have hts := sv_size t
        unfold writeT at hwl hjl htl
        by_cases h4 : kd = 4
        · subst h4
          simp only [if_true] at hwl hjl htl
          have hres : ∀ q : Bt, q = quoteW t → Value.string ((⟨o.toArray⟩ : ByteArray) ++ ⟨#[32]⟩ ++ ⟨q.toArray⟩) = sv (joinT ((l.map ktOf).take (k + 1))) := by
            intro q hq
            rw [show (⟨#[32]⟩ : ByteArray) = ⟨([32] : Bt).toArray⟩ from rfl, str_append, str_append, HJT.out, HO.out, hq]
            unfold writeT
            simp
          have hjl2 : (joinT ((l.map ktOf).take (k + 1))).length ≤ 6001 := Nat.le_trans (join_le _ _) g2
          have HRES := hid hres
          have HQ := hid (fun u => quote_any u t (by omega))
          clear hres
          go_wp2_with fail
          refine (HQ.out wr).mono ?_
          rintro e w5 ⟨rfl, hb5⟩
          have hq5 := HRES.out _ rfl
          have hqs := sv_size (quoteW t)
          have hb2 : ¬ 9223372036854775807 < o.length + 1 + (quoteW t).length := by omega
          generalize quoteW t = q at *
          have HQ5 := hid hq5
          clear hq5 HRES HQ
          go_wp2_with fail
          go_roundw
          case rel =>
            have REL : ∃ (k' : Nat) (o' : Bt), Value.int .i64 ((k : Int) + 1) = .int .i64 k' ∧ Value.string ((⟨o.toArray⟩ : ByteArray) ++ ⟨#[32]⟩ ++ ⟨q.toArray⟩) = sv o' ∧ k' ≤ l.length ∧ o'.length ≤ 6001 ∧ o' = joinT ((l.map ktOf).take k') ∧ Below w3.heap.size w3 w5 :=
              ⟨k + 1, joinT ((l.map ktOf).take (k + 1)), rfl, HQ5.out, by omega, hjl2, rfl, hbr.trans (hb5.mono hbr.size)⟩
            first | exact REL | ((repeat apply Exists.intro); exact ⟨REL, rfl⟩)
          case measure => simp [intOf]; omega
        · rw [if_neg h4] at hwl hjl htl
          simp only at hwl hjl htl
          have hres : Value.string ((⟨o.toArray⟩ : ByteArray) ++ ⟨#[32]⟩ ++ ⟨t.toArray⟩) = sv (joinT ((l.map ktOf).take (k + 1))) := by
            rw [show (⟨#[32]⟩ : ByteArray) = ⟨([32] : Bt).toArray⟩ from rfl, str_append, str_append, HJT.out, HO.out]
            unfold writeT
            rw [if_neg h4]
            simp
          have hjl2 : (joinT ((l.map ktOf).take (k + 1))).length ≤ 6001 := Nat.le_trans (join_le _ _) g2
          have hb2 : ¬ 9223372036854775807 < o.length + 1 + t.length := by omega
          have HRES := hid hres
          clear hres
          go_wp2_with fail
          go_roundw
          case rel =>
            have REL : ∃ (k' : Nat) (o' : Bt), Value.int .i64 ((k : Int) + 1) = .int .i64 k' ∧ Value.string ((⟨o.toArray⟩ : ByteArray) ++ ⟨#[32]⟩ ++ ⟨t.toArray⟩) = sv o' ∧ k' ≤ l.length ∧ o'.length ≤ 6001 ∧ o' = joinT ((l.map ktOf).take k') ∧ Below w3.heap.size w3 wr :=
              ⟨k + 1, joinT ((l.map ktOf).take (k + 1)), rfl, HRES.out, by omega, hjl2, rfl, hbr⟩
            first | exact REL | ((repeat apply Exists.intro); exact ⟨REL, rfl⟩)
          case measure => simp [intOf]; omega
      · obtain rfl : k = l.length := by omega
        rw [List.take_of_length_le (by simp)] at ho
        have hm := HM.out
        rw [← ho] at hm
        have HRW := hid (own_below HROW.out hbr)
        have hB5 := hB3.trans (hbr.mono hB3.size)
        clear HROW HG3 HM ho
        go_wp2_with fail
        refine (lex_any _ o (hX.below hB5)).mono ?_
        rintro e w6 ⟨v6, n6, rfl, hrow6, hb6⟩
        rw [hm] at hrow6 ⊢
        simp only at hrow6
        have hml : m.length = l.length := by have := congrArg List.length HMK.out; simpa using this
        have hn6 : n6 = l.length := by have := hrow6.1; rw [tokCells_length] at this; omega
        subst hn6
        have HML := hid hml
        obtain ⟨g6, c6, rfl, _, hgl6, _, hcm6⟩ := own_form hrow6 (by omega)
        unfold maxLen at hcm6
        unfold diagV
        simp only []
        simp only [show ((0 : Nat) : Int) = 0 from rfl]
        have hB6 := bthen hB5 hb6
        have RA := hid ((own_below HRW.out hb6).alloc (.cells #[.int .i64 0, .int .i64 0, .int .i64 0, .int .i64 0] 27))
        have RB := hid (hrow6.alloc (.cells #[.int .i64 0, .int .i64 0, .int .i64 0, .int .i64 0] 27))
        have hB7 := hB6.alloc hB6.size (.cells #[.int .i64 0, .int .i64 0, .int .i64 0, .int .i64 0] 27)
        have hnn : ((l.length : Int) != l.length) = false := by simp
        clear hrow6 HRW hb6 hB6 hm hml
        go_wp2_with fail
        generalize w6.alloc (.cells #[.int .i64 0, .int .i64 0, .int .i64 0, .int .i64 0] 27) = w7 at *
        go_loopw [10] (fun v10 wr => ∃ j : Nat, v10 = .int .i64 j ∧ j ≤ l.length ∧ Below w7.heap.size w7 wr) (fun v10 _ => l.length - (intOf v10).toNat)
        case atStart => exact ⟨0, rfl, by omega, Below.refl _ _⟩
        case round =>
          obtain ⟨j, rfl, hj, hbj⟩ := hrel
          by_cases hlt1 : j < l.length
          · have hmj : j < m.length := by rw [HML.out]; exact hlt1
            obtain ⟨a0, a1, _, _⟩ := tok_cells (own_below RA.out hbj) hlt1
            obtain ⟨b0, b1, _, _⟩ := tok_cells (own_below RB.out hbj) hmj
            have hkt : ktOf m[j] = ktOf l[j] := by
              have h1 : (m.map ktOf)[j]'(by simpa using hmj) = (l.map ktOf)[j]'(by simpa using hlt1) := by simp only [HMK.out]
              rw [List.getElem_map, List.getElem_map] at h1
              exact h1
            generalize m[j] = U at *
            generalize l[j] = T at *
            obtain ⟨kd, t, ln, cl⟩ := T
            obtain ⟨kd2, t2, ln2, cl2⟩ := U
            simp only [ktOf, Prod.mk.injEq] at hkt a0 a1 b0 b1
            obtain ⟨rfl, rfl⟩ := hkt
            have hkk : (kd2 != kd2) = false := by simp
            have htt : (t2 != t2) = false := by simp
            go_wp2_with fail
            go_quiet (fail)
            go_wp2_with fail
            go_roundw
            case rel =>
              have REL : ∀ u, Below w7.heap.size w7 u → ∃ j' : Nat, Value.int .i64 ((j : Int) + 1) = .int .i64 j' ∧ j' ≤ l.length ∧ Below w7.heap.size w7 u := fun u hu => ⟨j + 1, rfl, by omega, hu⟩
              first | exact REL _ (hbj.trans (below_drawn _ _)) | ((repeat apply Exists.intro); exact ⟨REL _ (hbj.trans (below_drawn _ _)), rfl⟩)
            case measure => simp [intOf]; omega
          · have hlt3 : ¬ (j : Int) < (l.length : Int) := by omega
            go_wp2_with fail
            go_ret
            exact ⟨rfl, hB7.trans (hbj.mono hB7.size)⟩
end Go.Proofs.YtpgngegdflbahaaGreatDoor
