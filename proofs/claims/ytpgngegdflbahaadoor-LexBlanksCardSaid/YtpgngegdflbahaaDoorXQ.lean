/- LexBlanks walked. -/
import Derived.Test.YtpgngegdflbahaaDoorXP
import Derived.Test.YtpgngegdflbahaaDoorPA
import Derived.Test.YtpgngegdflbahaaDoorXU
import Derived.Test.YtpgngegdflbahaaDoorPT
set_option linter.unusedVariables false
namespace Go.Proofs.YtpgngegdflbahaaDoor
open Go.RowKit

theorem cell_in {w : World} {g i : Nat} {v : Value} (h : w.cell? ⟨g, i, none⟩ = some v) : g < w.heap.size := by
  rcases Nat.lt_or_ge g w.heap.size with h1 | h1
  · exact h1
  · simp [World.cell?, Array.getElem?_eq_none h1] at h
def tokAgg (t : TokD) : Value := .agg #[.int .i64 t.kind, sv t.text, .int .i64 (t.line : Nat), .int .i64 (t.col : Nat)]

set_option maxRecDepth 100000 in
set_option maxHeartbeats 4000000 in
theorem lexBlanks_any (na nb : ByteArray) (w : World) (hna : na.size ≤ 140737488351232) (hnb : nb.size ≤ 140737488351232) (hX : LaidX w) :
    Calls Tryd.prog 4 #[.string na, .string nb] w fun e w' => e = .returned (.bool true) ∧ Below w.heap.size w w' := by
  obtain ⟨a, ha0, hal⟩ : ∃ s : Bt, Value.string na = sv s ∧ s.length ≤ 281474976710656 := ⟨na.data.toList, by show Value.string na = Value.string ⟨na.data.toList.toArray⟩; simp, by
    have e : na.data.toList.length = na.size := Array.length_toList
    omega⟩
  obtain ⟨b, hb0, hbl⟩ : ∃ s : Bt, Value.string nb = sv s ∧ s.length ≤ 281474976710656 := ⟨nb.data.toList, by show Value.string nb = Value.string ⟨nb.data.toList.toArray⟩; simp, by
    have e : nb.data.toList.length = nb.size := Array.length_toList
    omega⟩
  rw [ha0, hb0]
  clear ha0 hb0 hna hnb
  have hsa := sv_size a
  have hsb := sv_size b
  go_enter Tryd.func4, Tryd.ntmps4
  go_wp2_with fail
  refine (awake_any _ hX).mono ?_
  rintro e w1 ⟨rfl, hb1⟩
  by_cases h5 : (2000 : Int) < a.length
  · go_wp2_with fail
    go_ret
    exact ⟨rfl, hb1⟩
  by_cases h6 : (2000 : Int) < b.length
  · go_wp2_with fail
    go_ret
    exact ⟨rfl, hb1⟩
  go_wp2_with fail
  refine (lex_any _ a (hX.below hb1)).mono ?_
  rintro e w2 ⟨v1, n1, rfl, hr1, hb2⟩
  have hB2 := bthen hb1 hb2
  obtain ⟨hla, hlb, hlaw⟩ := blanks_law a b (by omega) (by omega)
  have HLAW := hid hlaw
  have HLA := hid hla
  have HLB := hid hlb
  clear hlaw hla hlb
  generalize hga : lexL a = ansa at *
  obtain ⟨tx, lx, cx, ex⟩ := ansa
  have hla8 : tx.length ≤ 8193 := by have := lexL_len a; rw [hga] at this; exact this
  have hn1 : n1 = tx.length := by have := hr1.1; rw [tokCells_length] at this; simp only at this; omega
  subst hn1
  obtain ⟨A1, c1, rfl, hm1⟩ := own_slice hr1
  unfold diagV
  simp only []
  have hd2 := heap_alloc_new w2 (.cells #[.int .i64 0, .int .i64 (lx : Nat), .int .i64 (cx : Nat), .int .i64 ex] 26)
  have hdl2 : w2.heap.size < (w2.alloc (.cells #[.int .i64 0, .int .i64 (lx : Nat), .int .i64 (cx : Nat), .int .i64 ex] 26)).heap.size := block_lt hd2
  have hBA := hB2.alloc hB2.size (.cells #[.int .i64 0, .int .i64 (lx : Nat), .int .i64 (cx : Nat), .int .i64 ex] 26)
  have hrA := hr1.alloc (.cells #[.int .i64 0, .int .i64 (lx : Nat), .int .i64 (cx : Nat), .int .i64 ex] 26)
  simp only at hrA
  go_wp2_with fail
  have hx2 := hid hd2
  have HRA := hid hrA
  clear hr1 hb1 hb2 hd2 hrA hB2
  generalize hd2n : w2.heap.size = b2 at *
  generalize w2.alloc (.cells #[.int .i64 0, .int .i64 (lx : Nat), .int .i64 (cx : Nat), .int .i64 ex] 26) = W2 at *
  refine (lex_any _ b (hX.below hBA)).mono ?_
  rintro e w3 ⟨v2, n2, rfl, hr2, hb3⟩
  have hB3 := bthen hBA hb3
  generalize hgb : lexL b = ansb at *
  obtain ⟨ty, ly, cy, ey⟩ := ansb
  have hlb8 : ty.length ≤ 8193 := by have := lexL_len b; rw [hgb] at this; exact this
  have hn2 : n2 = ty.length := by have := hr2.1; rw [tokCells_length] at this; simp only at this; omega
  subst hn2
  obtain ⟨A2, c2, rfl, hm2⟩ := own_slice hr2
  unfold diagV
  simp only []
  have hd3 := heap_alloc_new w3 (.cells #[.int .i64 0, .int .i64 (ly : Nat), .int .i64 (cy : Nat), .int .i64 ey] 26)
  have hdl3 : w3.heap.size < (w3.alloc (.cells #[.int .i64 0, .int .i64 (ly : Nat), .int .i64 (cy : Nat), .int .i64 ey] 26)).heap.size := block_lt hd3
  have hBB := hB3.alloc hB3.size (.cells #[.int .i64 0, .int .i64 (ly : Nat), .int .i64 (cy : Nat), .int .i64 ey] 26)
  have hbb := hb3.alloc hb3.size (.cells #[.int .i64 0, .int .i64 (ly : Nat), .int .i64 (cy : Nat), .int .i64 ey] 26)
  have hrB := hr2.alloc (.cells #[.int .i64 0, .int .i64 (ly : Nat), .int .i64 (cy : Nat), .int .i64 ey] 26)
  simp only at hrB
  have hrA' := own_below HRA.out hbb
  have q2 := block_turn hx2.out (Turn.of_below (F := fun _ => False) hbb) id
  have e2 : (w3.alloc (.cells #[.int .i64 0, .int .i64 (ly : Nat), .int .i64 (cy : Nat), .int .i64 ey] 26)).cell? ⟨b2, 3, none⟩ = some (.int .i64 ex) := (cell_of_row _ _ _ _ _ (0, 0) q2).trans rfl
  have e3 : (w3.alloc (.cells #[.int .i64 0, .int .i64 (ly : Nat), .int .i64 (cy : Nat), .int .i64 ey] 26)).cell? ⟨w3.heap.size, 3, none⟩ = some (.int .i64 ey) := (cell_of_row _ _ _ _ _ (0, 0) hd3).trans rfl
  have HRA' := hid hrA'
  have HRB := hid hrB
  clear hr2 hb3 hd3 hrB hB3 hbb hrA' q2 hx2 HRA
  unfold maxLen at hm1 hm2
  have hla := HLA.out
  have hlb := HLB.out
  clear HLA HLB
  try simp only at hla hlb
  rcases hla with ⟨h1, h2⟩ | ⟨x, xe, hx⟩
  · subst h1
    have g2 : (ex != 0) = true := by rw [bne_iff_ne]; exact h2
    clear h2
    rcases hlb with ⟨h3, h4⟩ | ⟨y, ye, hy⟩
    · subst h3
      have g4 : (ey != 0) = true := by rw [bne_iff_ne]; exact h4
      clear h4
      go_wp2_with fail
      go_ret
      exact ⟨rfl, hBB⟩
    · simp only [Prod.mk.injEq] at hy
      obtain ⟨rfl, rfl, rfl, rfl⟩ := hy
      simp only [show ((0 : Nat) : Int) = 0 from rfl] at *
      go_wp2_with fail
      go_ret
      exact ⟨by first | rfl | simp, hBB⟩
  · simp only [Prod.mk.injEq] at hx
    obtain ⟨rfl, rfl, rfl, rfl⟩ := hx
    rcases hlb with ⟨h3, h4⟩ | ⟨y, ye, hy⟩
    · subst h3
      have g4 : (ey != 0) = true := by rw [bne_iff_ne]; exact h4
      clear h4
      go_wp2_with fail
      go_ret
      exact ⟨by first | rfl | simp, hBB⟩
    · simp only [Prod.mk.injEq] at hy
      obtain ⟨rfl, rfl, rfl, rfl⟩ := hy
      simp only [show ((0 : Nat) : Int) = 0 from rfl] at *
      obtain ⟨z, hz, hzk⟩ := HLAW.out x xe y ye rfl rfl
      clear HLAW
      have hxl : (x ++ [xe]).length = x.length + 1 := by simp
      have hyl : (y ++ [ye]).length = y.length + 1 := by simp
      have hzl : z.length = y.length + 1 := by have := congrArg List.length hzk; rw [List.length_map, List.length_map, hyl] at this; exact this
      have hx0 : ((x.length : Int) + 1 == 0) = false := by rw [beq_eq_false_iff_ne]; omega
      have hy0 : ((y.length : Int) + 1 == 0) = false := by rw [beq_eq_false_iff_ne]; omega
      go_wp2_with fail
      generalize hd3n : w3.heap.size = b3 at *
      generalize w3.alloc (.cells #[.int .i64 0, .int .i64 0, .int .i64 0, .int .i64 0] 26) = W3 at *
      have est : Value.string ((⟨a.toArray⟩ : ByteArray) ++ ⟨#[10, 32, 35, 32, 97, 32, 114, 101, 109, 97, 114, 107, 32, 10, 9, 13, 32]⟩ ++ ⟨b.toArray⟩) = sv (a ++ 10 :: (remarkL ++ b)) := by
        rw [str_append, str_append]
        simp [remarkL]
      rw [est]
      refine (lex_any _ _ (hX.below hBB)).mono ?_
      rintro e w4 ⟨v3, n3, rfl, hr3, hb4⟩
      rw [hz] at hr3 ⊢
      clear hz est hga hgb
      have hB4 := bthen hBB hb4
      have hn3 : n3 = x.length + (y.length + 1) := by have := hr3.1; rw [tokCells_length] at this; simp only [List.length_append, hzl] at this; omega
      subst hn3
      obtain ⟨g3, c3, rfl, _, hg3, _, hm3⟩ := own_form hr3 (by omega)
      unfold diagV
      simp only []
      have hBC := hB4.alloc hB4.size (.cells #[.int .i64 0, .int .i64 0, .int .i64 0, .int .i64 0] 26)
      have hbc := hb4.alloc hb4.size (.cells #[.int .i64 0, .int .i64 0, .int .i64 0, .int .i64 0] 26)
      simp only at hr3
      have hrC := hr3.alloc (.cells #[.int .i64 0, .int .i64 0, .int .i64 0, .int .i64 0] 26)
      have hrA2 := own_below HRA'.out hbc
      have hrB2 := own_below HRB.out hbc
      have hm3' := hm3
      unfold maxLen at hm3'
      clear hm3
      obtain ⟨g1, c1', hf1, _⟩ := own_form hrA2 (by rw [hxl]; omega)
      simp only [Value.slice.injEq] at hf1
      obtain ⟨rfl, _, rfl⟩ := hf1
      obtain ⟨g2, c2', hf2, _⟩ := own_form hrB2 (by rw [hyl]; omega)
      simp only [Value.slice.injEq] at hf2
      obtain ⟨rfl, _, rfl⟩ := hf2
      have RA := hid hrA2
      have RB := hid hrB2
      have RC := hid hrC
      have HZK := hid hzk
      rw [hxl] at hla8
      rw [hyl] at hlb8
      clear hrA2 hrB2 hrC hr3 hbc hb4 hB4 HRA' HRB hzk e2 e3
      go_wp2_with fail
      generalize w4.alloc (.cells #[.int .i64 0, .int .i64 0, .int .i64 0, .int .i64 0] 26) = W4 at *
      go_loopw [12] (fun v12 wr => ∃ i : Nat, v12 = .int .i64 i ∧ i ≤ x.length ∧ Below W4.heap.size W4 wr) (fun v12 _ => x.length - (intOf v12).toNat)
      case atStart => exact ⟨0, rfl, by omega, Below.refl _ _⟩
      case round =>
        obtain ⟨i, rfl, hi, hbr⟩ := hrel
        by_cases hlt : i < x.length
        · have ha := own_below RA.out hbr
          have hc := own_below RC.out hbr
          obtain ⟨a0, a1, a2, a3⟩ := tok_cells ha (i := i) (by rw [hxl]; omega)
          obtain ⟨b0, b1, b2, b3⟩ := tok_cells hc (i := i) (by rw [List.length_append]; omega)
          rw [List.getElem_append_left hlt] at a0 a1 a2 a3 b0 b1 b2 b3
          clear ha hc
          generalize x[i] = T at *
          obtain ⟨kd, t, ln, cl⟩ := T
          simp only at a0 a1 a2 a3 b0 b1 b2 b3
          go_wp2_with fail
          go_quiet (fail)
          go_wp2_with fail
          go_roundw
          case rel => exact ⟨i + 1, rfl, by omega, hbr.trans ((below_drawn wr _).mono hbr.size)⟩
          case measure => simp [intOf]; omega
        · have hlt2 : ¬ (i : Int) + 1 < (x.length : Int) + 1 := by omega
          obtain ⟨wq, hwq⟩ : ∃ wq, wq = wr := ⟨_, rfl⟩
          rw [← hwq] at hbr
          rw [← hwq]
          clear hwq
          go_wp2_with fail
          go_loopw [13, 14] (fun v13 v14 wr => ∃ i : Nat, v13 = .int .i64 i ∧ i ≤ y.length + 1 ∧ Below W4.heap.size W4 wr) (fun v13 _ _ => y.length + 1 - (intOf v13).toNat)
          case atStart => exact ⟨0, rfl, by omega, hbr⟩
          case round =>
            obtain ⟨j, rfl, hj, hbj⟩ := hrel
            by_cases hlt1 : j < y.length + 1
            · have hc := own_below RC.out hbj
              have hb := own_below RB.out hbj
              have hzj : j < z.length := by omega
              have hyj : j < (y ++ [ye]).length := by omega
              obtain ⟨a0, a1, a2, a3⟩ := tok_cells hc (i := x.length + j) (by rw [List.length_append]; omega)
              obtain ⟨b0, b1, b2, b3⟩ := tok_cells hb hyj
              have hzg : (x ++ z)[x.length + j]'(by rw [List.length_append]; omega) = z[j] := by
                rw [List.getElem_append_right (by omega)]; simp
              rw [hzg] at a0 a1 a2 a3
              have hkt : ktOf z[j] = ktOf ((y ++ [ye])[j]) := by
                have h1 : (z.map ktOf)[j]'(by simpa using hzj) = ((y ++ [ye]).map ktOf)[j]'(by simpa using hyj) := by simp only [HZK.out]
                rw [List.getElem_map, List.getElem_map] at h1
                exact h1
              clear hc hb hzg
              generalize z[j] = T at *
              generalize (y ++ [ye])[j] = U at *
              obtain ⟨kd, t, ln, cl⟩ := T
              obtain ⟨kd2, t2, ln2, cl2⟩ := U
              simp only [ktOf, Prod.mk.injEq] at hkt a0 a1 a2 a3 b0 b1 b2 b3
              obtain ⟨rfl, rfl⟩ := hkt
              have hall : Below wr.heap.size wr (wr.alloc (.cells #[.int .i64 kd, sv t, .int .i64 (ln : Nat), .int .i64 (cl : Nat)] 32)) := (Below.refl _ _).alloc (Nat.le_refl _) _
              have b0' := (hall.cell (p := ⟨g2, j * 4, none⟩) (cell_in b0)).trans b0
              have b1' := (hall.cell (p := ⟨g2, j * 4 + 1, none⟩) (cell_in b1)).trans b1
              have hkk : (kd != kd) = false := by simp
              have htt : (t != t) = false := by simp
              have hto : ((x.length : Int) + j).toNat = x.length + j := by omega
              go_wp2_with fail
              go_quiet (fail)
              go_wp2_with fail
              go_roundw
              case rel => exact ⟨j + 1, rfl, by omega, (hbj.alloc hbj.size _).trans (below_drawn _ _)⟩
              case measure => simp [intOf]; omega
            · have hlt3 : ¬ (j : Int) < (y.length : Int) + 1 := by omega
              go_wp2_with fail
              go_ret
              exact ⟨rfl, hBC.trans (hbj.mono hBC.size)⟩
end Go.Proofs.YtpgngegdflbahaaDoor
