/- A writer of bytes: lists of structs. -/
import Derived.Test.YtpnggkkfoipfhaaBL
set_option linter.unusedVariables false
namespace Go.Proofs.Ytpnggkkfoipfhaa
open Go.RowKit

theorem cell_lt {w : World} {g i : Nat} {v : Value} (h : w.cell? ⟨g, i, none⟩ = some v) : g < w.heap.size := by
  rcases Nat.lt_or_ge g w.heap.size with h1 | h1
  · exact h1
  · simp [World.cell?, Array.getElem?_eq_none h1] at h
theorem WrTo.more {base : Nat} {F : Nat → Prop} {bw : Nat} {w w1 w2 : World} {b2 : Bt} {F1 : Nat → Prop} (t1 : Turn F w w1) (n1 : ∀ k, F1 k → F k ∨ w.heap.size ≤ k) (h : WrTo base F1 bw w1 w2 b2) : WrTo base F bw w w2 b2 := by
  obtain ⟨F2, g1, g2, g3⟩ := h
  refine ⟨F2, g1, t1.trans g2 (fun i hi hF => (n1 i hF).elim id (fun h => absurd h (by omega))), fun j hj => ?_⟩
  rcases g3 j hj with h | h
  · exact n1 j h
  · exact .inr (Nat.le_trans t1.size h)

set_option maxRecDepth 100000 in
set_option maxHeartbeats 1000000 in
theorem needone_any (w : World) (base : Nat) (F : Nat → Prop) (bw bt : Nat) (b : Bt) (x : Bt × Int) (hW : WrAt w base F bw b) (hbt : w.cell? ⟨bt, 0, none⟩ = some (.pointer (some ⟨bw, 0, none⟩))) (hbF : ¬ F bt) (hok : In64 (x.1.length : Int) ∧ In64 x.2) (hlen : b.length + (needE x).length + 100 ≤ 140737488355000) :
    Calls Try.prog 44 #[.agg #[sv x.1, .int .i64 x.2], .pointer (some ⟨bt, 0, none⟩)] w fun e w' => e = .returned (.tuple #[]) ∧ WrTo base F bw w w' (b ++ needE x) := by
  obtain ⟨s, n⟩ := x
  have hnl : (needE (s, n)).length = (textE s).length + (putL n).length := by unfold needE; rw [List.length_append]
  simp only at hok ⊢
  have hpl := putL_some n
  have hF : ∀ k, F k → base ≤ k ∧ k < w.heap.size := by obtain ⟨_, _, _, _, _, h⟩ := hW; exact h
  have hbl := cell_lt hbt
  have hb1 : Below w.heap.size w (w.alloc (.cells #[sv s, .int .i64 n] 84)) := (Below.refl _ _).alloc (Nat.le_refl _) _
  have hbt1 := (hb1.cell (p := ⟨bt, 0, none⟩) hbl).trans hbt
  have hx := heap_alloc_new w (.cells #[sv s, .int .i64 n] 84)
  have hT := hid (text_any (w.alloc (.cells #[sv s, .int .i64 n] 84)) base F bw b s (hW.below hb1) hok.1 (by omega))
  have hxl := block_lt hx
  have HX := hid hx
  have HB1 := hid hb1
  go_enter Try.func44, Try.ntmps44
  go_wp2_with fail
  refine hT.out.mono ?_
  rintro e w2 ⟨rfl, F1, hw1, t1, n1⟩
  have k0 := ss_cell' t1 (cell_lt hbt1) hbF hbt1
  have hx2 := block_turn HX.out t1 (fun h => by have := (hF _ h).2; omega)
  have k1 : w2.cell? ⟨w.heap.size, 1, none⟩ = some (.int .i64 n) := (cell_of_row _ _ _ _ _ (0, 0) hx2).trans rfl
  have hF1 : ∀ k, F1 k → base ≤ k ∧ k < w2.heap.size := by obtain ⟨_, _, _, _, _, h⟩ := hw1; exact h
  have hb2 : Below w2.heap.size w2 (w2.alloc (.cells #[.int .i64 n] 3)) := (Below.refl _ _).alloc (Nat.le_refl _) _
  have hN := hid (num_any (w2.alloc (.cells #[.int .i64 n] 3)) base F1 bw (b ++ textE s) (.slice (some ⟨w2.heap.size, 0, none⟩) 1 1) [n] (hw1.below hb2) (by simpa using is_new w2 n 3) (fun g hg h => by injection hg with hg; have := (hF1 _ h).2; rw [← hg] at this; simp at this) (by simpa using hok.2) (by rw [List.length_append]; simp; omega))
  have HW1 := hid hw1
  clear hT hw1 hW
  go_wp2_with fail
  refine hN.out.mono ?_
  rintro e w3 ⟨rfl, hto⟩
  have hto := WrTo.first HB1.out (WrTo.more t1 n1 (WrTo.first hb2 hto))
  go_wp2_with fail
  go_end0
  refine ⟨rfl, ?_⟩
  have : b ++ needE (s, n) = b ++ textE s ++ [n].flatMap putL := by unfold needE; simp
  rw [this]; exact hto

set_option maxRecDepth 100000 in
set_option maxHeartbeats 2000000 in
theorem list_need_any (w : World) (base : Nat) (F : Nat → Prop) (bw : Nat) (b : Bt) (v : Value) (l : List (Bt × Int)) (hW : WrAt w base F bw b) (bt : Nat) (hbt : w.cell? ⟨bt, 0, none⟩ = some (.pointer (some ⟨bw, 0, none⟩))) (hbF : ¬ F bt) (hv : Sl w base 2 v (needsV l)) (hll : In64 (l.length : Int)) (hok : ∀ x ∈ l, In64 (x.1.length : Int) ∧ In64 x.2) (hlen : b.length + (listE needE l).length + 100 ≤ 140737488355000) :
    Calls Try.prog 43 #[.pointer (some ⟨bw, 0, none⟩), v, .func (.func 44) #[] #[.pointer (some ⟨bt, 0, none⟩)]] w fun e w' => e = .returned (.tuple #[]) ∧ WrTo base F bw w w' (b ++ listE needE l) := by
  have hpl := putL_some (l.length : Int)
  have hle : (listE needE l).length = (putL (l.length : Int)).length + (l.flatMap needE).length := by unfold listE; rw [List.length_append]
  have hF : ∀ k, F k → base ≤ k ∧ k < w.heap.size := by obtain ⟨_, _, _, _, _, h⟩ := hW; exact h
  have hb1 : Below w.heap.size w (w.alloc (.cells #[.int .i64 (l.length : Int)] 3)) := (Below.refl _ _).alloc (Nat.le_refl _) _
  have hN := hid (num_any (w.alloc (.cells #[.int .i64 (l.length : Int)] 3)) base F bw b (.slice (some ⟨w.heap.size, 0, none⟩) 1 1) [(l.length : Int)] (hW.below hb1) (by simpa using is_new w (l.length : Int) 3) (fun g hg h => by injection hg with hg; have := (hF _ h).2; rw [← hg] at this; simp at this) (by simpa using hll) (by simp; omega))
  have HV := hid hv
  have hvl : (needsV l).length = l.length * 2 := by
    have : ∀ m : List (Bt × Int), (needsV m).length = m.length * 2 := by
      intro m
      induction m with
      | nil => rfl
      | cons x m ih =>
        have e : needsV (x :: m) = [sv x.1, .int .i64 x.2] ++ needsV m := rfl
        rw [e, List.length_append, ih, List.length_cons]; simp; omega
    exact this l
  obtain ⟨A, n0, c, rfl, hnl, hn, hc, _⟩ := hv
  obtain rfl : l.length = n0 := by omega
  unfold maxLen at hc
  have hbl := cell_lt hbt
  have HW := hid hW
  have HOK := hid hok
  clear hW hok
  go_enter Try.func43, Try.ntmps43
  go_wp2_with fail
  refine hN.out.mono ?_
  rintro e w2 ⟨rfl, hto⟩
  have hto0 : WrTo base F bw w w2 (b ++ (putL (l.length : Int) ++ (l.take 0).flatMap needE)) := by
    have h := WrTo.first hb1 hto
    simpa using h
  have HTO0 := hid hto0
  clear hto hto0 hN
  go_wp2_with fail
  go_loopw [7, 15] (fun v7 v15 wr => ∃ k : Nat, v15 = .int .i64 k ∧ k ≤ l.length ∧ WrTo base F bw w wr (b ++ (putL (l.length : Int) ++ (l.take k).flatMap needE))) (fun _ v15 _ => l.length - (intOf v15).toNat)
  case atStart => exact ⟨0, rfl, by omega, HTO0.out⟩
  case round =>
    obtain ⟨k, rfl, hk, hto⟩ := hrel
    by_cases hlt : k < l.length
    · have hbel := WrTo.bel HW.out hto
      have HTO := hid hto
      obtain ⟨F1, hw1, t1, n1⟩ := hto
      obtain ⟨bx, off, rfl, hcell⟩ := sl_at HV.out hbel rfl hlt (by omega)
      have d1 : wr.cell? ⟨bx, off + k * 2, none⟩ = some (sv l[k].1) := by
        have := hcell 0 (sv l[k].1) (by rw [needsV, flat_some (k := 2) (fun _ => rfl) l k hlt 0 (by omega)]; rfl)
        simpa using this
      have d2 : wr.cell? ⟨bx, off + k * 2 + 1, none⟩ = some (.int .i64 l[k].2) := by
        have := hcell 1 (.int .i64 l[k].2) (by rw [needsV, flat_some (k := 2) (fun _ => rfl) l k hlt 1 (by omega)]; rfl)
        simpa [Nat.add_assoc] using this
      have d0 := ss_cell' t1 hbl hbF hbt
      clear hcell
      have hxok := HOK.out l[k] (List.getElem_mem hlt)
      have hst := enc_take needE hlt
      have hpt := enc_part needE hlt
      generalize l[k] = X at *
      obtain ⟨bk, hbk⟩ : ∃ bk, bk = b ++ (putL (l.length : Int) ++ (l.take k).flatMap needE) := ⟨_, rfl⟩
      have hbkl : bk.length = b.length + ((putL (l.length : Int)).length + ((l.take k).flatMap needE).length) := by rw [hbk, List.length_append, List.length_append]
      rw [← hbk] at hw1
      have fin : ∀ w10, WrTo base F1 bw wr w10 (bk ++ needE X) → ∃ k_1 : Nat, Value.int .i64 ((k : Int) + 1) = .int .i64 k_1 ∧ k_1 ≤ l.length ∧ WrTo base F bw w w10 (b ++ (putL (l.length : Int) ++ (l.take k_1).flatMap needE)) := by
        intro w10 h10
        refine ⟨k + 1, rfl, by omega, ?_⟩
        rw [hst, ← List.append_assoc (putL (l.length : Int)), ← List.append_assoc b, ← hbk]
        obtain ⟨F2, g1, g2, g3⟩ := h10
        refine ⟨F2, g1, t1.trans g2 (fun i hi hF => (n1 i hF).elim id (fun h => absurd h (by omega))), fun j hj => ?_⟩
        rcases g3 j hj with h | h
        · exact n1 j h
        · exact .inr (Nat.le_trans t1.size h)
      have FIN := hid fin
      have HBK := hid hbk
      clear fin hbk hst
      obtain ⟨X1, X2⟩ := X
      simp only at d1 d2
      have hba : Below wr.heap.size wr (wr.alloc (.cells #[sv X1, .int .i64 X2] 84)) := (Below.refl _ _).alloc (Nat.le_refl _) _
      have hbF1 : ¬ F1 bt := fun h => (n1 bt h).elim hbF (fun h => absurd h (by omega))
      go_wp2_with fail
      refine (needone_any (wr.alloc (.cells #[sv X1, .int .i64 X2] 84)) base F1 bw bt bk (X1, X2) (hw1.below hba) ((hba.cell (p := ⟨bt, 0, none⟩) (cell_lt d0)).trans d0) hbF1 hxok (by omega)).mono ?_
      rintro e w10 ⟨rfl, hto10⟩
      have FN := hid (FIN.out w10 (WrTo.first hba hto10))
      clear hto10
      go_wp2_with fail
      go_roundw
      case rel => exact FN.out
      case measure => simp [intOf]; omega
    · obtain rfl : k = l.length := by omega
      rw [List.take_length] at hto
      go_wp2_with fail
      go_end0
      exact ⟨rfl, hto⟩
end Go.Proofs.Ytpnggkkfoipfhaa
