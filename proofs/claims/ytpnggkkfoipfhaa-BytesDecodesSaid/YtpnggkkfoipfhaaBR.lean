/- A writer of bytes: coercions, and Encode. -/
import Derived.Test.YtpnggkkfoipfhaaBO
set_option linter.unusedVariables false
namespace Go.Proofs.Ytpnggkkfoipfhaa
open Go.RowKit

theorem part_get {xs ys : List Value} {n m : Nat} (h : (xs.drop n).take m = ys) {j : Nat} (hj : j < m) : xs[n + j]? = ys[j]? := by
  rw [← h, List.getElem?_take, if_pos hj, List.getElem?_drop]

set_option maxRecDepth 100000 in
set_option maxHeartbeats 2000000 in
theorem list_proc_any (w : World) (base : Nat) (F : Nat → Prop) (bw : Nat) (b : Bt) (v : Value) (l : List ProcD) (hW : WrAt w base F bw b) (xp : List Value) (hr : ProcsR w base xp l) (hv : Sl w base 3 v xp) (hll : In64 (l.length : Int)) (hok : ∀ x ∈ l, ProcOk x) (hlen : b.length + (listE procE l).length + 100 ≤ 140737488355000) :
    Calls Try.prog 24 #[.pointer (some ⟨bw, 0, none⟩), v, .func (.func 25) #[.pointer (some ⟨bw, 0, none⟩)] #[]] w fun e w' => e = .returned (.tuple #[]) ∧ WrTo base F bw w w' (b ++ listE procE l) := by
  have hpl := putL_some (l.length : Int)
  have hle : (listE procE l).length = (putL (l.length : Int)).length + (l.flatMap procE).length := by unfold listE; rw [List.length_append]
  have hF : ∀ k, F k → base ≤ k ∧ k < w.heap.size := by obtain ⟨_, _, _, _, _, h⟩ := hW; exact h
  have hb1 : Below w.heap.size w (w.alloc (.cells #[.int .i64 (l.length : Int)] 3)) := (Below.refl _ _).alloc (Nat.le_refl _) _
  have hN := hid (num_any (w.alloc (.cells #[.int .i64 (l.length : Int)] 3)) base F bw b (.slice (some ⟨w.heap.size, 0, none⟩) 1 1) [(l.length : Int)] (hW.below hb1) (by simpa using is_new w (l.length : Int) 3) (fun g hg h => by injection hg with hg; have := (hF _ h).2; rw [← hg] at this; simp at this) (by simpa using hll) (by simp; omega))
  have HV := hid hv
  have HR := hid hr
  obtain ⟨A, n0, c, rfl, hnl, hn, hc, _⟩ := hv
  obtain rfl : l.length = n0 := by have := hr.1; omega
  unfold maxLen at hc
  clear hr
  have HW := hid hW
  have HOK := hid hok
  clear hW hok
  go_enter Try.func24, Try.ntmps24
  go_wp2_with fail
  refine hN.out.mono ?_
  rintro e w2 ⟨rfl, hto⟩
  have hto0 : WrTo base F bw w w2 (b ++ (putL (l.length : Int) ++ (l.take 0).flatMap procE)) := by
    have h := WrTo.first hb1 hto
    simpa using h
  have HTO0 := hid hto0
  clear hto hto0 hN
  go_wp2_with fail
  go_loopw [7, 15] (fun v7 v15 wr => ∃ k : Nat, v15 = .int .i64 k ∧ k ≤ l.length ∧ WrTo base F bw w wr (b ++ (putL (l.length : Int) ++ (l.take k).flatMap procE))) (fun _ v15 _ => l.length - (intOf v15).toNat)
  case atStart => exact ⟨0, rfl, by omega, HTO0.out⟩
  case round =>
    obtain ⟨k, rfl, hk, hto⟩ := hrel
    by_cases hlt : k < l.length
    · have hbel := WrTo.bel HW.out hto
      have HTO := hid hto
      obtain ⟨F1, hw1, t1, n1⟩ := hto
      obtain ⟨bx, off, rfl, hcell⟩ := sl_at HV.out hbel rfl hlt (by omega)
      obtain ⟨vk, hvk, hsk⟩ := HR.out.2 k hlt
      obtain ⟨Ak, nk, ck, rfl, _⟩ := id hsk
      have d1 : wr.cell? ⟨bx, off + k * 3, none⟩ = some (.int .i64 l[k].caps) := by
        have := hcell 0 _ (part_get hvk (by omega : 0 < 3))
        simpa using this
      have d2 : wr.cell? ⟨bx, off + k * 3 + 1, none⟩ = some (.int .i64 l[k].regs) := by
        have := hcell 1 _ (part_get hvk (by omega : 1 < 3))
        simpa [Nat.add_assoc] using this
      have d3 : wr.cell? ⟨bx, off + k * 3 + 2, none⟩ = some (.slice Ak nk ck) := by
        have := hcell 2 _ (part_get hvk (by omega : 2 < 3))
        simpa [Nat.add_assoc] using this
      have hsk' := hsk.below hbel
      clear hcell hvk hsk
      have hxok := HOK.out l[k] (List.getElem_mem hlt)
      have hst := enc_take procE hlt
      have hpt := enc_part procE hlt
      generalize l[k] = X at *
      obtain ⟨bk, hbk⟩ : ∃ bk, bk = b ++ (putL (l.length : Int) ++ (l.take k).flatMap procE) := ⟨_, rfl⟩
      have hbkl : bk.length = b.length + ((putL (l.length : Int)).length + ((l.take k).flatMap procE).length) := by rw [hbk, List.length_append, List.length_append]
      rw [← hbk] at hw1
      have fin : ∀ w10, WrTo base F1 bw wr w10 (bk ++ procE X) → ∃ k_1 : Nat, Value.int .i64 ((k : Int) + 1) = .int .i64 k_1 ∧ k_1 ≤ l.length ∧ WrTo base F bw w w10 (b ++ (putL (l.length : Int) ++ (l.take k_1).flatMap procE)) := by
        intro w10 h10
        refine ⟨k + 1, rfl, by omega, ?_⟩
        rw [hst, ← List.append_assoc (putL (l.length : Int)), ← List.append_assoc b, ← hbk]
        obtain ⟨F2, g1, g2, g3⟩ := h10
        refine ⟨F2, g1, t1.trans g2 (fun i hi hF => (n1 i hF).elim id (fun h => absurd h (by omega))), fun j hj => ?_⟩
        rcases g3 j hj with h | h
        · exact n1 j h
        · exact .inr (Nat.le_trans t1.size h)
      have FIN := hid fin
      have HBK := hid hbk
      clear fin hbk hst
      obtain ⟨X1, X2, X3⟩ := X
      simp only at d1 d2 d3 hsk'
      have HSK := hid hsk'
      have hba : Below wr.heap.size wr (wr.alloc (.cells #[.int .i64 X1, .int .i64 X2, .slice Ak nk ck] 47)) := (Below.refl _ _).alloc (Nat.le_refl _) _
      have hbw := hw1.base
      have hsk2 := HSK.out.below (hba.mono hbw)
      have HP := hid (proc_any (wr.alloc (.cells #[.int .i64 X1, .int .i64 X2, .slice Ak nk ck] 47)) base F1 bw bk ⟨X1, X2, X3⟩ (.slice Ak nk ck) (hw1.below hba) hsk2 hxok (by omega))
      clear hsk' hsk2
      go_wp2_with fail
      refine HP.out.mono ?_
      rintro e w10 ⟨rfl, hto10⟩
      have FN := hid (FIN.out w10 (WrTo.first hba hto10))
      clear hto10
      go_wp2_with fail
      go_roundw
      case rel => exact FN.out
      case measure => simp [intOf]; omega
    · obtain rfl : k = l.length := by omega
      rw [List.take_length] at hto
      go_wp2_with fail
      go_end0
      exact ⟨rfl, hto⟩

/-- The contract of writing this coercion. -/
def CoC (c : CoD) : Prop := ∀ (w : World) (base : Nat) (F : Nat → Prop) (bw : Nat) (b : Bt) (x : List Value), WrAt w base F bw b → CoR w base x c → coOk c → b.length + (coE c).length + 100 ≤ 140737488355000 →
    Calls Try.prog 23 #[.pointer (some ⟨bw, 0, none⟩), .agg x.toArray] w fun e w' => e = .returned (.tuple #[]) ∧ WrTo base F bw w w' (b ++ coE c)
theorem CoR.slices {w : World} {B : Nat} {x : List Value} {c : CoD} (h : CoR w B x c) : ∃ A1 n1 c1 A2 n2 c2 A3 n3 c3 A4 n4 c4 A5 n5 c5, x = [.slice A1 n1 c1, .slice A2 n2 c2, .slice A3 n3 c3, .slice A4 n4 c4, .slice A5 n5 c5] := by
  cases h with
  | mk h1 h2 h3 h4 _ h6 _ =>
    obtain ⟨A1, n1, c1, rfl, _⟩ := h1
    obtain ⟨A2, n2, c2, rfl, _⟩ := h2
    obtain ⟨A3, n3, c3, rfl, _⟩ := h3
    obtain ⟨A4, n4, c4, rfl, _⟩ := h4
    obtain ⟨A5, n5, c5, rfl, _⟩ := h6
    exact ⟨_, _, _, _, _, _, _, _, _, _, _, _, _, _, _, rfl⟩

set_option maxRecDepth 100000 in
set_option maxHeartbeats 2000000 in
theorem list_co_any (w : World) (base : Nat) (F : Nat → Prop) (bw : Nat) (b : Bt) (v : Value) (l : List CoD) (hW : WrAt w base F bw b) (xc : List Value) (hr : CosR w base xc l) (hC : ∀ x ∈ l, CoC x) (hv : Sl w base 5 v xc) (hll : In64 (l.length : Int)) (hok : ∀ x ∈ l, coOk x) (hlen : b.length + (listE coE l).length + 100 ≤ 140737488355000) :
    Calls Try.prog 22 #[.pointer (some ⟨bw, 0, none⟩), v, .func (.func 23) #[.pointer (some ⟨bw, 0, none⟩)] #[]] w fun e w' => e = .returned (.tuple #[]) ∧ WrTo base F bw w w' (b ++ listE coE l) := by
  have hpl := putL_some (l.length : Int)
  have hle : (listE coE l).length = (putL (l.length : Int)).length + (l.flatMap coE).length := by unfold listE; rw [List.length_append]
  have hF : ∀ k, F k → base ≤ k ∧ k < w.heap.size := by obtain ⟨_, _, _, _, _, h⟩ := hW; exact h
  have hb1 : Below w.heap.size w (w.alloc (.cells #[.int .i64 (l.length : Int)] 3)) := (Below.refl _ _).alloc (Nat.le_refl _) _
  have hN := hid (num_any (w.alloc (.cells #[.int .i64 (l.length : Int)] 3)) base F bw b (.slice (some ⟨w.heap.size, 0, none⟩) 1 1) [(l.length : Int)] (hW.below hb1) (by simpa using is_new w (l.length : Int) 3) (fun g hg h => by injection hg with hg; have := (hF _ h).2; rw [← hg] at this; simp at this) (by simpa using hll) (by simp; omega))
  have HV := hid hv
  have HR := hid hr
  have HC := hid hC
  obtain ⟨A, n0, c, rfl, hnl, hn, hc, _⟩ := hv
  obtain rfl : l.length = n0 := by have := hr.length; omega
  unfold maxLen at hc
  clear hr hC
  have HW := hid hW
  have HOK := hid hok
  clear hW hok
  go_enter Try.func22, Try.ntmps22
  go_wp2_with fail
  refine hN.out.mono ?_
  rintro e w2 ⟨rfl, hto⟩
  have hto0 : WrTo base F bw w w2 (b ++ (putL (l.length : Int) ++ (l.take 0).flatMap coE)) := by
    have h := WrTo.first hb1 hto
    simpa using h
  have HTO0 := hid hto0
  clear hto hto0 hN
  go_wp2_with fail
  go_loopw [7, 15] (fun v7 v15 wr => ∃ k : Nat, v15 = .int .i64 k ∧ k ≤ l.length ∧ WrTo base F bw w wr (b ++ (putL (l.length : Int) ++ (l.take k).flatMap coE))) (fun _ v15 _ => l.length - (intOf v15).toNat)
  case atStart => exact ⟨0, rfl, by omega, HTO0.out⟩
  case round =>
    obtain ⟨k, rfl, hk, hto⟩ := hrel
    by_cases hlt : k < l.length
    · have hbel := WrTo.bel HW.out hto
      have HTO := hid hto
      obtain ⟨F1, hw1, t1, n1⟩ := hto
      obtain ⟨bx, off, rfl, hcell⟩ := sl_at HV.out hbel rfl hlt (by omega)
      have hck := HC.out l[k] (List.getElem_mem hlt)
      have hrk := (HR.out.at k hlt).keep hbel
      obtain ⟨A1, n1_, c1, A2, n2, c2, A3, n3, c3, A4, n4, c4, A5, n5, c5, hvk⟩ := hrk.slices
      rw [hvk] at hrk
      have d1 : wr.cell? ⟨bx, off + k * 5, none⟩ = some (.slice A1 n1_ c1) := by
        have := hcell 0 _ (part_get hvk (by omega : 0 < 5))
        simpa using this
      have d2 : wr.cell? ⟨bx, off + k * 5 + 1, none⟩ = some (.slice A2 n2 c2) := by
        have := hcell 1 _ (part_get hvk (by omega : 1 < 5))
        simpa [Nat.add_assoc] using this
      have d3 : wr.cell? ⟨bx, off + k * 5 + 2, none⟩ = some (.slice A3 n3 c3) := by
        have := hcell 2 _ (part_get hvk (by omega : 2 < 5))
        simpa [Nat.add_assoc] using this
      have d4 : wr.cell? ⟨bx, off + k * 5 + 3, none⟩ = some (.slice A4 n4 c4) := by
        have := hcell 3 _ (part_get hvk (by omega : 3 < 5))
        simpa [Nat.add_assoc] using this
      have d5 : wr.cell? ⟨bx, off + k * 5 + 4, none⟩ = some (.slice A5 n5 c5) := by
        have := hcell 4 _ (part_get hvk (by omega : 4 < 5))
        simpa [Nat.add_assoc] using this
      have HRK := hid hrk
      have HCK := hid hck
      clear hcell hvk hrk hck
      have hxok := HOK.out l[k] (List.getElem_mem hlt)
      have hst := enc_take coE hlt
      have hpt := enc_part coE hlt
      generalize l[k] = X at *
      obtain ⟨bk, hbk⟩ : ∃ bk, bk = b ++ (putL (l.length : Int) ++ (l.take k).flatMap coE) := ⟨_, rfl⟩
      have hbkl : bk.length = b.length + ((putL (l.length : Int)).length + ((l.take k).flatMap coE).length) := by rw [hbk, List.length_append, List.length_append]
      rw [← hbk] at hw1
      have fin : ∀ w10, WrTo base F1 bw wr w10 (bk ++ coE X) → ∃ k_1 : Nat, Value.int .i64 ((k : Int) + 1) = .int .i64 k_1 ∧ k_1 ≤ l.length ∧ WrTo base F bw w w10 (b ++ (putL (l.length : Int) ++ (l.take k_1).flatMap coE)) := by
        intro w10 h10
        refine ⟨k + 1, rfl, by omega, ?_⟩
        rw [hst, ← List.append_assoc (putL (l.length : Int)), ← List.append_assoc b, ← hbk]
        obtain ⟨F2, g1, g2, g3⟩ := h10
        refine ⟨F2, g1, t1.trans g2 (fun i hi hF => (n1 i hF).elim id (fun h => absurd h (by omega))), fun j hj => ?_⟩
        rcases g3 j hj with h | h
        · exact n1 j h
        · exact .inr (Nat.le_trans t1.size h)
      have FIN := hid fin
      have HBK := hid hbk
      clear fin hbk hst
      have hba : Below wr.heap.size wr (wr.alloc (.cells #[.slice A1 n1_ c1, .slice A2 n2 c2, .slice A3 n3 c3, .slice A4 n4 c4, .slice A5 n5 c5] 42)) := (Below.refl _ _).alloc (Nat.le_refl _) _
      have hbw := hw1.base
      have HP := hid (HCK.out (wr.alloc (.cells #[.slice A1 n1_ c1, .slice A2 n2 c2, .slice A3 n3 c3, .slice A4 n4 c4, .slice A5 n5 c5] 42)) base F1 bw bk [.slice A1 n1_ c1, .slice A2 n2 c2, .slice A3 n3 c3, .slice A4 n4 c4, .slice A5 n5 c5] (hw1.below hba) (HRK.out.keep (hba.mono hbw)) hxok (by omega))
      go_wp2_with fail
      refine HP.out.mono ?_
      rintro e w10 ⟨rfl, hto10⟩
      have FN := hid (FIN.out w10 (WrTo.first hba hto10))
      clear hto10
      go_wp2_with fail
      go_roundw
      case rel => exact FN.out
      case measure => simp [intOf]; omega
    · obtain rfl : k = l.length := by omega
      rw [List.take_length] at hto
      go_wp2_with fail
      go_end0
      exact ⟨rfl, hto⟩
end Go.Proofs.Ytpnggkkfoipfhaa
