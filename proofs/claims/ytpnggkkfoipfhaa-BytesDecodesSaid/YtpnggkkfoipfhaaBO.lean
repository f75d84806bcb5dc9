/- A writer of bytes: instructions, lists of texts, functions. -/
import Derived.Test.YtpnggkkfoipfhaaBN
set_option linter.unusedVariables false
namespace Go.Proofs.Ytpnggkkfoipfhaa
open Go.RowKit

set_option maxRecDepth 100000 in
set_option maxHeartbeats 1000000 in
theorem instrone_any (w : World) (base : Nat) (F : Nat → Prop) (bw bt : Nat) (b : Bt) (x : Int × Int × Int × Int) (hW : WrAt w base F bw b) (hbt : w.cell? ⟨bt, 0, none⟩ = some (.pointer (some ⟨bw, 0, none⟩))) (hok : InstrOk x) (hlen : b.length + (instrE x).length + 100 ≤ 140737488355000) :
    Calls Try.prog 46 #[.agg #[.int .i64 x.1, .int .i64 x.2.1, .int .i64 x.2.2.1, .int .i64 x.2.2.2], .pointer (some ⟨bt, 0, none⟩)] w fun e w' => e = .returned (.tuple #[]) ∧ WrTo base F bw w w' (b ++ instrE x) := by
  obtain ⟨x1, x2, x3, x4⟩ := x
  unfold InstrOk at hok
  simp only at hok ⊢
  have hF : ∀ k, F k → base ≤ k ∧ k < w.heap.size := by obtain ⟨_, _, _, _, _, h⟩ := hW; exact h
  have hbl := cell_lt hbt
  have hil : 4 ≤ (instrE (x1, x2, x3, x4)).length := by
    have := (putL_some x1).1
    have := (putL_some x2).1
    have := (putL_some x3).1
    have := (putL_some x4).1
    unfold instrE
    simp only [List.length_append]
    omega
  have hb1 : Below w.heap.size w (w.alloc (.cells #[.int .i64 x1, .int .i64 x2, .int .i64 x3, .int .i64 x4] 64)) := (Below.refl _ _).alloc (Nat.le_refl _) _
  have hb2 := hb1.alloc (by simp) (.cells #[.int .i64 x1, .int .i64 x2, .int .i64 x3, .int .i64 x4] 3)
  have hbt1 := (hb1.cell (p := ⟨bt, 0, none⟩) hbl).trans hbt
  have hs1 : (w.alloc (.cells #[.int .i64 x1, .int .i64 x2, .int .i64 x3, .int .i64 x4] 64)).heap.size = w.heap.size + 1 := by simp
  have hv := sl_new (w.alloc (.cells #[.int .i64 x1, .int .i64 x2, .int .i64 x3, .int .i64 x4] 64)) #[.int .i64 x1, .int .i64 x2, .int .i64 x3, .int .i64 x4] 3 1 4 rfl (by decide)
  rw [hs1] at hv
  have hN := hid (num_any ((w.alloc (.cells #[.int .i64 x1, .int .i64 x2, .int .i64 x3, .int .i64 x4] 64)).alloc (.cells #[.int .i64 x1, .int .i64 x2, .int .i64 x3, .int .i64 x4] 3)) base F bw b (.slice (some ⟨w.heap.size + 1, 0, none⟩) 4 4) [x1, x2, x3, x4] (hW.below hb2) (by simpa [intsV] using hv) (fun g hg h => by injection hg with hg; have := (hF _ h).2; rw [← hg] at this; simp at this; omega) (by
    intro y hy
    simp only [List.mem_cons, List.not_mem_nil, or_false] at hy
    rcases hy with rfl | rfl | rfl | rfl
    · exact hok.1
    · exact hok.2.1
    · exact hok.2.2.1
    · exact hok.2.2.2) (by simp only [List.length_cons, List.length_nil]; omega))
  have HB2 := hid hb2
  clear hW hv
  go_enter Try.func46, Try.ntmps46
  go_wp2_with fail
  refine hN.out.mono ?_
  rintro e w3 ⟨rfl, hto⟩
  have hto := WrTo.first HB2.out hto
  go_wp2_with fail
  go_end0
  refine ⟨rfl, ?_⟩
  have : instrE (x1, x2, x3, x4) = [x1, x2, x3, x4].flatMap putL := by unfold instrE; simp
  rw [this]; exact hto

set_option maxRecDepth 100000 in
set_option maxHeartbeats 2000000 in
theorem list_instr_any (w : World) (base : Nat) (F : Nat → Prop) (bw : Nat) (b : Bt) (v : Value) (l : List (Int × Int × Int × Int)) (hW : WrAt w base F bw b) (bt : Nat) (hbt : w.cell? ⟨bt, 0, none⟩ = some (.pointer (some ⟨bw, 0, none⟩))) (hbF : ¬ F bt) (hv : Sl w base 4 v (instrsV l)) (hll : In64 (l.length : Int)) (hok : ∀ x ∈ l, InstrOk x) (hlen : b.length + (listE instrE l).length + 100 ≤ 140737488355000) :
    Calls Try.prog 45 #[.pointer (some ⟨bw, 0, none⟩), v, .func (.func 46) #[] #[.pointer (some ⟨bt, 0, none⟩)]] w fun e w' => e = .returned (.tuple #[]) ∧ WrTo base F bw w w' (b ++ listE instrE l) := by
  have hpl := putL_some (l.length : Int)
  have hle : (listE instrE l).length = (putL (l.length : Int)).length + (l.flatMap instrE).length := by unfold listE; rw [List.length_append]
  have hF : ∀ k, F k → base ≤ k ∧ k < w.heap.size := by obtain ⟨_, _, _, _, _, h⟩ := hW; exact h
  have hb1 : Below w.heap.size w (w.alloc (.cells #[.int .i64 (l.length : Int)] 3)) := (Below.refl _ _).alloc (Nat.le_refl _) _
  have hN := hid (num_any (w.alloc (.cells #[.int .i64 (l.length : Int)] 3)) base F bw b (.slice (some ⟨w.heap.size, 0, none⟩) 1 1) [(l.length : Int)] (hW.below hb1) (by simpa using is_new w (l.length : Int) 3) (fun g hg h => by injection hg with hg; have := (hF _ h).2; rw [← hg] at this; simp at this) (by simpa using hll) (by simp; omega))
  have HV := hid hv
  have hvl : (instrsV l).length = l.length * 4 := by
    have : ∀ m : List (Int × Int × Int × Int), (instrsV m).length = m.length * 4 := by
      intro m
      induction m with
      | nil => rfl
      | cons x m ih =>
        have e : instrsV (x :: m) = [.int .i64 x.1, .int .i64 x.2.1, .int .i64 x.2.2.1, .int .i64 x.2.2.2] ++ instrsV m := rfl
        rw [e, List.length_append, ih, List.length_cons]; simp; omega
    exact this l
  obtain ⟨A, n0, c, rfl, hnl, hn, hc, _⟩ := hv
  obtain rfl : l.length = n0 := by omega
  unfold maxLen at hc
  have hbl := cell_lt hbt
  have HW := hid hW
  have HOK := hid hok
  clear hW hok
  go_enter Try.func45, Try.ntmps45
  go_wp2_with fail
  refine hN.out.mono ?_
  rintro e w2 ⟨rfl, hto⟩
  have hto0 : WrTo base F bw w w2 (b ++ (putL (l.length : Int) ++ (l.take 0).flatMap instrE)) := by
    have h := WrTo.first hb1 hto
    simpa using h
  have HTO0 := hid hto0
  clear hto hto0 hN
  go_wp2_with fail
  go_loopw [7, 15] (fun v7 v15 wr => ∃ k : Nat, v15 = .int .i64 k ∧ k ≤ l.length ∧ WrTo base F bw w wr (b ++ (putL (l.length : Int) ++ (l.take k).flatMap instrE))) (fun _ v15 _ => l.length - (intOf v15).toNat)
  case atStart => exact ⟨0, rfl, by omega, HTO0.out⟩
  case round =>
    obtain ⟨k, rfl, hk, hto⟩ := hrel
    by_cases hlt : k < l.length
    · have hbel := WrTo.bel HW.out hto
      have HTO := hid hto
      obtain ⟨F1, hw1, t1, n1⟩ := hto
      obtain ⟨bx, off, rfl, hcell⟩ := sl_at HV.out hbel rfl hlt (by omega)
      have d1 : wr.cell? ⟨bx, off + k * 4, none⟩ = some (.int .i64 l[k].1) := by
        have := hcell 0 (.int .i64 l[k].1) (by rw [instrsV, flat_some (k := 4) (fun _ => rfl) l k hlt 0 (by omega)]; rfl)
        simpa using this
      have d2 : wr.cell? ⟨bx, off + k * 4 + 1, none⟩ = some (.int .i64 l[k].2.1) := by
        have := hcell 1 (.int .i64 l[k].2.1) (by rw [instrsV, flat_some (k := 4) (fun _ => rfl) l k hlt 1 (by omega)]; rfl)
        simpa [Nat.add_assoc] using this
      have d3 : wr.cell? ⟨bx, off + k * 4 + 2, none⟩ = some (.int .i64 l[k].2.2.1) := by
        have := hcell 2 (.int .i64 l[k].2.2.1) (by rw [instrsV, flat_some (k := 4) (fun _ => rfl) l k hlt 2 (by omega)]; rfl)
        simpa [Nat.add_assoc] using this
      have d4 : wr.cell? ⟨bx, off + k * 4 + 3, none⟩ = some (.int .i64 l[k].2.2.2) := by
        have := hcell 3 (.int .i64 l[k].2.2.2) (by rw [instrsV, flat_some (k := 4) (fun _ => rfl) l k hlt 3 (by omega)]; rfl)
        simpa [Nat.add_assoc] using this
      have d0 := ss_cell' t1 hbl hbF hbt
      clear hcell
      have hxok := HOK.out l[k] (List.getElem_mem hlt)
      have hst := enc_take instrE hlt
      have hpt := enc_part instrE hlt
      generalize l[k] = X at *
      obtain ⟨bk, hbk⟩ : ∃ bk, bk = b ++ (putL (l.length : Int) ++ (l.take k).flatMap instrE) := ⟨_, rfl⟩
      have hbkl : bk.length = b.length + ((putL (l.length : Int)).length + ((l.take k).flatMap instrE).length) := by rw [hbk, List.length_append, List.length_append]
      rw [← hbk] at hw1
      have fin : ∀ w10, WrTo base F1 bw wr w10 (bk ++ instrE X) → ∃ k_1 : Nat, Value.int .i64 ((k : Int) + 1) = .int .i64 k_1 ∧ k_1 ≤ l.length ∧ WrTo base F bw w w10 (b ++ (putL (l.length : Int) ++ (l.take k_1).flatMap instrE)) := by
        intro w10 h10
        refine ⟨k + 1, rfl, by omega, ?_⟩
        rw [hst, ← List.append_assoc (putL (l.length : Int)), ← List.append_assoc b, ← hbk]
        obtain ⟨F2, g1, g2, g3⟩ := h10
        refine ⟨F2, g1, t1.trans g2 (fun i hi hF => (n1 i hF).elim id (fun h => absurd h (by omega))), fun j hj => ?_⟩
        rcases g3 j hj with h | h
        · exact n1 j h
        · exact .inr (Nat.le_trans t1.size h)
      have FIN := hid fin
      have HBK := hid hbk
      clear fin hbk hst
      obtain ⟨X1, X2, X3, X4⟩ := X
      simp only at d1 d2 d3 d4
      have hba : Below wr.heap.size wr (wr.alloc (.cells #[.int .i64 X1, .int .i64 X2, .int .i64 X3, .int .i64 X4] 64)) := (Below.refl _ _).alloc (Nat.le_refl _) _
      go_wp2_with fail
      refine (instrone_any (wr.alloc (.cells #[.int .i64 X1, .int .i64 X2, .int .i64 X3, .int .i64 X4] 64)) base F1 bw bt bk (X1, X2, X3, X4) (hw1.below hba) ((hba.cell (p := ⟨bt, 0, none⟩) (cell_lt d0)).trans d0) hxok (by omega)).mono ?_
      rintro e w10 ⟨rfl, hto10⟩
      have FN := hid (FIN.out w10 (WrTo.first hba hto10))
      clear hto10
      go_wp2_with fail
      go_roundw
      case rel => exact FN.out
      case measure => simp [intOf]; omega
    · obtain rfl : k = l.length := by omega
      rw [List.take_length] at hto
      go_wp2_with fail
      go_end0
      exact ⟨rfl, hto⟩

set_option maxRecDepth 100000 in
set_option maxHeartbeats 2000000 in
theorem list_texts_any (w : World) (base : Nat) (F : Nat → Prop) (bw : Nat) (b : Bt) (v : Value) (l : List (List Bt)) (hW : WrAt w base F bw b) (xh : List Value) (hr : ShapesR w base xh l) (hv : Sl w base 1 v xh) (hll : In64 (l.length : Int)) (hok : ∀ x ∈ l, TextsOk x) (hlen : b.length + (listE (listE textE) l).length + 100 ≤ 140737488355000) :
    Calls Try.prog 21 #[.pointer (some ⟨bw, 0, none⟩), v, .func (.func 20) #[.pointer (some ⟨bw, 0, none⟩)] #[]] w fun e w' => e = .returned (.tuple #[]) ∧ WrTo base F bw w w' (b ++ listE (listE textE) l) := by
  have hpl := putL_some (l.length : Int)
  have hle : (listE (listE textE) l).length = (putL (l.length : Int)).length + (l.flatMap (listE textE)).length := by unfold listE; rw [List.length_append]
  have hF : ∀ k, F k → base ≤ k ∧ k < w.heap.size := by obtain ⟨_, _, _, _, _, h⟩ := hW; exact h
  have hb1 : Below w.heap.size w (w.alloc (.cells #[.int .i64 (l.length : Int)] 3)) := (Below.refl _ _).alloc (Nat.le_refl _) _
  have hN := hid (num_any (w.alloc (.cells #[.int .i64 (l.length : Int)] 3)) base F bw b (.slice (some ⟨w.heap.size, 0, none⟩) 1 1) [(l.length : Int)] (hW.below hb1) (by simpa using is_new w (l.length : Int) 3) (fun g hg h => by injection hg with hg; have := (hF _ h).2; rw [← hg] at this; simp at this) (by simpa using hll) (by simp; omega))
  have HV := hid hv
  have HR := hid hr
  obtain ⟨A, n0, c, rfl, hnl, hn, hc, _⟩ := hv
  obtain rfl : l.length = n0 := by have := hr.1; omega
  unfold maxLen at hc
  clear hr
  have HW := hid hW
  have HOK := hid hok
  clear hW hok
  go_enter Try.func21, Try.ntmps21
  go_wp2_with fail
  refine hN.out.mono ?_
  rintro e w2 ⟨rfl, hto⟩
  have hto0 : WrTo base F bw w w2 (b ++ (putL (l.length : Int) ++ (l.take 0).flatMap (listE textE))) := by
    have h := WrTo.first hb1 hto
    simpa using h
  have HTO0 := hid hto0
  clear hto hto0 hN
  go_wp2_with fail
  go_loopw [7, 15] (fun v7 v15 wr => ∃ k : Nat, v15 = .int .i64 k ∧ k ≤ l.length ∧ WrTo base F bw w wr (b ++ (putL (l.length : Int) ++ (l.take k).flatMap (listE textE)))) (fun _ v15 _ => l.length - (intOf v15).toNat)
  case atStart => exact ⟨0, rfl, by omega, HTO0.out⟩
  case round =>
    obtain ⟨k, rfl, hk, hto⟩ := hrel
    by_cases hlt : k < l.length
    · have hbel := WrTo.bel HW.out hto
      have HTO := hid hto
      obtain ⟨F1, hw1, t1, n1⟩ := hto
      obtain ⟨bx, off, rfl, hcell⟩ := sl_at HV.out hbel rfl hlt (by omega)
      obtain ⟨vk, hvk, hsk⟩ := HR.out.2 k hlt
      have d1 : wr.cell? ⟨bx, off + k, none⟩ = some vk := by
        have := hcell 0 vk (by simpa using hvk)
        simpa using this
      have hsk' := Ss.below hsk hbel
      clear hcell hvk hsk
      have hxok := HOK.out l[k] (List.getElem_mem hlt)
      have hst := enc_take (listE textE) hlt
      have hpt := enc_part (listE textE) hlt
      generalize l[k] = X at *
      obtain ⟨bk, hbk⟩ : ∃ bk, bk = b ++ (putL (l.length : Int) ++ (l.take k).flatMap (listE textE)) := ⟨_, rfl⟩
      have hbkl : bk.length = b.length + ((putL (l.length : Int)).length + ((l.take k).flatMap (listE textE)).length) := by rw [hbk, List.length_append, List.length_append]
      rw [← hbk] at hw1
      have fin : ∀ w10, WrTo base F1 bw wr w10 (bk ++ (listE textE) X) → ∃ k_1 : Nat, Value.int .i64 ((k : Int) + 1) = .int .i64 k_1 ∧ k_1 ≤ l.length ∧ WrTo base F bw w w10 (b ++ (putL (l.length : Int) ++ (l.take k_1).flatMap (listE textE))) := by
        intro w10 h10
        refine ⟨k + 1, rfl, by omega, ?_⟩
        rw [hst, ← List.append_assoc (putL (l.length : Int)), ← List.append_assoc b, ← hbk]
        obtain ⟨F2, g1, g2, g3⟩ := h10
        refine ⟨F2, g1, t1.trans g2 (fun i hi hF => (n1 i hF).elim id (fun h => absurd h (by omega))), fun j hj => ?_⟩
        rcases g3 j hj with h | h
        · exact n1 j h
        · exact .inr (Nat.le_trans t1.size h)
      have FIN := hid fin
      have HBK := hid hbk
      clear fin hbk hst
      go_wp2_with fail
      refine (texts_any wr base F1 bw bk vk X hw1 hsk' hxok (by omega)).mono ?_
      rintro e w10 ⟨rfl, hto10⟩
      have FN := hid (FIN.out w10 hto10)
      clear hto10
      go_wp2_with fail
      go_roundw
      case rel => exact FN.out
      case measure => simp [intOf]; omega
    · obtain rfl : k = l.length := by omega
      rw [List.take_length] at hto
      go_wp2_with fail
      go_end0
      exact ⟨rfl, hto⟩

set_option maxRecDepth 100000 in
set_option maxHeartbeats 2000000 in
theorem proc_any (w : World) (base : Nat) (F : Nat → Prop) (bw : Nat) (b : Bt) (p : ProcD) (v : Value) (hW : WrAt w base F bw b) (hv : Sl w base 4 v (instrsV p.code)) (hok : ProcOk p) (hlen : b.length + (procE p).length + 100 ≤ 140737488355000) :
    Calls Try.prog 25 #[.pointer (some ⟨bw, 0, none⟩), .agg #[.int .i64 p.caps, .int .i64 p.regs, v]] w fun e w' => e = .returned (.tuple #[]) ∧ WrTo base F bw w w' (b ++ procE p) := by
  obtain ⟨pc, pr, l⟩ := p
  simp only at hv ⊢
  unfold ProcOk at hok
  simp only at hok
  have hpl1 := putL_some pc
  have hpl2 := putL_some pr
  have hel : (procE ⟨pc, pr, l⟩).length = (putL pc).length + ((putL pr).length + (listE instrE l).length) := by unfold procE; rw [List.length_append, List.length_append]
  have hmf : ∀ (fn : Fn) (first cap : Array Value) (w : World), (Instr.makeFunc fn first cap).run Try.prog w = .ok (.func fn first cap) w := fun _ _ _ _ => rfl
  have hF : ∀ k, F k → base ≤ k ∧ k < w.heap.size := by obtain ⟨_, _, _, _, _, h⟩ := hW; exact h
  have hbase := hW.base
  have HV := hid hv
  obtain ⟨A, n0, c, rfl, hnl, hn, hc, _⟩ := hv
  have hs1 : (w.alloc (.cells #[.pointer (some ⟨bw, 0, none⟩)] 48)).heap.size = w.heap.size + 1 := by simp
  have hs2 : ((w.alloc (.cells #[.pointer (some ⟨bw, 0, none⟩)] 48)).alloc (.cells #[.int .i64 pc, .int .i64 pr, .slice A n0 c] 47)).heap.size = w.heap.size + 2 := by simp
  have hb1 : Below w.heap.size w (w.alloc (.cells #[.pointer (some ⟨bw, 0, none⟩)] 48)) := (Below.refl _ _).alloc (Nat.le_refl _) _
  have hb2 := hb1.alloc (by simp) (.cells #[.int .i64 pc, .int .i64 pr, .slice A n0 c] 47)
  have hb3 := hb2.alloc (by rw [hs2]; omega) (.cells #[.int .i64 pc, .int .i64 pr] 3)
  have hx1 := heap_alloc_new w (.cells #[.pointer (some ⟨bw, 0, none⟩)] 48)
  have hx2 := heap_alloc_new (w.alloc (.cells #[.pointer (some ⟨bw, 0, none⟩)] 48)) (.cells #[.int .i64 pc, .int .i64 pr, .slice A n0 c] 47)
  rw [hs1] at hx2
  have hsl := sl_new ((w.alloc (.cells #[.pointer (some ⟨bw, 0, none⟩)] 48)).alloc (.cells #[.int .i64 pc, .int .i64 pr, .slice A n0 c] 47)) #[.int .i64 pc, .int .i64 pr] 3 1 2 rfl (by decide)
  rw [hs2] at hsl
  have hy1 := (((Below.refl _ _).alloc (Nat.le_refl _) (.cells #[.int .i64 pc, .int .i64 pr, .slice A n0 c] 47) : Below (w.alloc (.cells #[.pointer (some ⟨bw, 0, none⟩)] 48)).heap.size _ _).block w.heap.size (block_lt hx1)).trans hx1
  have hy3 := (((Below.refl _ _).alloc (Nat.le_refl _) (.cells #[.int .i64 pc, .int .i64 pr] 3) : Below ((w.alloc (.cells #[.pointer (some ⟨bw, 0, none⟩)] 48)).alloc (.cells #[.int .i64 pc, .int .i64 pr, .slice A n0 c] 47)).heap.size _ _).block w.heap.size (block_lt hy1)).trans hy1
  have hz3 := (((Below.refl _ _).alloc (Nat.le_refl _) (.cells #[.int .i64 pc, .int .i64 pr] 3) : Below ((w.alloc (.cells #[.pointer (some ⟨bw, 0, none⟩)] 48)).alloc (.cells #[.int .i64 pc, .int .i64 pr, .slice A n0 c] 47)).heap.size _ _).block (w.heap.size + 1) (block_lt hx2)).trans hx2
  have hN := hid (num_any (((w.alloc (.cells #[.pointer (some ⟨bw, 0, none⟩)] 48)).alloc (.cells #[.int .i64 pc, .int .i64 pr, .slice A n0 c] 47)).alloc (.cells #[.int .i64 pc, .int .i64 pr] 3)) base F bw b (.slice (some ⟨w.heap.size + 2, 0, none⟩) 2 2) [pc, pr] (hW.below hb3) (by simpa [intsV] using hsl) (fun g hg h => by injection hg with hg; have := (hF _ h).2; rw [← hg] at this; simp at this; omega) (by
    intro y hy
    simp only [List.mem_cons, List.not_mem_nil, or_false] at hy
    rcases hy with rfl | rfl
    · exact hok.1
    · exact hok.2.1) (by simp only [List.length_cons, List.length_nil]; omega))
  have HB3 := hid hb3
  have HY := hid hy3
  have HZ := hid hz3
  have HW := hid hW
  clear hW hsl hx1 hx2 hy1 hy3 hz3 hb1 hb2 hb3
  go_enter Try.func25, Try.ntmps25
  go_wp2_with fail
  refine hN.out.mono ?_
  rintro e w2 ⟨rfl, hto⟩
  have HTO := hid (WrTo.first HB3.out hto)
  obtain ⟨F1, hw1, t1, n1⟩ := hto
  have hp2 := block_turn HY.out t1 (fun h => by have := (hF _ h).2; omega)
  have hq2 := block_turn HZ.out t1 (fun h => by have := (hF _ h).2; omega)
  have k1 : w2.cell? ⟨w.heap.size, 0, none⟩ = some (.pointer (some ⟨bw, 0, none⟩)) := (cell_of_row _ _ _ _ _ (0, 0) hp2).trans rfl
  have k2 : w2.cell? ⟨w.heap.size + 1, 2, none⟩ = some (.slice A n0 c) := (cell_of_row _ _ _ _ _ (0, 0) hq2).trans rfl
  have hnF : ¬ F1 w.heap.size := fun h => (n1 _ h).elim (fun h => by have := (hF _ h).2; omega) (fun h => by simp at h; omega)
  have hbel := WrTo.bel HW.out HTO.out
  have HL := hid (list_instr_any w2 base F1 bw (b ++ [pc, pr].flatMap putL) (.slice A n0 c) l hw1 w.heap.size k1 hnF (HV.out.below hbel) hok.2.2.1 hok.2.2.2 (by rw [List.length_append]; simp; omega))
  clear hw1 hN
  go_wp2_with fail
  refine HL.out.mono ?_
  rintro e w3 ⟨rfl, hto3⟩
  have hto4 := WrTo.first HB3.out (WrTo.more t1 n1 hto3)
  have HT4 := hid hto4
  clear hto3 hto4
  go_wp2_with fail
  go_end0
  refine ⟨rfl, ?_⟩
  have : b ++ procE ⟨pc, pr, l⟩ = b ++ [pc, pr].flatMap putL ++ listE instrE l := by unfold procE; simp
  rw [this]; exact HT4.out
end Go.Proofs.Ytpnggkkfoipfhaa
