/- A reader of bytes: instructions. -/
import Derived.Test.YtpnggkkfoipfhaaCC
set_option linter.unusedVariables false
namespace Go.Proofs.Ytpnggkkfoipfhaa
open Go.RowKit

theorem instr_times (l : Bt) : instrD l = match timesD numD 4 l with
    | some ([a, b, c, d], r) => some ((a, b, c, d), r)
    | _ => none := by
  unfold instrD andD
  simp only [timesD]
  cases numD l with
  | none => rfl
  | some p1 =>
    obtain ⟨a, r1⟩ := p1
    simp only
    cases numD r1 with
    | none => rfl
    | some p2 =>
      obtain ⟨b, r2⟩ := p2
      simp only
      cases numD r2 with
      | none => rfl
      | some p3 =>
        obtain ⟨c, r3⟩ := p3
        simp only
        cases numD r3 with
        | none => rfl
        | some p4 => rfl
theorem instr_some {l : Bt} {ys : List Int} {r : Bt} (h : timesD numD 4 l = some (ys, r)) (hy : ys.length = 4) : instrD l = some ((ys[0], ys[1], ys[2], ys[3]), r) := by
  rw [instr_times, h]
  match ys, hy with
  | [a, b, c, d], _ => rfl
theorem instr_none {l : Bt} (h : timesD numD 4 l = none) : instrD l = none := by rw [instr_times, h]
/-- The four places: what has been read, and zeros. -/
def fourV (ys : List Int) : Array Value := #[.int .i64 (ys.getD 0 0), .int .i64 (ys.getD 1 0), .int .i64 (ys.getD 2 0), .int .i64 (ys.getD 3 0)]
theorem four_set (ys : List Int) (x : Int) (h : ys.length < 4) : (fourV ys).setIfInBounds ys.length (.int .i64 x) = fourV (ys ++ [x]) := by
  match ys, h with
  | [], _ => rfl
  | [a], _ => rfl
  | [a, b], _ => rfl
  | [a, b, c], _ => rfl
theorem four_get (ys : List Int) (h : ys.length < 4) : (fourV ys)[ys.length]? = some (.int .i64 0) := by
  match ys, h with
  | [], _ => rfl
  | [a], _ => rfl
  | [a, b], _ => rfl
  | [a, b, c], _ => rfl
structure FourAt (w : World) (bk B : Nat) (d : Int) (l : Bt) (wr : World) (i : Nat) (ys : List Int) (r : Bt) : Prop where
  len : ys.length = i
  le : i ≤ 4
  turn : Turn (fun k => k = bk) w wr
  rd : RdAt wr bk B r d
  res : wr.heap[w.heap.size]? = some (.cells #[.int .i64 0, .int .i64 0, .int .i64 0, .int .i64 0] 64 (0, 0))
  arr : wr.heap[w.heap.size + 1]? = some (.cells (fourV ys) 111 (0, 0))
  eq : timesD numD 4 l = (timesD numD (4 - i) r).map (fun p => (ys ++ p.1, p.2))
theorem two_new (w : World) (o1 o2 : Obj) : ((w.alloc o1).alloc o2).heap[w.heap.size]? = some o1 ∧ ((w.alloc o1).alloc o2).heap[w.heap.size + 1]? = some o2 := by
  have hs : (w.alloc o1).heap.size = w.heap.size + 1 := by simp
  refine ⟨?_, ?_⟩
  · exact block_turn (heap_alloc_new w o1) (Turn.alloc (fun _ => False) _ o2) (fun h => h)
  · have := heap_alloc_new (w.alloc o1) o2
    rwa [hs] at this
theorem FourAt.step {w : World} {bk B : Nat} {d : Int} {l : Bt} {wr : World} {i : Nat} {ys : List Int} {r : Bt} (h : FourAt w bk B d l wr i ys r) (hbk : bk < w.heap.size) (hB : B ≤ bk) (hi : i < 4) {x : Int} {r' : Bt} (hx : numD r = some (x, r')) {w2 : World} (t2 : Turn (fun k => k = bk) wr w2) (hr : RdAt w2 bk B r' d) :
    FourAt w bk B d l (w2.setCell ⟨w.heap.size + 1, i, none⟩ (.int .i64 x)) (i + 1) (ys ++ [x]) r' := by
  have t3 := turn_set w2 (w.heap.size + 1) i (.int .i64 x)
  refine ⟨by rw [List.length_append, h.len]; rfl, hi, (turn_same h.turn t2).trans t3 (fun j hj e => by omega), hr.turn t3 (by omega) (fun j hj e => by omega), ?_, ?_, ?_⟩
  · exact block_turn (block_turn h.res t2 (by omega)) t3 (by omega)
  · rw [heap_setCell_same _ _ _ _ _ _ (block_turn h.arr t2 (by omega))]
    rw [← h.len, four_set ys x (by rw [h.len]; omega)]
  · rw [h.eq]
    obtain ⟨m, hm⟩ : ∃ m, 4 - i = m + 1 := ⟨4 - i - 1, by omega⟩
    have hm' : 4 - (i + 1) = m := by omega
    rw [hm, hm', timesD, hx]
    simp only
    cases timesD numD m r' with
    | none => rfl
    | some p => simp
theorem len_i4 {z : List Int} (h : z.length = 4) : ∃ a b c d, z = [a, b, c, d] := by
  match z, h with
  | [a, b, c, d], _ => exact ⟨a, b, c, d, rfl⟩
set_option maxRecDepth 100000 in
set_option maxHeartbeats 2000000 in
theorem rdinstr_any (w : World) (bk B : Nat) (l : Bt) (d : Int) (hR : RdAt w bk B l d) :
    Calls Try.prog 70 #[.pointer (some ⟨bk, 0, none⟩)] w fun e w' => ReadsTo (ElK 4 RInstr) bk B d w (instrD l) e w' := by
  have hlt0 := hR.lt
  have hB := hR.1
  have HS : Hid (FourAt w bk B d l ((w.alloc (.cells #[.int .i64 0, .int .i64 0, .int .i64 0, .int .i64 0] 64)).alloc (.cells #[.int .i64 0, .int .i64 0, .int .i64 0, .int .i64 0] 111)) 0 [] l) := hid (by
    have b2 : Below w.heap.size w ((w.alloc (.cells #[.int .i64 0, .int .i64 0, .int .i64 0, .int .i64 0] 64)).alloc (.cells #[.int .i64 0, .int .i64 0, .int .i64 0, .int .i64 0] 111)) :=
      ((Below.refl _ _).alloc (Nat.le_refl _) _).alloc (by simp) _
    refine ⟨rfl, by omega, Turn.of_below b2, hR.below b2, ?_, ?_, ?_⟩
    · exact (two_new w _ _).1
    · exact (two_new w _ _).2
    · cases timesD numD 4 l with
      | none => rfl
      | some p => rfl)
  clear hR
  go_enter Try.func70, Try.ntmps70
  go_wp2_with fail
  go_loopw [4, 5] (fun v4 v5 wr => ∃ (i : Nat) (ys : List Int) (r : Bt), v5 = .int .i64 (i : Int) ∧ FourAt w bk B d l wr i ys r) (fun _ v5 _ => 4 - (intOf v5).toNat)
  case atStart => exact ⟨0, [], l, rfl, HS.out⟩
  case round =>
    obtain ⟨i, ys, r, rfl, hat⟩ := hrel
    have hi4 := hat.le
    have HAT := hid hat
    have HN := hid (rdnum_any wr bk B r d hat.rd)
    clear hat
    by_cases hlt : i < 4
    · rcases hx : numD r with _ | ⟨x, r'⟩
      · have HX := hid hx
        clear hx
        go_wp2_with fail
        refine HN.out.mono ?_
        rintro e w2 h2
        obtain ⟨rfl, t2⟩ := h2.none_ HX.out
        clear h2
        go_wp2_with fail
        refine ⟨rfl, ReadsTo.fail (instr_none ?_) (turn_same HAT.out.turn t2)⟩
        rw [HAT.out.eq]
        obtain ⟨m, hm⟩ : ∃ m, 4 - i = m + 1 := ⟨4 - i - 1, by omega⟩
        rw [hm, timesD, HX.out]
        rfl
      · have HX := hid hx
        clear hx
        go_wp2_with fail
        refine HN.out.mono ?_
        rintro e w2 h2
        obtain ⟨v2, rfl, t2, hv2, hr2⟩ := h2.some_ HX.out
        obtain rfl := hv2 w2 (Turn.refl _ _)
        clear h2 hv2
        have a2 := block_turn HAT.out.arr t2 (by omega)
        have c2 : w2.cell? ⟨w.heap.size + 1, i, none⟩ = some (.int .i64 0) := by
          rw [← HAT.out.len, cell_of_row _ _ _ _ _ _ a2, four_get ys (by rw [HAT.out.len]; omega)]
        have z2 := block_free a2
        have A2 := hid a2
        have HR2 := hid hr2
        have T2 := hid t2
        clear a2 hr2 t2
        go_wp2_with fail
        refine ⟨⟨i + 1, _, _, rfl, HAT.out.step hlt0 hB hlt HX.out T2.out HR2.out⟩, ?_⟩
        simp [intOf]; omega
    · obtain rfl : i = 4 := by omega
      obtain ⟨x0, x1, x2, x3, rfl⟩ := len_i4 HAT.out.len
      have a2 := HAT.out.arr
      have r2 := HAT.out.res
      have c0 : wr.cell? ⟨w.heap.size + 1, 0, none⟩ = some (.int .i64 x0) := by rw [cell_of_row _ _ _ _ _ _ a2]; rfl
      have c1 : wr.cell? ⟨w.heap.size + 1, 1, none⟩ = some (.int .i64 x1) := by rw [cell_of_row _ _ _ _ _ _ a2]; rfl
      have c2 : wr.cell? ⟨w.heap.size + 1, 2, none⟩ = some (.int .i64 x2) := by rw [cell_of_row _ _ _ _ _ _ a2]; rfl
      have c3 : wr.cell? ⟨w.heap.size + 1, 3, none⟩ = some (.int .i64 x3) := by rw [cell_of_row _ _ _ _ _ _ a2]; rfl
      have e0 : wr.cell? ⟨w.heap.size, 0, none⟩ = some (.int .i64 0) := by rw [cell_of_row _ _ _ _ _ _ r2]; rfl
      have e1 : wr.cell? ⟨w.heap.size, 1, none⟩ = some (.int .i64 0) := by rw [cell_of_row _ _ _ _ _ _ r2]; rfl
      have e2 : wr.cell? ⟨w.heap.size, 2, none⟩ = some (.int .i64 0) := by rw [cell_of_row _ _ _ _ _ _ r2]; rfl
      have e3 : wr.cell? ⟨w.heap.size, 3, none⟩ = some (.int .i64 0) := by rw [cell_of_row _ _ _ _ _ _ r2]; rfl
      have z2 := block_free r2
      have A2 := hid a2
      have R2 := hid r2
      clear a2 r2 HN
      go_wp2_with fail
      have ec := heap_setCell_same _ _ 3 _ _ (.int .i64 x3) (heap_setCell_same _ _ 2 _ _ (.int .i64 x2) (heap_setCell_same _ _ 1 _ _ (.int .i64 x1) (heap_setCell_same _ _ 0 _ _ (.int .i64 x0) R2.out)))
      have tc := (turn_set wr w.heap.size 0 (.int .i64 x0)).trans ((turn_set _ w.heap.size 1 (.int .i64 x1)).trans ((turn_set _ w.heap.size 2 (.int .i64 x2)).trans (turn_set _ w.heap.size 3 (.int .i64 x3)) (fun _ _ h => h)) (fun _ _ h => h)) (fun _ _ h => h)
      refine bodyPost_ret (results_cell rfl rfl ec Try.underlying64 rfl (by kernel_rfl)) rfl ?_
      refine ReadsTo.done (instr_some (ys := [x0, x1, x2, x3]) (r := r) (by rw [HAT.out.eq, Nat.sub_self, timesD]; rfl) rfl) (HAT.out.turn.trans tc (fun j hj e => by omega)) (fun _ _ => ⟨[.int .i64 x0, .int .i64 x1, .int .i64 x2, .int .i64 x3], rfl, rfl, ?_, rfl⟩) (HAT.out.rd.turn tc (by omega) (fun j hj e => by omega))
      intro u hu
      simp only [List.mem_cons, List.not_mem_nil, or_false] at hu
      rcases hu with rfl | rfl | rfl | rfl <;> rfl
end Go.Proofs.Ytpnggkkfoipfhaa
