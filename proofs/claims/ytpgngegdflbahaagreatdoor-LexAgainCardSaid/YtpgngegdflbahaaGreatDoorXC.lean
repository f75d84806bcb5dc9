/- A lexer in memory; how it passes over bytes. -/
import Derived.Test.YtpgngegdflbahaaGreatDoorXB
import Derived.Lib.ConvBytes
set_option linter.unusedVariables false
namespace Go.Proofs.YtpgngegdflbahaaGreatDoor
open Go.RowKit

/-- Block bl is a lexer: what is left of its text, where it stands, its map of pairs, its tokens. -/
def LexAt (w : World) (bl bp : Nat) (s : Bt) (p : Nat × Nat) (outv : Value) : Prop :=
  w.heap[bl]? = some (.cells #[sv s, .int .i64 (p.1 : Nat), .int .i64 (p.2 : Nat), .map (some bp), outv] 39 (0, 0))
section
variable {w w' : World} {bl bp : Nat} {s : Bt} {p : Nat × Nat} {outv : Value}
theorem LexAt.c0 (h : LexAt w bl bp s p outv) : w.cell? ⟨bl, 0, none⟩ = some (sv s) := (cell_of_row _ _ _ _ _ (0, 0) h).trans rfl
theorem LexAt.c1 (h : LexAt w bl bp s p outv) : w.cell? ⟨bl, 1, none⟩ = some (.int .i64 (p.1 : Nat)) := (cell_of_row _ _ _ _ _ (0, 0) h).trans rfl
theorem LexAt.c2 (h : LexAt w bl bp s p outv) : w.cell? ⟨bl, 2, none⟩ = some (.int .i64 (p.2 : Nat)) := (cell_of_row _ _ _ _ _ (0, 0) h).trans rfl
theorem LexAt.c3 (h : LexAt w bl bp s p outv) : w.cell? ⟨bl, 3, none⟩ = some (.map (some bp)) := (cell_of_row _ _ _ _ _ (0, 0) h).trans rfl
theorem LexAt.c4 (h : LexAt w bl bp s p outv) : w.cell? ⟨bl, 4, none⟩ = some outv := (cell_of_row _ _ _ _ _ (0, 0) h).trans rfl
theorem LexAt.free (h : LexAt w bl bp s p outv) (i : Nat) : w.frozen? ⟨bl, i, none⟩ = false := by simp [World.frozen?, show w.heap[bl]? = _ from h]
theorem LexAt.lt (h : LexAt w bl bp s p outv) : bl < w.heap.size := block_lt h
theorem LexAt.turn {G : Nat → Prop} (h : LexAt w bl bp s p outv) (t : Turn G w w') (hd : ¬ G bl) : LexAt w' bl bp s p outv := block_turn h t hd
end
theorem ss_cell' {w wr : World} {F : Nat → Prop} {b off : Nat} (t : Turn F w wr) (hb : b < w.heap.size) (hF : ¬ F b) {u : Value} (h : w.cell? ⟨b, off, none⟩ = some u) : wr.cell? ⟨b, off, none⟩ = some u := by
  rw [← h]; simp only [World.cell?, t.block hb hF]
theorem advL_le (p : Nat × Nat) (s : Bt) : (advL p s).1 ≤ p.1 + s.length ∧ (advL p s).2 ≤ p.2 + s.length + 1 := by
  induction s generalizing p with
  | nil => exact ⟨Nat.le_refl _, by simp [advL]⟩
  | cons c s ih =>
    have h : advL p (c :: s) = advL (advB p c) s := rfl
    rw [h]
    obtain ⟨a, b⟩ := ih (advB p c)
    have h1 : (advB p c).1 ≤ p.1 + 1 ∧ (advB p c).2 ≤ p.2 + 1 ∨ (advB p c).2 ≤ 1 ∧ (advB p c).1 ≤ p.1 + 1 := by
      unfold advB; split
      · exact .inr ⟨Nat.le_refl _, Nat.le_refl _⟩
      · exact .inl ⟨Nat.le_succ _, Nat.le_refl _⟩
    simp only [List.length_cons]
    omega

theorem extract_list (s : Bt) (a b : Nat) : (ByteArray.extract ⟨s.toArray⟩ a b).data.toList = (s.take b).drop a := by
  rw [ByteArray.data_extract]
  simp [List.extract_eq_take_drop, List.drop_take]
theorem extract_sv (s : Bt) (a b : Nat) : Value.string (ByteArray.extract ⟨s.toArray⟩ a b) = sv ((s.take b).drop a) := by
  rw [← extract_list]
theorem conv_take {P : Program} (w : World) (src dst e : TypeId) (hs : P.underlying src = some .string) (hd : P.underlying dst = some (.slice e)) (he : P.underlying e = some (.int .u8)) (s : Bt) (n : Nat) (hn : n ≤ s.length) :
    ∃ C w5, (convert src dst (.string (ByteArray.extract ⟨s.toArray⟩ 0 n))).run P w = .ok (.slice (some ⟨w.heap.size, 0, none⟩) n C) w5 ∧ Turn (fun _ => False) w w5 ∧ w.heap.size < w5.heap.size ∧
      ∀ j (hj : j < n), w5.cell? ⟨w.heap.size, j, none⟩ = some (.int .u8 ((s[j]'(by omega)).toNat : Int)) := by
  have hsz : (ByteArray.extract ⟨s.toArray⟩ 0 n).size = n := by
    have h : (ByteArray.extract ⟨s.toArray⟩ 0 n).data.toList.length = (ByteArray.extract ⟨s.toArray⟩ 0 n).size := Array.length_toList
    rw [← h, extract_list]; simp; omega
  have hrun := Lib.run_convert_string_bytes (P := P) w src dst e (ByteArray.extract ⟨s.toArray⟩ 0 n) hs hd he
  have hcell := Lib.bytesWorld_cell w e (ByteArray.extract ⟨s.toArray⟩ 0 n)
  have hsize := Lib.bytesWorld_size w e (ByteArray.extract ⟨s.toArray⟩ 0 n)
  have hold := Lib.bytesWorld_at_old w e (ByteArray.extract ⟨s.toArray⟩ 0 n)
  rw [hsz] at hrun hcell
  refine ⟨_, _, hrun, ⟨rfl, rfl, rfl, by rw [hsize]; omega, fun k hk _ => hold k hk⟩, by rw [hsize]; omega, fun j hj => ?_⟩
  rw [hcell j hj, extract_list]
  simp [List.getD_eq_getElem?_getD, List.getElem?_take, hj, List.getElem?_eq_getElem (show j < s.length by omega)]

theorem LexAt.set1 {w : World} {bl bp : Nat} {s : Bt} {p : Nat × Nat} {outv : Value} (h : LexAt w bl bp s p outv) (n : Nat) : LexAt (w.setCell ⟨bl, 1, none⟩ (.int .i64 (n : Nat))) bl bp s (n, p.2) outv := heap_setCell_same w bl 1 _ _ _ h
theorem LexAt.set2 {w : World} {bl bp : Nat} {s : Bt} {p : Nat × Nat} {outv : Value} (h : LexAt w bl bp s p outv) (n : Nat) : LexAt (w.setCell ⟨bl, 2, none⟩ (.int .i64 (n : Nat))) bl bp s (p.1, n) outv := heap_setCell_same w bl 2 _ _ _ h
theorem LexAt.set0 {w : World} {bl bp : Nat} {s : Bt} {p : Nat × Nat} {outv : Value} (h : LexAt w bl bp s p outv) (s' : Bt) : LexAt (w.setCell ⟨bl, 0, none⟩ (sv s')) bl bp s' p outv := heap_setCell_same w bl 0 _ _ _ h
theorem LexAt.set4 {w : World} {bl bp : Nat} {s : Bt} {p : Nat × Nat} {outv : Value} (h : LexAt w bl bp s p outv) (v : Value) : LexAt (w.setCell ⟨bl, 4, none⟩ v) bl bp s p v := heap_setCell_same w bl 4 _ _ _ h

set_option maxRecDepth 100000 in
set_option maxHeartbeats 1000000 in
theorem pass_any (w : World) (bl bp : Nat) (s : Bt) (p : Nat × Nat) (outv : Value) (n : Nat) (hL : LexAt w bl bp s p outv) (hn : n ≤ s.length) (hs : s.length ≤ 100000) (hp : p.1 ≤ 1000000 ∧ p.2 ≤ 1000000) :
    Calls Tryz.prog 15 #[.pointer (some ⟨bl, 0, none⟩), .int .i64 (n : Nat)] w fun e w' =>
      e = .returned (.tuple #[]) ∧ LexAt w' bl bp (s.drop n) (advL p (s.take n)) outv ∧ Turn (fun k => k = bl) w w' := by
  have hsz := sv_size s
  have c0 := hL.c0
  obtain ⟨C, w5, hconv, ht5, hlt5, hcells⟩ := conv_take (P := Tryz.prog) w 9 66 5 Tryz.underlying9 Tryz.underlying66 Tryz.underlying5 s n hn
  have hL5 := hL.turn ht5 id
  have hbl := hL.lt
  have HC := hid hcells
  clear hcells
  go_enter Tryz.func15, Tryz.ntmps15
  go_wp2_with fail
  go_loopw [14] (fun v14 wr => ∃ k : Nat, v14 = .int .i64 k ∧ k ≤ n ∧ LexAt wr bl bp s (advL p (s.take k)) outv ∧ Turn (fun k => k = bl) w5 wr) (fun v14 _ => n - (intOf v14).toNat)
  case atStart => exact ⟨0, rfl, by omega, hL5, Turn.refl _ _⟩
  case round =>
    obtain ⟨k, rfl, hk, hLr, htr⟩ := hrel
    have hq := advL_le p (s.take k)
    have hkl : (s.take k).length ≤ k := by simp; omega
    by_cases hlt : k < n
    · have hnext := advL_take (p := p) (show k < s.length by omega)
      have d1 := ss_cell' htr hlt5 (by omega) (HC.out k hlt)
      generalize advL p (s.take k) = q at *
      generalize s[k] = X at *
      have c1 := hLr.c1
      have c2 := hLr.c2
      have f1 := hLr.free 1
      have f2 := hLr.free 2
      have hb : q.1 < 2000000 ∧ q.2 < 2000000 := by omega
      have HNX := hid hnext
      clear hnext hq hL hL5 c0 hconv
      by_cases hX : X.toNat = 10
      · have hl1 := ((hLr.set2 (q.2 + 1)).set1 (q.1 + 1)).set2 1
        have ht1 := ((htr.trans (turn_set _ bl 2 (.int .i64 ((q.2 + 1 : Nat) : Int))) (fun _ _ h => h)).trans (turn_set _ bl 1 (.int .i64 ((q.1 + 1 : Nat) : Int))) (fun _ _ h => h)).trans (turn_set _ bl 2 (.int .i64 ((1 : Nat) : Int))) (fun _ _ h => h)
        have e1 : advB q X = (q.1 + 1, 1) := by unfold advB; rw [if_pos hX]
        have HL1 := hid hl1
        have HT1 := hid ht1
        have HE := hid e1
        clear hLr htr hl1 ht1 e1
        go_wp2_with fail
        go_roundw
        case rel => exact ⟨k + 1, rfl, by omega, by rw [HNX.out, HE.out]; exact HL1.out, HT1.out⟩
        case measure => simp [intOf]; omega
      · have hl1 := hLr.set2 (q.2 + 1)
        have ht1 := htr.trans (turn_set _ bl 2 (.int .i64 ((q.2 + 1 : Nat) : Int))) (fun _ _ h => h)
        have e1 : advB q X = (q.1, q.2 + 1) := by unfold advB; rw [if_neg hX]
        have HL1 := hid hl1
        have HT1 := hid ht1
        have HE := hid e1
        clear hLr htr hl1 ht1 e1
        go_wp2_with fail
        go_roundw
        case rel => exact ⟨k + 1, rfl, by omega, by rw [HNX.out, HE.out]; exact HL1.out, HT1.out⟩
        case measure => simp [intOf]; omega
    · obtain rfl : k = n := by omega
      have c0r := hLr.c0
      have f0 := hLr.free 0
      have hl1 := hLr.set0 (s.drop k)
      have ht1 := ((ht5.mono (G := fun k => k = bl) (fun _ _ h => h.elim)).trans htr (fun _ _ h => h)).trans (turn_set _ bl 0 (sv (s.drop k))) (fun _ _ h => h)
      have he : Value.string (ByteArray.extract ⟨s.toArray⟩ k s.length) = sv (s.drop k) := by rw [extract_sv, List.take_length]
      have HL1 := hid hl1
      have HT1 := hid ht1
      clear hL hL5 hLr htr ht5 hl1 ht1 hq c0 hconv
      go_wp2_with fail
      go_end0
      exact ⟨rfl, HL1.out, HT1.out⟩
end Go.Proofs.YtpgngegdflbahaaGreatDoor
