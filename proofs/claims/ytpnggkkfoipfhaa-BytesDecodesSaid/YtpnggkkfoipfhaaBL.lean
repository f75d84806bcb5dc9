/- A writer of bytes: texts and lists. -/
import Derived.Test.YtpnggkkfoipfhaaBX
set_option linter.unusedVariables false
namespace Go.Proofs.Ytpnggkkfoipfhaa
open Go.RowKit

theorem flat_some {α : Type} {k : Nat} {f : α → List Value} (hf : ∀ x, (f x).length = k) : ∀ (l : List α) (i : Nat) (hi : i < l.length) (j : Nat) (hj : j < k), (l.flatMap f)[i * k + j]? = (f l[i])[j]?
  | [], i, hi, _, _ => by simp at hi
  | x :: l, i, hi, j, hj => by
    rw [List.flatMap_cons]
    rcases i with _ | i
    · rw [Nat.zero_mul, Nat.zero_add, List.getElem?_append_left (by rw [hf]; exact hj)]; rfl
    · rw [List.getElem?_append_right (by rw [hf, Nat.succ_mul]; omega), hf, show (i + 1) * k + j - k = i * k + j by rw [Nat.succ_mul]; omega]
      exact flat_some hf l i (by simpa using hi) j hj
/-- A list's element's cells, behind whatever was done above base. -/
theorem sl_at {w wr : World} {base k : Nat} {v : Value} {xs : List Value} (h : Sl w base k v xs) (hb : Below base w wr) {i n : Nat} {A : Option Addr} {c : Nat} (hv : v = .slice A n c) (hi : i < n) (hk : 0 < k) :
    ∃ b off, A = some ⟨b, off, none⟩ ∧ ∀ (j : Nat) u, xs[i * k + j]? = some u → wr.cell? ⟨b, off + (i * k + j), none⟩ = some u := by
  obtain ⟨A', n', c', hv', hl, hn, hc, hx⟩ := h
  rw [hv] at hv'
  injection hv' with e1 e2 e3
  subst e1 e2 e3
  obtain ⟨b, off, hA, hbb, hcell⟩ := hx (by omega)
  exact ⟨b, off, hA, fun j u hu => (hb.cell (p := ⟨b, off + (i * k + j), none⟩) hbb).trans (hcell _ u hu)⟩
theorem enc_take {α : Type} (e : α → Bt) {l : List α} {k : Nat} (hk : k < l.length) : (l.take (k + 1)).flatMap e = (l.take k).flatMap e ++ e l[k] := by
  rw [List.take_succ_eq_append_getElem hk, List.flatMap_append]; simp
theorem enc_part {α : Type} (e : α → Bt) {l : List α} {k : Nat} (hk : k < l.length) : ((l.take k).flatMap e).length + (e l[k]).length ≤ (l.flatMap e).length := by
  have h : (l.flatMap e) = (l.take (k + 1)).flatMap e ++ (l.drop (k + 1)).flatMap e := by rw [← List.flatMap_append, List.take_append_drop]
  rw [h, enc_take e hk, List.length_append, List.length_append]; omega
theorem wr_sv (s : Bt) : (ByteArray.mk s.toArray).size = s.length := wr_sv_size s

set_option maxHeartbeats 1000000 in
theorem text_any (w : World) (base : Nat) (F : Nat → Prop) (bw : Nat) (b : Bt) (s : Bt) (hW : WrAt w base F bw b) (hs : In64 (s.length : Int)) (hlen : b.length + (textE s).length + 100 ≤ 140737488355000) :
    Calls Try.prog 42 #[.pointer (some ⟨bw, 0, none⟩), sv s] w fun e w' => e = .returned (.tuple #[]) ∧ WrTo base F bw w w' (b ++ textE s) := by
  have hsz := wr_sv_size s
  have hpl := putL_some (s.length : Int)
  have hte : (textE s).length = (putL (s.length : Int)).length + s.length := by unfold textE; rw [List.length_append]
  have hF : ∀ k, F k → base ≤ k ∧ k < w.heap.size := by obtain ⟨_, _, _, _, _, h⟩ := hW; exact h
  have hb1 : Below w.heap.size w (w.alloc (.cells #[.int .i64 (s.length : Int)] 3)) := (Below.refl _ _).alloc (Nat.le_refl _) _
  have hN := hid (num_any (w.alloc (.cells #[.int .i64 (s.length : Int)] 3)) base F bw b (.slice (some ⟨w.heap.size, 0, none⟩) 1 1) [(s.length : Int)] (hW.below hb1) (by simpa using is_new w (s.length : Int) 3) (fun g hg h => by injection hg with hg; have := (hF _ h).2; rw [← hg] at this; simp at this) (by simpa using hs) (by simp; omega))
  clear hW
  go_enter Try.func42, Try.ntmps42
  go_wp2_with fail
  refine hN.out.mono ?_
  rintro e w2 ⟨rfl, hto⟩
  have hto := WrTo.first hb1 hto
  obtain ⟨F1, ⟨vw, h1, h2, h3, h4, h6⟩, t1, n1⟩ := hto
  obtain ⟨bk, hbk⟩ : ∃ bk, bk = b ++ [(s.length : Int)].flatMap putL := ⟨_, rfl⟩
  rw [← hbk] at h3
  have hbkl : bk.length = b.length + (putL (s.length : Int)).length := by rw [hbk]; simp
  have hbke : bk ++ s = b ++ textE s := by rw [hbk]; unfold textE; simp
  have HBE := hid hbke
  have c0 : w2.cell? ⟨bw, 0, none⟩ = some vw := (cell_of_row _ _ _ _ _ (0, 0) h1).trans rfl
  clear hbk hbke
  go_wp2_with (at_builtin; refine wpList_appT rfl (.tmp 13) (.tmp 14) _ _ rfl 0 el_byte Try.underlying9 vw bk s rfl h3 rfl (by omega) (Nat.zero_le _) (fun v9 w9 hob9 hg9 hbk9 => ?_); obtain ⟨g9, c9, m9, rfl⟩ := ownB_shape hob9 (by rw [List.length_append]; omega); obtain ⟨hto9, hblk9⟩ := wr_grown h1 h2 h4 h6 (Below.refl _ _) hg9 hob9 hbk9; have e0 : w9.cell? ⟨bw, 0, none⟩ = some vw := (cell_of_row _ _ _ _ _ (0, 0) hblk9).trans rfl; have e1 := block_free hblk9 0; clear hg9 hob9 hbk9)
  go_end0
  rw [HBE.out] at hto9
  obtain ⟨F2, g1, g2, g3⟩ := hto9
  refine ⟨rfl, F2, g1, t1.trans g2 (fun i hi hF => (n1 i hF).elim id (fun h => absurd h (by omega))), fun j hj => ?_⟩
  rcases g3 j hj with h | h
  · exact n1 j h
  · exact .inr (Nat.le_trans t1.size h)

set_option maxRecDepth 100000 in
set_option maxHeartbeats 2000000 in
theorem list_int_any (w : World) (base : Nat) (F : Nat → Prop) (bw : Nat) (b : Bt) (v : Value) (l : List Int) (hW : WrAt w base F bw b) (hv : Sl w base 1 v (intsV l)) (hll : In64 (l.length : Int)) (hok : ∀ x ∈ l, In64 x) (hlen : b.length + (listE putL l).length + 100 ≤ 140737488355000) :
    Calls Try.prog 18 #[.pointer (some ⟨bw, 0, none⟩), v, .func (.func 19) #[.pointer (some ⟨bw, 0, none⟩)] #[]] w fun e w' => e = .returned (.tuple #[]) ∧ WrTo base F bw w w' (b ++ listE putL l) := by
  have hpl := putL_some (l.length : Int)
  have hle : (listE putL l).length = (putL (l.length : Int)).length + (l.flatMap putL).length := by unfold listE; rw [List.length_append]
  have hF : ∀ k, F k → base ≤ k ∧ k < w.heap.size := by obtain ⟨_, _, _, _, _, h⟩ := hW; exact h
  have hb1 : Below w.heap.size w (w.alloc (.cells #[.int .i64 (l.length : Int)] 3)) := (Below.refl _ _).alloc (Nat.le_refl _) _
  have hN := hid (num_any (w.alloc (.cells #[.int .i64 (l.length : Int)] 3)) base F bw b (.slice (some ⟨w.heap.size, 0, none⟩) 1 1) [(l.length : Int)] (hW.below hb1) (by simpa using is_new w (l.length : Int) 3) (fun g hg h => by injection hg with hg; have := (hF _ h).2; rw [← hg] at this; simp at this) (by simpa using hll) (by simp; omega))
  have HV := hid hv
  obtain ⟨A, c, rfl, hn, hc, _⟩ := Is.open_ hv
  unfold maxLen at hc
  clear hv
  have HW := hid hW
  have HOK := hid hok
  clear hW hok
  go_enter Try.func18, Try.ntmps18
  go_wp2_with fail
  refine hN.out.mono ?_
  rintro e w2 ⟨rfl, hto⟩
  have hto0 : WrTo base F bw w w2 (b ++ (putL (l.length : Int) ++ (l.take 0).flatMap putL)) := by
    have h := WrTo.first hb1 hto
    simpa using h
  have HTO0 := hid hto0
  clear hto hto0 hN
  go_wp2_with fail
  go_loopw [7, 15] (fun v7 v15 wr => ∃ k : Nat, v15 = .int .i64 k ∧ k ≤ l.length ∧ WrTo base F bw w wr (b ++ (putL (l.length : Int) ++ (l.take k).flatMap putL))) (fun _ v15 _ => l.length - (intOf v15).toNat)
  case atStart => exact ⟨0, rfl, by omega, HTO0.out⟩
  case round =>
    obtain ⟨k, rfl, hk, hto⟩ := hrel
    by_cases hlt : k < l.length
    · have hbel := WrTo.bel HW.out hto
      have HTO := hid hto
      obtain ⟨F1, hw1, t1, n1⟩ := hto
      obtain ⟨bx, off, rfl, hcell⟩ := sl_at HV.out hbel rfl hlt (by omega)
      have d1 : wr.cell? ⟨bx, off + k, none⟩ = some (.int .i64 l[k]) := by
        have := hcell 0 (.int .i64 l[k]) (by simp [intsV, hlt])
        simpa using this
      clear hcell
      have hxok := HOK.out l[k] (List.getElem_mem hlt)
      have hst := enc_take putL hlt
      have hpt := enc_part putL hlt
      generalize l[k] = X at *
      obtain ⟨bk, hbk⟩ : ∃ bk, bk = b ++ (putL (l.length : Int) ++ (l.take k).flatMap putL) := ⟨_, rfl⟩
      have hbkl : bk.length = b.length + ((putL (l.length : Int)).length + ((l.take k).flatMap putL).length) := by rw [hbk, List.length_append, List.length_append]
      rw [← hbk] at hw1
      have fin : ∀ w10, WrTo base F1 bw wr w10 (bk ++ putL X) → ∃ k_1 : Nat, Value.int .i64 ((k : Int) + 1) = .int .i64 k_1 ∧ k_1 ≤ l.length ∧ WrTo base F bw w w10 (b ++ (putL (l.length : Int) ++ (l.take k_1).flatMap putL)) := by
        intro w10 h10
        refine ⟨k + 1, rfl, by omega, ?_⟩
        rw [hst, ← List.append_assoc (putL (l.length : Int)), ← List.append_assoc b, ← hbk]
        obtain ⟨F2, g1, g2, g3⟩ := h10
        refine ⟨F2, g1, t1.trans g2 (fun i hi hF => (n1 i hF).elim id (fun h => absurd h (by omega))), fun j hj => ?_⟩
        rcases g3 j hj with h | h
        · exact n1 j h
        · exact .inr (Nat.le_trans t1.size h)
      have FIN := hid fin
      have HBK := hid hbk
      clear fin hbk hst
      go_wp2_with fail
      refine (one_any wr base F1 bw bk X hw1 hxok (by omega)).mono ?_
      rintro e w10 ⟨rfl, hto10⟩
      have FN := hid (FIN.out w10 hto10)
      clear hto10
      go_wp2_with fail
      go_roundw
      case rel => exact FN.out
      case measure => simp [intOf]; omega
    · obtain rfl : k = l.length := by omega
      rw [List.take_length] at hto
      go_wp2_with fail
      go_end0
      exact ⟨rfl, hto⟩

set_option maxRecDepth 100000 in
set_option maxHeartbeats 2000000 in
theorem list_string_any (w : World) (base : Nat) (F : Nat → Prop) (bw : Nat) (b : Bt) (v : Value) (l : List Bt) (hW : WrAt w base F bw b) (hv : Ss w base v l) (hll : In64 (l.length : Int)) (hok : ∀ x ∈ l, In64 (x.length : Int)) (hlen : b.length + (listE textE l).length + 100 ≤ 140737488355000) :
    Calls Try.prog 41 #[.pointer (some ⟨bw, 0, none⟩), v, .func (.func 42) #[.pointer (some ⟨bw, 0, none⟩)] #[]] w fun e w' => e = .returned (.tuple #[]) ∧ WrTo base F bw w w' (b ++ listE textE l) := by
  have hpl := putL_some (l.length : Int)
  have hle : (listE textE l).length = (putL (l.length : Int)).length + (l.flatMap textE).length := by unfold listE; rw [List.length_append]
  have hF : ∀ k, F k → base ≤ k ∧ k < w.heap.size := by obtain ⟨_, _, _, _, _, h⟩ := hW; exact h
  have hb1 : Below w.heap.size w (w.alloc (.cells #[.int .i64 (l.length : Int)] 3)) := (Below.refl _ _).alloc (Nat.le_refl _) _
  have hN := hid (num_any (w.alloc (.cells #[.int .i64 (l.length : Int)] 3)) base F bw b (.slice (some ⟨w.heap.size, 0, none⟩) 1 1) [(l.length : Int)] (hW.below hb1) (by simpa using is_new w (l.length : Int) 3) (fun g hg h => by injection hg with hg; have := (hF _ h).2; rw [← hg] at this; simp at this) (by simpa using hll) (by simp; omega))
  have HV : Hid (Sl w base 1 v (svs l)) := hid hv
  obtain ⟨A, c, rfl, hn, hc, _⟩ := hv.open_
  unfold maxLen at hc
  clear hv
  have HW := hid hW
  have HOK := hid hok
  clear hW hok
  go_enter Try.func41, Try.ntmps41
  go_wp2_with fail
  refine hN.out.mono ?_
  rintro e w2 ⟨rfl, hto⟩
  have hto0 : WrTo base F bw w w2 (b ++ (putL (l.length : Int) ++ (l.take 0).flatMap textE)) := by
    have h := WrTo.first hb1 hto
    simpa using h
  have HTO0 := hid hto0
  clear hto hto0 hN
  go_wp2_with fail
  go_loopw [7, 15] (fun v7 v15 wr => ∃ k : Nat, v15 = .int .i64 k ∧ k ≤ l.length ∧ WrTo base F bw w wr (b ++ (putL (l.length : Int) ++ (l.take k).flatMap textE))) (fun _ v15 _ => l.length - (intOf v15).toNat)
  case atStart => exact ⟨0, rfl, by omega, HTO0.out⟩
  case round =>
    obtain ⟨k, rfl, hk, hto⟩ := hrel
    by_cases hlt : k < l.length
    · have hbel := WrTo.bel HW.out hto
      have HTO := hid hto
      obtain ⟨F1, hw1, t1, n1⟩ := hto
      obtain ⟨bx, off, rfl, hcell⟩ := sl_at HV.out hbel rfl hlt (by omega)
      have d1 : wr.cell? ⟨bx, off + k, none⟩ = some (sv l[k]) := by
        have := hcell 0 (sv l[k]) (by simp [svs, hlt])
        simpa using this
      clear hcell
      have hxok := HOK.out l[k] (List.getElem_mem hlt)
      have hst := enc_take textE hlt
      have hpt := enc_part textE hlt
      generalize l[k] = X at *
      obtain ⟨bk, hbk⟩ : ∃ bk, bk = b ++ (putL (l.length : Int) ++ (l.take k).flatMap textE) := ⟨_, rfl⟩
      have hbkl : bk.length = b.length + ((putL (l.length : Int)).length + ((l.take k).flatMap textE).length) := by rw [hbk, List.length_append, List.length_append]
      rw [← hbk] at hw1
      have fin : ∀ w10, WrTo base F1 bw wr w10 (bk ++ textE X) → ∃ k_1 : Nat, Value.int .i64 ((k : Int) + 1) = .int .i64 k_1 ∧ k_1 ≤ l.length ∧ WrTo base F bw w w10 (b ++ (putL (l.length : Int) ++ (l.take k_1).flatMap textE)) := by
        intro w10 h10
        refine ⟨k + 1, rfl, by omega, ?_⟩
        rw [hst, ← List.append_assoc (putL (l.length : Int)), ← List.append_assoc b, ← hbk]
        obtain ⟨F2, g1, g2, g3⟩ := h10
        refine ⟨F2, g1, t1.trans g2 (fun i hi hF => (n1 i hF).elim id (fun h => absurd h (by omega))), fun j hj => ?_⟩
        rcases g3 j hj with h | h
        · exact n1 j h
        · exact .inr (Nat.le_trans t1.size h)
      have FIN := hid fin
      have HBK := hid hbk
      clear fin hbk hst
      go_wp2_with fail
      refine (text_any wr base F1 bw bk X hw1 hxok (by omega)).mono ?_
      rintro e w10 ⟨rfl, hto10⟩
      have FN := hid (FIN.out w10 hto10)
      clear hto10
      go_wp2_with fail
      go_roundw
      case rel => exact FN.out
      case measure => simp [intOf]; omega
    · obtain rfl : k = l.length := by omega
      rw [List.take_length] at hto
      go_wp2_with fail
      go_end0
      exact ⟨rfl, hto⟩

set_option maxHeartbeats 1000000 in
theorem texts_any (w : World) (base : Nat) (F : Nat → Prop) (bw : Nat) (b : Bt) (v : Value) (l : List Bt) (hW : WrAt w base F bw b) (hv : Ss w base v l) (hok : TextsOk l) (hlen : b.length + (listE textE l).length + 100 ≤ 140737488355000) :
    Calls Try.prog 20 #[.pointer (some ⟨bw, 0, none⟩), v] w fun e w' => e = .returned (.tuple #[]) ∧ WrTo base F bw w w' (b ++ listE textE l) := by
  have hmf : ∀ (fn : Fn) (first cap : Array Value) (w : World), (Instr.makeFunc fn first cap).run Try.prog w = .ok (.func fn first cap) w := fun _ _ _ _ => rfl
  have HL := hid (list_string_any w base F bw b v l hW hv hok.1 hok.2 hlen)
  clear hW hv hok
  go_enter Try.func20, Try.ntmps20
  go_wp2_with fail
  refine HL.out.mono ?_
  rintro e w2 ⟨rfl, hto⟩
  go_wp2_with fail
  go_end0
  exact ⟨rfl, hto⟩
end Go.Proofs.Ytpnggkkfoipfhaa
