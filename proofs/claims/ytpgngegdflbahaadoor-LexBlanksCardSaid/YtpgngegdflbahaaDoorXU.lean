/- The contract of the reference's token. -/
import Derived.Test.YtpgngegdflbahaaDoorXT
import Derived.Test.YtpgngegdflbahaaDoorXJ
import Derived.Test.YtpgngegdflbahaaDoorXK
import Derived.Test.YtpgngegdflbahaaDoorWHP
set_option linter.unusedVariables false
namespace Go.Proofs.YtpgngegdflbahaaDoor
open Go.RowKit

theorem own_slice {w : World} {base : Nat} {e : TypeId} {k n : Nat} {v : Value} {xs : List Value} (h : w.ownsRow base e k v n xs) : ∃ A c, v = .slice A n c ∧ n ≤ maxLen := by
  rcases h.2 with ⟨rfl, rfl⟩ | ⟨g, cap, cur, rfl, hg, hb, hn, hm, r⟩
  · exact ⟨none, 0, rfl, Nat.zero_le _⟩
  · exact ⟨_, cap, rfl, Nat.le_trans hn hm⟩
theorem results_cell_tmp2 {P : Program} {fn : Func} {p t1 t2 : Tmp} {ty : TypeId} (h : fn.results = #[.cell p ty, .tmp t1, .tmp t2]) (tmps : Array Value) (w : World) (g : Nat) (t : TypeId) (cs : Array Value) (fr : Nat × Nat) (d : TypeDesc)
    (hp : tmps.getD p undef = .pointer (some ⟨g, 0, none⟩)) (hg : w.heap[g]? = some (.cells cs t fr))
    (hu : P.underlying ty = some d) (hd : (match d with | .struct _ | .array _ _ => true | _ => false) = true) (hi : (P.info? ty).map (·.size) = some cs.size) :
    (results fn tmps).run P w = .ok (.tuple #[.agg cs, tmps.getD t1 undef, tmps.getD t2 undef]) w := by
  have hp' : tmps[p]?.getD undef = .pointer (some ⟨g, 0, none⟩) := by simpa using hp
  simp [results, h, hp', asAddr, run_loadVar_row w g t ty cs fr d hg hu hd hi, Result.andThen]
def tokR : Int ⊕ (Int × Bt × Nat) → Value
  | .inl e => .tuple #[.agg #[.int .i64 0, sv [], .int .i64 0, .int .i64 0], .int .i64 0, .int .i64 e]
  | .inr (kd, t, n) => .tuple #[.agg #[.int .i64 kd, sv t, .int .i64 0, .int .i64 0], .int .i64 (n : Nat), .int .i64 0]
theorem tok_zero {w : World} {b : Nat} (h : w.heap[b]? = some (.cells #[.int .i64 0, sv [], .int .i64 0, .int .i64 0] 32 (0, 0))) :
    (w.cell? ⟨b, 0, none⟩ = some (.int .i64 0) ∧ w.cell? ⟨b, 1, none⟩ = some (sv []) ∧ w.cell? ⟨b, 2, none⟩ = some (.int .i64 0) ∧ w.cell? ⟨b, 3, none⟩ = some (.int .i64 0)) ∧
    (w.frozen? ⟨b, 0, none⟩ = false ∧ w.frozen? ⟨b, 1, none⟩ = false ∧ w.frozen? ⟨b, 2, none⟩ = false ∧ w.frozen? ⟨b, 3, none⟩ = false) :=
  ⟨⟨(cell_of_row _ _ _ _ _ (0, 0) h).trans rfl, (cell_of_row _ _ _ _ _ (0, 0) h).trans rfl, (cell_of_row _ _ _ _ _ (0, 0) h).trans rfl, (cell_of_row _ _ _ _ _ (0, 0) h).trans rfl⟩, block_free h 0, block_free h 1, block_free h 2, block_free h 3⟩
theorem below_set4 {w W : World} (hb : Below w.heap.size w W) (v0 v1 v2 v3 : Value) : Below w.heap.size w (set4 W w.heap.size v0 v1 v2 v3) :=
  hb.trans ((set4_turn W w.heap.size v0 v1 v2 v3).below hb.size (fun k hk h => by omega))
set_option maxRecDepth 100000 in
set_option maxHeartbeats 2000000 in
theorem rtoken_letter (w : World) (c : UInt8) (r : Bt) (hs : (c :: r).length ≤ 281474976710656) (hl : letterB c = true) :
    Calls Tryd.prog 21 #[sv (c :: r)] w fun e w' => e = .returned (tokR (nextT (c :: r))) ∧ Below w.heap.size w w' := by
  obtain ⟨s, hsc⟩ : ∃ s, s = c :: r := ⟨_, rfl⟩
  have hsz := sv_size s
  have hl1 : 1 ≤ s.length := by rw [hsc]; simp
  have hix0 : (ByteArray.mk s.toArray)[0]'(by omega) = c := by
    have := sv_index s 0 (by omega)
    rw [this]; simp [hsc]
  have hd := letter_digit c hl
  have hA : nextT s = if 32 < rowL innerB s then .inl 2 else if s.take (rowL innerB s) ∈ wordsL then .inr (2, s.take (rowL innerB s), rowL innerB s) else .inr (1, s.take (rowL innerB s), rowL innerB s) := by
    rw [hsc, nextT, if_pos hl]
  rw [← hsc] at hs ⊢
  clear hsc
  have HA := hid hA
  clear hA
  generalize nextT s = ans at *
  have hd0 := heap_alloc_new w (.cells #[.int .i64 0, sv [], .int .i64 0, .int .i64 0] 32)
  have hb0 : Below w.heap.size w (w.alloc (.cells #[.int .i64 0, sv [], .int .i64 0, .int .i64 0] 32)) := (Below.refl _ _).alloc (Nat.le_refl _) _
  go_enter Tryd.func21, Tryd.ntmps21
  go_wp2_with fail
  generalize w.alloc (.cells #[.int .i64 0, sv [], .int .i64 0, .int .i64 0] 32) = w0 at *
  refine (rletter_any c _).mono ?_
  rintro e w0 ⟨rfl, rfl⟩
  go_wp2_with fail
  refine (rdigit_any c _).mono ?_
  rintro e w0 ⟨rfl, rfl⟩
  rw [hd]
  clear hix0
  go_wp2_with fail
  go_loop [7] (fun v7 => ∃ i : Nat, v7 = .int .i64 i ∧ i ≤ s.length ∧ ∀ j (hj : j < s.length), j < i → innerB s[j] = true) (fun v7 => s.length - (intOf v7).toNat)
  case atStart => exact ⟨0, rfl, by omega, fun j hj h => by omega⟩
  case round =>
    obtain ⟨i, rfl, hi, hall⟩ := hrel
    by_cases hlt : i < s.length
    · have hix := sv_index s i hlt
      have hnext : innerB s[i] = true → ∀ j (hj : j < s.length), j < i + 1 → innerB s[j] = true := by
        intro h j hj hji
        rcases Nat.lt_or_ge j i with h1 | h1
        · exact hall j hj h1
        · obtain rfl : j = i := by omega
          exact h
      have hstop : innerB s[i] = false → rowL innerB s = i := fun h => row_own _ s i hi hall (.inr ⟨hlt, h⟩)
      have HNEXT := hid hnext
      have HSTOP := hid hstop
      clear hall hnext hstop
      generalize hX : s[i] = X at *
      clear hX
      go_wp2_with fail
      refine (rletter_any X _).mono ?_
      rintro e w0 ⟨rfl, rfl⟩
      go_wp2_with fail
      refine (rdigit_any X _).mono ?_
      rintro e w0 ⟨rfl, rfl⟩
      have hin : innerB X = (letterB X || digitB X) := rfl
      cases hq1 : letterB X
      · cases hq2 : digitB X
        · have hq := HSTOP.out (by rw [hin, hq1, hq2]; rfl)
          rw [hq] at HA
          clear HNEXT HSTOP hix hq
          generalize i = n at *
          have hex : ByteArray.extract ⟨s.toArray⟩ 0 n = ⟨(s.take n).toArray⟩ := by
            have h := extract_sv s 0 n
            rw [List.drop_zero] at h
            injection h
          have hA := HA.out
          clear HA
          by_cases h32 : 32 < n
          · rw [if_pos h32] at hA
            obtain ⟨⟨e0, e1, e2, e3⟩, g0, g1, g2, g3⟩ := tok_zero hd0
            go_wp2_with fail
            refine bodyPost_ret (results_cell_tmp2 rfl _ _ w.heap.size _ _ _ _ rfl (set4_block hd0 _ _ _ _) Tryd.underlying32 rfl (by kernel_rfl)) rfl ?_
            exact ⟨by first | rfl | (rw [hA]; rfl), below_set4 hb0 _ _ _ _⟩
          · rw [if_neg h32] at hA
            generalize s.take n = x at *
            go_wp2_with fail
            refine (rword_any _ x).mono ?_
            rintro e w2 ⟨rfl, hb2⟩
            have hd2 := block_turn hd0 (Turn.of_below (F := fun _ => False) hb2) id
            have hB2 := bthen hb0 hb2
            obtain ⟨⟨e0, e1, e2, e3⟩, g0, g1, g2, g3⟩ := tok_zero hd2
            by_cases hw : x ∈ wordsL
            · rw [if_pos hw] at hA
              rw [decide_eq_true hw]
              go_wp2_with fail
              refine bodyPost_ret (results_cell_tmp2 rfl _ _ w.heap.size _ _ _ _ rfl (set4_block hd2 _ _ _ _) Tryd.underlying32 rfl (by kernel_rfl)) rfl ?_
              exact ⟨by first | rfl | (rw [hA]; rfl), below_set4 hB2 _ _ _ _⟩
            · rw [if_neg hw] at hA
              rw [decide_eq_false hw]
              go_wp2_with fail
              refine bodyPost_ret (results_cell_tmp2 rfl _ _ w.heap.size _ _ _ _ rfl (set4_block hd2 _ _ _ _) Tryd.underlying32 rfl (by kernel_rfl)) rfl ?_
              exact ⟨by first | rfl | (rw [hA]; rfl), below_set4 hB2 _ _ _ _⟩
        · have HN := hid (HNEXT.out (by rw [hin, hq1, hq2]; rfl))
          clear HNEXT HSTOP hix
          go_wp2_with fail
          go_round
          case rel => exact ⟨i + 1, rfl, by omega, HN.out⟩
          case measure => simp [intOf]; omega
      · cases hq2 : digitB X
        · have HN := hid (HNEXT.out (by rw [hin, hq1]; rfl))
          clear HNEXT HSTOP hix
          go_wp2_with fail
          go_round
          case rel => exact ⟨i + 1, rfl, by omega, HN.out⟩
          case measure => simp [intOf]; omega
        · have HN := hid (HNEXT.out (by rw [hin, hq1]; rfl))
          clear HNEXT HSTOP hix
          go_wp2_with fail
          go_round
          case rel => exact ⟨i + 1, rfl, by omega, HN.out⟩
          case measure => simp [intOf]; omega
    · have hi2 : i = s.length := by omega
      have hq := row_own _ s i hi hall (.inl hi2)
      rw [hq] at HA
      clear hall hq
      have hlt' : ¬ (i : Int) < s.length := by omega
      clear hi2
      generalize i = n at *
      have hex : ByteArray.extract ⟨s.toArray⟩ 0 n = ⟨(s.take n).toArray⟩ := by
        have h := extract_sv s 0 n
        rw [List.drop_zero] at h
        injection h
      have hA := HA.out
      clear HA
      by_cases h32 : 32 < n
      · rw [if_pos h32] at hA
        obtain ⟨⟨e0, e1, e2, e3⟩, g0, g1, g2, g3⟩ := tok_zero hd0
        go_wp2_with fail
        refine bodyPost_ret (results_cell_tmp2 rfl _ _ w.heap.size _ _ _ _ rfl (set4_block hd0 _ _ _ _) Tryd.underlying32 rfl (by kernel_rfl)) rfl ?_
        exact ⟨by first | rfl | (rw [hA]; rfl), below_set4 hb0 _ _ _ _⟩
      · rw [if_neg h32] at hA
        generalize s.take n = x at *
        go_wp2_with fail
        refine (rword_any _ x).mono ?_
        rintro e w2 ⟨rfl, hb2⟩
        have hd2 := block_turn hd0 (Turn.of_below (F := fun _ => False) hb2) id
        have hB2 := bthen hb0 hb2
        obtain ⟨⟨e0, e1, e2, e3⟩, g0, g1, g2, g3⟩ := tok_zero hd2
        by_cases hw : x ∈ wordsL
        · rw [if_pos hw] at hA
          rw [decide_eq_true hw]
          go_wp2_with fail
          refine bodyPost_ret (results_cell_tmp2 rfl _ _ w.heap.size _ _ _ _ rfl (set4_block hd2 _ _ _ _) Tryd.underlying32 rfl (by kernel_rfl)) rfl ?_
          exact ⟨by first | rfl | (rw [hA]; rfl), below_set4 hB2 _ _ _ _⟩
        · rw [if_neg hw] at hA
          rw [decide_eq_false hw]
          go_wp2_with fail
          refine bodyPost_ret (results_cell_tmp2 rfl _ _ w.heap.size _ _ _ _ rfl (set4_block hd2 _ _ _ _) Tryd.underlying32 rfl (by kernel_rfl)) rfl ?_
          exact ⟨by first | rfl | (rw [hA]; rfl), below_set4 hB2 _ _ _ _⟩
set_option maxRecDepth 100000 in
set_option maxHeartbeats 2000000 in
theorem rtoken_digit (w : World) (c : UInt8) (r : Bt) (hs : (c :: r).length ≤ 281474976710656) (hl : letterB c = false) (hd : digitB c = true) :
    Calls Tryd.prog 21 #[sv (c :: r)] w fun e w' => e = .returned (tokR (nextT (c :: r))) ∧ Below w.heap.size w w' := by
  obtain ⟨s, hsc⟩ : ∃ s, s = c :: r := ⟨_, rfl⟩
  have hsz := sv_size s
  have hl1 : 1 ≤ s.length := by rw [hsc]; simp
  have hix0 : (ByteArray.mk s.toArray)[0]'(by omega) = c := by
    have := sv_index s 0 (by omega)
    rw [this]; simp [hsc]
  have hA : nextT s = if (parseV (s.take (rowL digitB s))).2 then .inr (3, s.take (rowL digitB s), rowL digitB s) else .inl 3 := by
    rw [hsc, nextT, if_neg (by simp [hl]), if_pos hd]
  rw [← hsc] at hs ⊢
  clear hsc
  have HA := hid hA
  clear hA
  generalize nextT s = ans at *
  have hd0 := heap_alloc_new w (.cells #[.int .i64 0, sv [], .int .i64 0, .int .i64 0] 32)
  have hb0 : Below w.heap.size w (w.alloc (.cells #[.int .i64 0, sv [], .int .i64 0, .int .i64 0] 32)) := (Below.refl _ _).alloc (Nat.le_refl _) _
  go_enter Tryd.func21, Tryd.ntmps21
  go_wp2_with fail
  generalize w.alloc (.cells #[.int .i64 0, sv [], .int .i64 0, .int .i64 0] 32) = w0 at *
  refine (rletter_any c _).mono ?_
  rintro e w0 ⟨rfl, rfl⟩
  go_wp2_with fail
  refine (rdigit_any c _).mono ?_
  rintro e w0 ⟨rfl, rfl⟩
  rw [hd]
  clear hix0
  go_wp2_with fail
  go_loop [7] (fun v7 => ∃ i : Nat, v7 = .int .i64 i ∧ i ≤ s.length ∧ ∀ j (hj : j < s.length), j < i → digitB s[j] = true) (fun v7 => s.length - (intOf v7).toNat)
  case atStart => exact ⟨0, rfl, by omega, fun j hj h => by omega⟩
  case round =>
    obtain ⟨i, rfl, hi, hall⟩ := hrel
    by_cases hlt : i < s.length
    · have hix := sv_index s i hlt
      have hnext : digitB s[i] = true → ∀ j (hj : j < s.length), j < i + 1 → digitB s[j] = true := by
        intro h j hj hji
        rcases Nat.lt_or_ge j i with h1 | h1
        · exact hall j hj h1
        · obtain rfl : j = i := by omega
          exact h
      have hstop : digitB s[i] = false → rowL digitB s = i := fun h => row_own _ s i hi hall (.inr ⟨hlt, h⟩)
      have HNEXT := hid hnext
      have HSTOP := hid hstop
      clear hall hnext hstop
      generalize hX : s[i] = X at *
      clear hX
      go_wp2_with fail
      refine (rletter_any X _).mono ?_
      rintro e w0 ⟨rfl, rfl⟩
      go_wp2_with fail
      refine (rdigit_any X _).mono ?_
      rintro e w0 ⟨rfl, rfl⟩
      cases hq2 : digitB X
      · cases hq1 : letterB X
        · have hq := HSTOP.out hq2
          rw [hq] at HA
          clear HNEXT HSTOP hix hq
          generalize i = n at *
          have hex : ByteArray.extract ⟨s.toArray⟩ 0 n = ⟨(s.take n).toArray⟩ := by
            have h := extract_sv s 0 n
            rw [List.drop_zero] at h
            injection h
          have hA := HA.out
          clear HA
          have hxl : (s.take n).length ≤ 281474976710656 := by rw [List.length_take]; omega
          generalize s.take n = x at *
          have hP := refparse_any ⟨x.toArray⟩ w0 (by rw [sv_size]; exact hxl)
          go_wp2_with fail
          refine hP.mono ?_
          rintro e w2 ⟨rfl, rfl⟩
          simp only [show (ByteArray.mk x.toArray).data.toList = x from rfl]
          generalize parseV x = pv at *
          obtain ⟨pn, pb⟩ := pv
          obtain ⟨⟨e0, e1, e2, e3⟩, g0, g1, g2, g3⟩ := tok_zero hd0
          simp only at hA ⊢
          cases pb with
          | true =>
            rw [if_pos rfl] at hA
            go_wp2_with fail
            refine bodyPost_ret (results_cell_tmp2 rfl _ _ w.heap.size _ _ _ _ rfl (set4_block hd0 _ _ _ _) Tryd.underlying32 rfl (by kernel_rfl)) rfl ?_
            exact ⟨by first | rfl | (rw [hA]; rfl), below_set4 hb0 _ _ _ _⟩
          | false =>
            rw [if_neg (by simp)] at hA
            go_wp2_with fail
            refine bodyPost_ret (results_cell_tmp2 rfl _ _ w.heap.size _ _ _ _ rfl (set4_block hd0 _ _ _ _) Tryd.underlying32 rfl (by kernel_rfl)) rfl ?_
            exact ⟨by first | rfl | (rw [hA]; rfl), below_set4 hb0 _ _ _ _⟩
        · have hq := HSTOP.out hq2
          rw [hq] at HA
          clear HNEXT HSTOP hix hq
          generalize i = n at *
          have hex : ByteArray.extract ⟨s.toArray⟩ 0 n = ⟨(s.take n).toArray⟩ := by
            have h := extract_sv s 0 n
            rw [List.drop_zero] at h
            injection h
          have hA := HA.out
          clear HA
          have hxl : (s.take n).length ≤ 281474976710656 := by rw [List.length_take]; omega
          generalize s.take n = x at *
          have hP := refparse_any ⟨x.toArray⟩ w0 (by rw [sv_size]; exact hxl)
          go_wp2_with fail
          refine hP.mono ?_
          rintro e w2 ⟨rfl, rfl⟩
          simp only [show (ByteArray.mk x.toArray).data.toList = x from rfl]
          generalize parseV x = pv at *
          obtain ⟨pn, pb⟩ := pv
          obtain ⟨⟨e0, e1, e2, e3⟩, g0, g1, g2, g3⟩ := tok_zero hd0
          simp only at hA ⊢
          cases pb with
          | true =>
            rw [if_pos rfl] at hA
            go_wp2_with fail
            refine bodyPost_ret (results_cell_tmp2 rfl _ _ w.heap.size _ _ _ _ rfl (set4_block hd0 _ _ _ _) Tryd.underlying32 rfl (by kernel_rfl)) rfl ?_
            exact ⟨by first | rfl | (rw [hA]; rfl), below_set4 hb0 _ _ _ _⟩
          | false =>
            rw [if_neg (by simp)] at hA
            go_wp2_with fail
            refine bodyPost_ret (results_cell_tmp2 rfl _ _ w.heap.size _ _ _ _ rfl (set4_block hd0 _ _ _ _) Tryd.underlying32 rfl (by kernel_rfl)) rfl ?_
            exact ⟨by first | rfl | (rw [hA]; rfl), below_set4 hb0 _ _ _ _⟩
      · cases hq1 : letterB X
        · have HN := hid (HNEXT.out hq2)
          clear HNEXT HSTOP hix
          go_wp2_with fail
          go_round
          case rel => exact ⟨i + 1, rfl, by omega, HN.out⟩
          case measure => simp [intOf]; omega
        · have HN := hid (HNEXT.out hq2)
          clear HNEXT HSTOP hix
          go_wp2_with fail
          go_round
          case rel => exact ⟨i + 1, rfl, by omega, HN.out⟩
          case measure => simp [intOf]; omega
    · have hi2 : i = s.length := by omega
      have hq := row_own _ s i hi hall (.inl hi2)
      rw [hq] at HA
      clear hall hq
      have hlt' : ¬ (i : Int) < s.length := by omega
      clear hi2
      generalize i = n at *
      have hex : ByteArray.extract ⟨s.toArray⟩ 0 n = ⟨(s.take n).toArray⟩ := by
        have h := extract_sv s 0 n
        rw [List.drop_zero] at h
        injection h
      have hA := HA.out
      clear HA
      have hxl : (s.take n).length ≤ 281474976710656 := by rw [List.length_take]; omega
      generalize s.take n = x at *
      have hP := refparse_any ⟨x.toArray⟩ w0 (by rw [sv_size]; exact hxl)
      go_wp2_with fail
      refine hP.mono ?_
      rintro e w2 ⟨rfl, rfl⟩
      simp only [show (ByteArray.mk x.toArray).data.toList = x from rfl]
      generalize parseV x = pv at *
      obtain ⟨pn, pb⟩ := pv
      obtain ⟨⟨e0, e1, e2, e3⟩, g0, g1, g2, g3⟩ := tok_zero hd0
      simp only at hA ⊢
      cases pb with
      | true =>
        rw [if_pos rfl] at hA
        go_wp2_with fail
        refine bodyPost_ret (results_cell_tmp2 rfl _ _ w.heap.size _ _ _ _ rfl (set4_block hd0 _ _ _ _) Tryd.underlying32 rfl (by kernel_rfl)) rfl ?_
        exact ⟨by first | rfl | (rw [hA]; rfl), below_set4 hb0 _ _ _ _⟩
      | false =>
        rw [if_neg (by simp)] at hA
        go_wp2_with fail
        refine bodyPost_ret (results_cell_tmp2 rfl _ _ w.heap.size _ _ _ _ rfl (set4_block hd0 _ _ _ _) Tryd.underlying32 rfl (by kernel_rfl)) rfl ?_
        exact ⟨by first | rfl | (rw [hA]; rfl), below_set4 hb0 _ _ _ _⟩
set_option maxRecDepth 100000 in
set_option maxHeartbeats 2000000 in
theorem rtoken_quote (w : World) (c : UInt8) (r : Bt) (hs : (c :: r).length ≤ 281474976710656) (hl : letterB c = false) (hd : digitB c = false) (h34 : c.toNat = 34) :
    Calls Tryd.prog 21 #[sv (c :: r)] w fun e w' => e = .returned (tokR (nextT (c :: r))) ∧ Below w.heap.size w w' := by
  obtain ⟨s, hsc⟩ : ∃ s, s = c :: r := ⟨_, rfl⟩
  have hsz := sv_size s
  have hl1 : 1 ≤ s.length := by rw [hsc]; simp
  have hix0 : (ByteArray.mk s.toArray)[0]'(by omega) = c := by
    have := sv_index s 0 (by omega)
    rw [this]; simp [hsc]
  have hA : nextT s = strR s := by
    unfold strR
    rw [hsc, nextT, if_neg (by simp [hl]), if_neg (by simp [hd]), if_pos h34]
    cases quoteL (c :: r) with
    | none => rfl
    | some x => rfl
  unfold strR at hA
  have h34b : ((c.toNat : Int) == 34) = true := by rw [beq_iff_eq]; omega
  clear h34
  have hqn : ∀ t n, quoteL s = some (t, n) → 0 < n := by
    intro t n h
    unfold quoteL at h
    have := (quoteG_le h).1
    simp only at this; omega
  rw [← hsc] at hs ⊢
  clear hsc
  have HQ := hid (rquoted_any (w.alloc (.cells #[.int .i64 0, sv [], .int .i64 0, .int .i64 0] 32)) s hs hl1)
  generalize quoteL s = q at *
  generalize nextT s = ans at *
  have hd0 := heap_alloc_new w (.cells #[.int .i64 0, sv [], .int .i64 0, .int .i64 0] 32)
  have hb0 : Below w.heap.size w (w.alloc (.cells #[.int .i64 0, sv [], .int .i64 0, .int .i64 0] 32)) := (Below.refl _ _).alloc (Nat.le_refl _) _
  go_enter Tryd.func21, Tryd.ntmps21
  go_wp2_with fail
  generalize w.alloc (.cells #[.int .i64 0, sv [], .int .i64 0, .int .i64 0] 32) = w0 at *
  refine (rletter_any c _).mono ?_
  rintro e w0 ⟨rfl, rfl⟩
  go_wp2_with fail
  refine (rdigit_any c _).mono ?_
  rintro e w0 ⟨rfl, rfl⟩
  rw [hd]
  go_wp2_with fail
  refine HQ.out.mono ?_
  rintro e w2 ⟨rfl, rfl⟩
  clear HQ
  obtain ⟨⟨e0, e1, e2, e3⟩, g0, g1, g2, g3⟩ := tok_zero hd0
  rcases q with _ | ⟨t, n⟩
  · simp only at hA
    unfold quoteV
    go_wp2_with fail
    refine bodyPost_ret (results_cell_tmp2 rfl _ _ w.heap.size _ _ _ _ rfl (set4_block hd0 _ _ _ _) Tryd.underlying32 rfl (by kernel_rfl)) rfl ?_
    exact ⟨by first | rfl | (rw [hA]; rfl), below_set4 hb0 _ _ _ _⟩
  · simp only at hA
    have hn := hqn t n rfl
    have hn0 : ¬ (n : Int) = 0 := by omega
    have hst := sv_size t
    clear hqn
    unfold quoteV
    by_cases h256 : 256 < t.length
    · rw [if_pos h256] at hA
      go_wp2_with fail
      refine bodyPost_ret (results_cell_tmp2 rfl _ _ w.heap.size _ _ _ _ rfl (set4_block hd0 _ _ _ _) Tryd.underlying32 rfl (by kernel_rfl)) rfl ?_
      exact ⟨by first | rfl | (rw [hA]; rfl), below_set4 hb0 _ _ _ _⟩
    · rw [if_neg h256] at hA
      go_wp2_with fail
      refine bodyPost_ret (results_cell_tmp2 rfl _ _ w.heap.size _ _ _ _ rfl (set4_block hd0 _ _ _ _) Tryd.underlying32 rfl (by kernel_rfl)) rfl ?_
      exact ⟨by first | rfl | (rw [hA]; rfl), below_set4 hb0 _ _ _ _⟩
set_option maxRecDepth 100000 in
set_option maxHeartbeats 2000000 in
theorem rtoken_sign (w : World) (c : UInt8) (r : Bt) (hs : (c :: r).length ≤ 281474976710656) (hl : letterB c = false) (hd : digitB c = false) (h34 : ¬ c.toNat = 34) :
    Calls Tryd.prog 21 #[sv (c :: r)] w fun e w' => e = .returned (tokR (nextT (c :: r))) ∧ Below w.heap.size w w' := by
  obtain ⟨s, hsc⟩ : ∃ s, s = c :: r := ⟨_, rfl⟩
  have hsz := sv_size s
  have hl1 : 1 ≤ s.length := by rw [hsc]; simp
  have hix0 : (ByteArray.mk s.toArray)[0]'(by omega) = c := by
    have := sv_index s 0 (by omega)
    rw [this]; simp [hsc]
  have hA : nextT s = if signL c s = 0 then .inl 5 else .inr (5, s.take (signL c s), signL c s) := by
    rw [hsc, nextT, if_neg (by simp [hl]), if_neg (by simp [hd]), if_neg h34]
    by_cases hp : (c :: r).take 2 ∈ pairsL
    · rw [if_pos hp, sign_two hp, if_neg (by omega)]
    · rw [if_neg hp]
      by_cases h1 : c ∈ singlesL
      · rw [if_pos h1, sign_one hp h1, if_neg (by omega)]; rfl
      · rw [if_neg h1, sign_none hp h1, if_pos rfl]
  have HG := hid (rsign_any (w.alloc (.cells #[.int .i64 0, sv [], .int .i64 0, .int .i64 0] 32)) c r hs)
  have hgl : signL c s ≤ s.length := by
    unfold signL
    split
    · rename_i h
      have := pairs_two _ h
      rw [List.length_take] at this; omega
    · split
      · exact hl1
      · omega
  rw [← hsc] at hs HG ⊢
  clear hsc
  generalize signL c s = n at *
  generalize nextT s = ans at *
  have hd0 := heap_alloc_new w (.cells #[.int .i64 0, sv [], .int .i64 0, .int .i64 0] 32)
  have hb0 : Below w.heap.size w (w.alloc (.cells #[.int .i64 0, sv [], .int .i64 0, .int .i64 0] 32)) := (Below.refl _ _).alloc (Nat.le_refl _) _
  go_enter Tryd.func21, Tryd.ntmps21
  go_wp2_with fail
  generalize w.alloc (.cells #[.int .i64 0, sv [], .int .i64 0, .int .i64 0] 32) = w0 at *
  refine (rletter_any c _).mono ?_
  rintro e w0 ⟨rfl, rfl⟩
  go_wp2_with fail
  refine (rdigit_any c _).mono ?_
  rintro e w0 ⟨rfl, rfl⟩
  rw [hd]
  go_wp2_with fail
  refine HG.out.mono ?_
  rintro e w2 ⟨rfl, hb2⟩
  clear HG
  have hd2 := block_turn hd0 (Turn.of_below (F := fun _ => False) hb2) id
  have hB2 := bthen hb0 hb2
  obtain ⟨⟨e0, e1, e2, e3⟩, g0, g1, g2, g3⟩ := tok_zero hd2
  have hex : ByteArray.extract ⟨s.toArray⟩ 0 n = ⟨(s.take n).toArray⟩ := by
    have h := extract_sv s 0 n
    rw [List.drop_zero] at h
    injection h
  by_cases h0 : n = 0
  · subst h0
    rw [if_pos rfl] at hA
    go_wp2_with fail
    refine bodyPost_ret (results_cell_tmp2 rfl _ _ w.heap.size _ _ _ _ rfl (set4_block hd2 _ _ _ _) Tryd.underlying32 rfl (by kernel_rfl)) rfl ?_
    exact ⟨by first | rfl | (rw [hA]; rfl), below_set4 hB2 _ _ _ _⟩
  · rw [if_neg h0] at hA
    have hn0 : ¬ (n : Int) = 0 := by omega
    go_wp2_with fail
    refine bodyPost_ret (results_cell_tmp2 rfl _ _ w.heap.size _ _ _ _ rfl (set4_block hd2 _ _ _ _) Tryd.underlying32 rfl (by kernel_rfl)) rfl ?_
    exact ⟨by first | rfl | (rw [hA]; rfl), below_set4 hB2 _ _ _ _⟩
theorem rtoken_any (w : World) (s : Bt) (hs : s.length ≤ 281474976710656) (h1 : 1 ≤ s.length) :
    Calls Tryd.prog 21 #[sv s] w fun e w' => e = .returned (tokR (nextT s)) ∧ Below w.heap.size w w' := by
  cases s with
  | nil => simp at h1
  | cons c r =>
    cases hl : letterB c with
    | true => exact rtoken_letter w c r hs hl
    | false =>
      cases hd : digitB c with
      | true => exact rtoken_digit w c r hs hl hd
      | false =>
        by_cases h34 : c.toNat = 34
        · exact rtoken_quote w c r hs hl hd h34
        · exact rtoken_sign w c r hs hl hd h34
end Go.Proofs.YtpgngegdflbahaaDoor
