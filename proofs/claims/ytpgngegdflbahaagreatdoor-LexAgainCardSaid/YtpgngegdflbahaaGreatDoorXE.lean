/- A lexer's names and numbers. -/
import Derived.Test.YtpgngegdflbahaaGreatDoorXD
set_option linter.unusedVariables false
namespace Go.Proofs.YtpgngegdflbahaaGreatDoor
open Go.RowKit

theorem results_tmp4 {fn : Func} {t u v x : Tmp} (h : fn.results = #[.tmp t, .tmp u, .tmp v, .tmp x]) (tmps : Array Value) (P : Program) (w : World) :
    (results fn tmps).run P w = .ok (.tuple #[tmps.getD t undef, tmps.getD u undef, tmps.getD v undef, tmps.getD x undef]) w := by
  simp [results, h]

/-- What the four results say. -/
def resV : Int ⊕ (Int × Bt × Nat) → Value
  | .inl e => .tuple #[.int .i64 0, sv [], .int .i64 0, .int .i64 e]
  | .inr (kd, t, n) => .tuple #[.int .i64 kd, sv t, .int .i64 (n : Nat), .int .i64 0]
def namedR (s : Bt) : Int ⊕ (Int × Bt × Nat) :=
  if 32 < rowL innerB s then .inl 2 else if s.take (rowL innerB s) ∈ wordsL then .inr (2, s.take (rowL innerB s), rowL innerB s) else .inr (1, s.take (rowL innerB s), rowL innerB s)
def numberR (s : Bt) : Int ⊕ (Int × Bt × Nat) := if (parseV (s.take (rowL digitB s))).2 then .inr (3, s.take (rowL digitB s), rowL digitB s) else .inl 3
theorem take_sv (s : Bt) (n : Nat) : Value.string (ByteArray.extract ⟨s.toArray⟩ 0 n) = sv (s.take n) := by
  rw [extract_sv, List.drop_zero]

set_option maxRecDepth 100000 in
set_option maxHeartbeats 1000000 in
theorem named_any (w : World) (bl bp : Nat) (s : Bt) (p : Nat × Nat) (outv : Value) (hL : LexAt w bl bp s p outv) (hs : s.length ≤ 100000) (hX : LaidX w) :
    Calls Tryz.prog 25 #[.pointer (some ⟨bl, 0, none⟩)] w fun e w' => e = .returned (resV (namedR s)) ∧ Below w.heap.size w w' := by
  have c0 := hL.c0
  have hsz := sv_size s
  have hle := rowL_le innerB s
  have he := take_sv s (rowL innerB s)
  have hR : namedR s = if 32 < rowL innerB s then .inl 2 else if s.take (rowL innerB s) ∈ wordsL then .inr (2, s.take (rowL innerB s), rowL innerB s) else .inr (1, s.take (rowL innerB s), rowL innerB s) := rfl
  have hrow := row_inner s w (by omega)
  have HROW := hid hrow
  clear hrow
  generalize rowL innerB s = n at *
  by_cases h32 : 32 < n
  · rw [if_pos h32] at hR
    rw [hR]
    clear hR
    go_enter Tryz.func25, Tryz.ntmps25
    go_wp2_with fail
    refine HROW.out.mono ?_
    rintro e w1 ⟨rfl, rfl⟩
    go_wp2_with fail
    refine bodyPost_ret (results_tmp4 rfl _ _ _) rfl ?_
    exact ⟨rfl, Below.refl _ _⟩
  · rw [if_neg h32] at hR
    by_cases hw : s.take n ∈ wordsL
    · rw [if_pos hw] at hR
      rw [hR]
      clear hR
      go_enter Tryz.func25, Tryz.ntmps25
      go_wp2_with fail
      refine HROW.out.mono ?_
      rintro e w1 ⟨rfl, rfl⟩
      go_wp2_with fail
      refine (words_any _ hX).mono ?_
      rintro e w2 ⟨v2, rfl, hss2, hb2⟩
      go_wp2_with fail
      refine (contains_any v2 wordsL (s.take n) _ hss2).mono ?_
      rintro e w3 ⟨rfl, rfl⟩
      rw [decide_eq_true hw]
      go_wp2_with fail
      refine bodyPost_ret (results_tmp4 rfl _ _ _) rfl ?_
      exact ⟨rfl, hb2⟩
    · rw [if_neg hw] at hR
      rw [hR]
      clear hR
      go_enter Tryz.func25, Tryz.ntmps25
      go_wp2_with fail
      refine HROW.out.mono ?_
      rintro e w1 ⟨rfl, rfl⟩
      go_wp2_with fail
      refine (words_any _ hX).mono ?_
      rintro e w2 ⟨v2, rfl, hss2, hb2⟩
      go_wp2_with fail
      refine (contains_any v2 wordsL (s.take n) _ hss2).mono ?_
      rintro e w3 ⟨rfl, rfl⟩
      rw [decide_eq_false hw]
      go_wp2_with fail
      refine bodyPost_ret (results_tmp4 rfl _ _ _) rfl ?_
      exact ⟨rfl, hb2⟩

set_option maxRecDepth 100000 in
set_option maxHeartbeats 1000000 in
theorem number_any (w : World) (bl bp : Nat) (s : Bt) (p : Nat × Nat) (outv : Value) (hL : LexAt w bl bp s p outv) (hs : s.length ≤ 100000) (hX : LaidX w) :
    Calls Tryz.prog 27 #[.pointer (some ⟨bl, 0, none⟩)] w fun e w' => e = .returned (resV (numberR s)) ∧ Below w.heap.size w w' := by
  have c0 := hL.c0
  have hsz := sv_size s
  have hle := rowL_le digitB s
  have he := take_sv s (rowL digitB s)
  have hR : numberR s = if (parseV (s.take (rowL digitB s))).2 then .inr (3, s.take (rowL digitB s), rowL digitB s) else .inl 3 := rfl
  have HROW := hid (row_digit s w (by omega))
  generalize rowL digitB s = n at *
  have hpz : (ByteArray.mk (s.take n).toArray).size ≤ 281474976710656 := by rw [sv_size, List.length_take]; omega
  have HP := hid (parse_any ⟨(s.take n).toArray⟩ w hpz hX.1)
  clear hpz
  have hpv : parseV (ByteArray.mk (s.take n).toArray).data.toList = parseV (s.take n) := rfl
  rw [hpv] at HP
  clear hpv
  generalize parseV (s.take n) = r at *
  obtain ⟨i, q⟩ := r
  simp only at hR HP
  rw [hR]
  clear hR
  go_enter Tryz.func27, Tryz.ntmps27
  go_wp2_with fail
  refine HROW.out.mono ?_
  rintro e w1 ⟨rfl, rfl⟩
  go_wp2_with fail
  refine HP.out.mono ?_
  rintro e w2 ⟨rfl, hb2⟩
  have c02 := (hb2.cell (p := ⟨bl, 0, none⟩) hL.lt).trans c0
  cases q
  · go_wp2_with fail
    refine bodyPost_ret (results_tmp4 rfl _ _ _) rfl ?_
    exact ⟨rfl, hb2⟩
  · go_wp2_with fail
    go_quiet (fail)
    go_wp2_with fail
    refine bodyPost_ret (results_tmp4 rfl _ _ _) rfl ?_
    exact ⟨rfl, hb2.trans (below_drawn w2 _ |>.mono hb2.size)⟩
end Go.Proofs.YtpgngegdflbahaaGreatDoor
