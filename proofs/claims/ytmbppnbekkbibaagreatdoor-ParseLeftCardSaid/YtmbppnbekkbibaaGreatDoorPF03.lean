/- GF -/
import Derived.Test.YtmbppnbekkbibaaGreatDoorPF02
import Derived.DeepKeys4
set_option linter.unusedSimpArgs false
set_option linter.unusedVariables false
/- Texts that belong together: XE, XF, XG, XH. -/
/- A lexer's names and numbers. -/
set_option linter.unusedVariables false
namespace Go.Proofs.YtmbppnbekkbibaaGreatDoor
open Go.RowKit

theorem results_tmp4 {fn : Func} {t u v x : Tmp} (h : fn.results = #[.tmp t, .tmp u, .tmp v, .tmp x]) (tmps : Array Value) (P : Program) (w : World) :
    (results fn tmps).run P w = .ok (.tuple #[tmps.getD t undef, tmps.getD u undef, tmps.getD v undef, tmps.getD x undef]) w := by
  simp [results, h]

/-- What the four results say. -/
def resV : Int ⊕ (Int × Bt × Nat) → Value
  | .inl e => .tuple #[.int .i64 0, sv [], .int .i64 0, .int .i64 e]
  | .inr (kd, t, n) => .tuple #[.int .i64 kd, sv t, .int .i64 (n : Nat), .int .i64 0]
def namedR (s : Bt) : Int ⊕ (Int × Bt × Nat) :=
  if 32 < rowL innerB s then .inl 2 else if s.take (rowL innerB s) ∈ wordsL then .inr (2, s.take (rowL innerB s), rowL innerB s) else .inr (1, s.take (rowL innerB s), rowL innerB s)
def numberR (s : Bt) : Int ⊕ (Int × Bt × Nat) := if (parseV (s.take (rowL digitB s))).2 then .inr (3, s.take (rowL digitB s), rowL digitB s) else .inl 3
theorem take_sv (s : Bt) (n : Nat) : Value.string (ByteArray.extract ⟨s.toArray⟩ 0 n) = sv (s.take n) := by
  rw [extract_sv, List.drop_zero]

set_option maxRecDepth 100000 in
set_option maxHeartbeats 1000000 in
theorem named_any (w : World) (bl bp : Nat) (s : Bt) (p : Nat × Nat) (outv : Value) (hL : LexAt w bl bp s p outv) (hs : s.length ≤ 100000) (hX : LaidX w) :
    Calls Tryz.prog 105 #[.pointer (some ⟨bl, 0, none⟩)] w fun e w' => e = .returned (resV (namedR s)) ∧ Below w.heap.size w w' := by
  have c0 := hL.c0
  have hsz := sv_size s
  have hle := rowL_le innerB s
  have he := take_sv s (rowL innerB s)
  have hR : namedR s = if 32 < rowL innerB s then .inl 2 else if s.take (rowL innerB s) ∈ wordsL then .inr (2, s.take (rowL innerB s), rowL innerB s) else .inr (1, s.take (rowL innerB s), rowL innerB s) := rfl
  have hrow := row_inner s w (by omega)
  have HROW := hid hrow
  clear hrow
  generalize rowL innerB s = n at *
  by_cases h32 : 32 < n
  · rw [if_pos h32] at hR
    rw [hR]
    clear hR
    go_enter Tryz.func105, Tryz.ntmps105
    go_wp2_with fail
    refine HROW.out.mono ?_
    rintro e w1 ⟨rfl, rfl⟩
    go_wp2_with fail
    refine bodyPost_ret (results_tmp4 rfl _ _ _) rfl ?_
    exact ⟨rfl, Below.refl _ _⟩
  · rw [if_neg h32] at hR
    by_cases hw : s.take n ∈ wordsL
    · rw [if_pos hw] at hR
      rw [hR]
      clear hR
      go_enter Tryz.func105, Tryz.ntmps105
      go_wp2_with fail
      refine HROW.out.mono ?_
      rintro e w1 ⟨rfl, rfl⟩
      go_wp2_with fail
      refine (words_any _ hX.t).mono ?_
      rintro e w2 ⟨v2, rfl, hss2, hb2⟩
      go_wp2_with fail
      refine (contains_any v2 wordsL (s.take n) _ hss2).mono ?_
      rintro e w3 ⟨rfl, rfl⟩
      rw [decide_eq_true hw]
      go_wp2_with fail
      refine bodyPost_ret (results_tmp4 rfl _ _ _) rfl ?_
      exact ⟨rfl, hb2⟩
    · rw [if_neg hw] at hR
      rw [hR]
      clear hR
      go_enter Tryz.func105, Tryz.ntmps105
      go_wp2_with fail
      refine HROW.out.mono ?_
      rintro e w1 ⟨rfl, rfl⟩
      go_wp2_with fail
      refine (words_any _ hX.t).mono ?_
      rintro e w2 ⟨v2, rfl, hss2, hb2⟩
      go_wp2_with fail
      refine (contains_any v2 wordsL (s.take n) _ hss2).mono ?_
      rintro e w3 ⟨rfl, rfl⟩
      rw [decide_eq_false hw]
      go_wp2_with fail
      refine bodyPost_ret (results_tmp4 rfl _ _ _) rfl ?_
      exact ⟨rfl, hb2⟩

set_option maxRecDepth 100000 in
set_option maxHeartbeats 1000000 in
theorem number_any (w : World) (bl bp : Nat) (s : Bt) (p : Nat × Nat) (outv : Value) (hL : LexAt w bl bp s p outv) (hs : s.length ≤ 100000) (hX : LaidX w) :
    Calls Tryz.prog 107 #[.pointer (some ⟨bl, 0, none⟩)] w fun e w' => e = .returned (resV (numberR s)) ∧ Below w.heap.size w w' := by
  have c0 := hL.c0
  have hsz := sv_size s
  have hle := rowL_le digitB s
  have he := take_sv s (rowL digitB s)
  have hR : numberR s = if (parseV (s.take (rowL digitB s))).2 then .inr (3, s.take (rowL digitB s), rowL digitB s) else .inl 3 := rfl
  have HROW := hid (row_digit s w (by omega))
  generalize rowL digitB s = n at *
  have hpz : (ByteArray.mk (s.take n).toArray).size ≤ 281474976710656 := by rw [sv_size, List.length_take]; omega
  have HP := hid (parse_any ⟨(s.take n).toArray⟩ w hpz hX.1)
  clear hpz
  have hpv : parseV (ByteArray.mk (s.take n).toArray).data.toList = parseV (s.take n) := rfl
  rw [hpv] at HP
  clear hpv
  generalize parseV (s.take n) = r at *
  obtain ⟨i, q⟩ := r
  simp only at hR HP
  rw [hR]
  clear hR
  go_enter Tryz.func107, Tryz.ntmps107
  go_wp2_with fail
  refine HROW.out.mono ?_
  rintro e w1 ⟨rfl, rfl⟩
  go_wp2_with fail
  refine HP.out.mono ?_
  rintro e w2 ⟨rfl, hb2⟩
  have c02 := (hb2.cell (p := ⟨bl, 0, none⟩) hL.lt).trans c0
  cases q
  · go_wp2_with fail
    refine bodyPost_ret (results_tmp4 rfl _ _ _) rfl ?_
    exact ⟨rfl, hb2⟩
  · go_wp2_with fail
    go_quiet (fail)
    go_wp2_with fail
    refine bodyPost_ret (results_tmp4 rfl _ _ _) rfl ?_
    exact ⟨rfl, hb2.trans (below_drawn w2 _ |>.mono hb2.size)⟩
end Go.Proofs.YtmbppnbekkbibaaGreatDoor

/- How lex reads a string. -/
set_option linter.unusedVariables false
namespace Go.Proofs.YtmbppnbekkbibaaGreatDoor
open Go.RowKit

theorem el_byte : ElemIs Tryz.prog 163 5 (.int .u8 0) 1 1 := ⟨Tryz.underlying163, by kernel_rfl, rfl, by decide⟩
theorem conv_sv {P : Program} (w : World) (src dst e : TypeId) (hs : P.underlying src = some .string) (hd : P.underlying dst = some (.slice e)) (he : P.underlying e = some (.int .u8)) (s : Bt) :
    ∃ C w5, (convert src dst (sv s)).run P w = .ok (.slice (some ⟨w.heap.size, 0, none⟩) s.length C) w5 ∧ Below w.heap.size w w5 ∧ w.heap.size < w5.heap.size ∧
      ∀ j (hj : j < s.length), w5.cell? ⟨w.heap.size, j, none⟩ = some (.int .u8 (s[j].toNat : Int)) := by
  have hsz := sv_size s
  have hrun := Lib.run_convert_string_bytes (P := P) w src dst e ⟨s.toArray⟩ hs hd he
  have hcell := Lib.bytesWorld_cell w e ⟨s.toArray⟩
  have hsize := Lib.bytesWorld_size w e ⟨s.toArray⟩
  have hold := Lib.bytesWorld_at_old w e ⟨s.toArray⟩
  rw [hsz] at hrun hcell
  refine ⟨_, _, hrun, ⟨rfl, rfl, rfl, by rw [hsize]; omega, fun k hk => hold k hk⟩, by rw [hsize]; omega, fun j hj => ?_⟩
  rw [hcell j hj]
  have e : (ByteArray.mk s.toArray).data.toList = s := rfl
  rw [e]
  simp [List.getD_eq_getElem?_getD, List.getElem?_eq_getElem hj]
theorem byte_of {X : UInt8} {n : Nat} (hn : n < 256) (h : X.toNat = n) : X = UInt8.ofNat n := by
  apply UInt8.toNat_inj.1
  rw [UInt8.toNat_ofNat', h]; omega
theorem esc_cases (X : UInt8) : (X = 92 ∧ escB X = some 92 ∧ Lib.indexByte [92, 34, 110, 116] X = 0) ∨ (X = 34 ∧ escB X = some 34 ∧ Lib.indexByte [92, 34, 110, 116] X = 1) ∨ (X = 110 ∧ escB X = some 10 ∧ Lib.indexByte [92, 34, 110, 116] X = 2) ∨ (X = 116 ∧ escB X = some 9 ∧ Lib.indexByte [92, 34, 110, 116] X = 3) ∨
    (escB X = none ∧ Lib.indexByte [92, 34, 110, 116] X = -1) := by
  by_cases h1 : X = 92
  · subst h1; exact .inl ⟨rfl, rfl, rfl⟩
  by_cases h2 : X = 34
  · subst h2; exact .inr (.inl ⟨rfl, rfl, rfl⟩)
  by_cases h3 : X = 110
  · subst h3; exact .inr (.inr (.inl ⟨rfl, rfl, rfl⟩))
  by_cases h4 : X = 116
  · subst h4; exact .inr (.inr (.inr (.inl ⟨rfl, rfl, rfl⟩)))
  refine .inr (.inr (.inr (.inr ⟨?_, ?_⟩)))
  · unfold escB
    rw [if_neg (fun h => h1 (byte_of (by decide) h)), if_neg (fun h => h2 (byte_of (by decide) h)), if_neg (fun h => h3 (byte_of (by decide) h)), if_neg (fun h => h4 (byte_of (by decide) h))]
  · have e1 : ((92 : UInt8) == X) = false := by rw [beq_eq_false_iff_ne]; exact fun h => h1 h.symm
    have e2 : ((34 : UInt8) == X) = false := by rw [beq_eq_false_iff_ne]; exact fun h => h2 h.symm
    have e3 : ((110 : UInt8) == X) = false := by rw [beq_eq_false_iff_ne]; exact fun h => h3 h.symm
    have e4 : ((116 : UInt8) == X) = false := by rw [beq_eq_false_iff_ne]; exact fun h => h4 h.symm
    simp [Lib.indexByte, e1, e2, e3, e4]
theorem ofNat_toNat (X : UInt8) : UInt8.ofNat ((X.toNat : Int)).toNat = X := by simp

theorem toU8_back (X : UInt8) : ((X.toNat : Int)).toNat.toUInt8 = X := by simp
def quoteV : Option (Bt × Nat) → Value
  | none => .tuple #[sv [], .int .i64 0]
  | some (t, n) => .tuple #[sv t, .int .i64 (n : Nat)]
def QuoteRel (w5 : World) (ans : Option (Bt × Nat)) (r : Bt) (k : Nat) (v4 v5 : Value) (wr : World) : Prop :=
  ∃ (back : Bool) (o : Bt), v5 = .bool back ∧ OwnB wr w5.heap.size 5 v4 o ∧ quoteG back o k (r.drop k) = ans ∧ o.length ≤ k ∧ Below w5.heap.size w5 wr

set_option maxRecDepth 100000 in
set_option maxHeartbeats 2000000 in
theorem quoted_any (w : World) (s : Bt) (hs : s.length ≤ 100000) (h1 : 1 ≤ s.length) :
    Calls Tryz.prog 149 #[sv s] w fun e w' => e = .returned (quoteV (quoteL s)) ∧ Below w.heap.size w w' := by
  have hsz := sv_size s
  have he : Value.string (ByteArray.extract ⟨s.toArray⟩ 1 s.length) = sv (s.drop 1) := by rw [extract_sv, List.take_length]
  have hq0 : quoteG false [] 0 ((s.drop 1).drop 0) = quoteL s := rfl
  have hrl : (s.drop 1).length ≤ 100000 := by rw [List.length_drop]; omega
  generalize s.drop 1 = r at *
  obtain ⟨C, w5, hconv, hb5, hlt5, hcells⟩ := conv_sv (P := Tryz.prog) w 9 163 5 Tryz.underlying9 Tryz.underlying163 Tryz.underlying5 r
  have HC := hid hcells
  have HQ0 := hid hq0
  clear hcells hq0
  generalize quoteL s = ans at *
  go_enter Tryz.func149, Tryz.ntmps149
  go_wp2_with fail
  go_loopw [4, 5, 13] (fun v4 v5 v13 wr => ∃ k : Nat, v13 = .int .i64 k ∧ k ≤ r.length ∧ QuoteRel w5 ans r k v4 v5 wr) (fun _ _ v13 _ => r.length - (intOf v13).toNat)
  case atStart => exact ⟨0, rfl, by omega, false, [], rfl, OwnB.nil _ _ _, HQ0.out, Nat.le_refl _, Below.refl _ _⟩
  case round =>
    obtain ⟨k, rfl, hk, back, o, rfl, hown, hq, hol, hbr⟩ := hrel
    have hfin : Below w.heap.size w wr := hb5.trans (hbr.mono hb5.size)
    by_cases hlt : k < r.length
    · rw [List.drop_eq_getElem_cons hlt, quoteG] at hq
      have d1 := (hbr.cell (p := ⟨w.heap.size, k, none⟩) hlt5).trans (HC.out k hlt)
      generalize r[k] = X at *
      clear hconv
      by_cases h32 : X.toNat < 32
      · rw [if_pos h32] at hq
        subst hq
        go_wp2_with fail
        go_ret2
        exact ⟨rfl, hfin⟩
      rw [if_neg h32] at hq
      have hXs : ((X.toNat : Int)).toNat.toUInt8 = X := by simp
      cases back with
      | true =>
        rw [if_pos rfl] at hq
        rcases esc_cases X with ⟨hX, e1, e2⟩ | ⟨hX, e1, e2⟩ | ⟨hX, e1, e2⟩ | ⟨hX, e1, e2⟩ | ⟨e1, e2⟩
        all_goals have E2 := hid e2
        all_goals clear e2 hXs
        all_goals try clear hX
        · rw [e1] at hq
          have hq2 : quoteG false (o ++ [92]) (k + 1) (r.drop (k + 1)) = ans := hq
          have i0 : ((ByteArray.mk #[92, 34, 10, 9])[0]'(by decide)).toNat = 92 := rfl
          have HQ := hid hq2
          clear hq hq2 e1
          go_wp2_with (first
            | (go_at_call 150; refine (Tryz.strings_IndexByte _ _ _).mono ?_; rintro e w1 ⟨rfl, rfl⟩; rw [toU8_back, E2.out])
            | (at_builtin; refine wpList_appB rfl _ (.tmp 34) _ rfl w5.heap.size el_byte _ _ rfl rfl (hown.alloc _) (bs_new _ (92 : Int) _ (by decide)) (by simp; omega) (le_alloc hbr.size _) (fun v7 w7 hown7 hg7 hbk7 => ?_); have hb7 := below_appB (hbr.alloc hbr.size _) (hown.alloc _) hg7 (Nat.le_refl _) (le_alloc hbr.size _); clear hg7 hbk7))
          go_roundw
          case rel => exact ⟨k + 1, rfl, by omega, false, o ++ [92], rfl, hown7, HQ.out, by simp; omega, hb7⟩
          case measure => simp [intOf]; omega
        · rw [e1] at hq
          have hq2 : quoteG false (o ++ [34]) (k + 1) (r.drop (k + 1)) = ans := hq
          have i0 : ((ByteArray.mk #[92, 34, 10, 9])[1]'(by decide)).toNat = 34 := rfl
          have HQ := hid hq2
          clear hq hq2 e1
          go_wp2_with (first
            | (go_at_call 150; refine (Tryz.strings_IndexByte _ _ _).mono ?_; rintro e w1 ⟨rfl, rfl⟩; rw [toU8_back, E2.out])
            | (at_builtin; refine wpList_appB rfl _ (.tmp 34) _ rfl w5.heap.size el_byte _ _ rfl rfl (hown.alloc _) (bs_new _ (34 : Int) _ (by decide)) (by simp; omega) (le_alloc hbr.size _) (fun v7 w7 hown7 hg7 hbk7 => ?_); have hb7 := below_appB (hbr.alloc hbr.size _) (hown.alloc _) hg7 (Nat.le_refl _) (le_alloc hbr.size _); clear hg7 hbk7))
          go_roundw
          case rel => exact ⟨k + 1, rfl, by omega, false, o ++ [34], rfl, hown7, HQ.out, by simp; omega, hb7⟩
          case measure => simp [intOf]; omega
        · rw [e1] at hq
          have hq2 : quoteG false (o ++ [10]) (k + 1) (r.drop (k + 1)) = ans := hq
          have i0 : ((ByteArray.mk #[92, 34, 10, 9])[2]'(by decide)).toNat = 10 := rfl
          have HQ := hid hq2
          clear hq hq2 e1
          go_wp2_with (first
            | (go_at_call 150; refine (Tryz.strings_IndexByte _ _ _).mono ?_; rintro e w1 ⟨rfl, rfl⟩; rw [toU8_back, E2.out])
            | (at_builtin; refine wpList_appB rfl _ (.tmp 34) _ rfl w5.heap.size el_byte _ _ rfl rfl (hown.alloc _) (bs_new _ (10 : Int) _ (by decide)) (by simp; omega) (le_alloc hbr.size _) (fun v7 w7 hown7 hg7 hbk7 => ?_); have hb7 := below_appB (hbr.alloc hbr.size _) (hown.alloc _) hg7 (Nat.le_refl _) (le_alloc hbr.size _); clear hg7 hbk7))
          go_roundw
          case rel => exact ⟨k + 1, rfl, by omega, false, o ++ [10], rfl, hown7, HQ.out, by simp; omega, hb7⟩
          case measure => simp [intOf]; omega
        · rw [e1] at hq
          have hq2 : quoteG false (o ++ [9]) (k + 1) (r.drop (k + 1)) = ans := hq
          have i0 : ((ByteArray.mk #[92, 34, 10, 9])[3]'(by decide)).toNat = 9 := rfl
          have HQ := hid hq2
          clear hq hq2 e1
          go_wp2_with (first
            | (go_at_call 150; refine (Tryz.strings_IndexByte _ _ _).mono ?_; rintro e w1 ⟨rfl, rfl⟩; rw [toU8_back, E2.out])
            | (at_builtin; refine wpList_appB rfl _ (.tmp 34) _ rfl w5.heap.size el_byte _ _ rfl rfl (hown.alloc _) (bs_new _ (9 : Int) _ (by decide)) (by simp; omega) (le_alloc hbr.size _) (fun v7 w7 hown7 hg7 hbk7 => ?_); have hb7 := below_appB (hbr.alloc hbr.size _) (hown.alloc _) hg7 (Nat.le_refl _) (le_alloc hbr.size _); clear hg7 hbk7))
          go_roundw
          case rel => exact ⟨k + 1, rfl, by omega, false, o ++ [9], rfl, hown7, HQ.out, by simp; omega, hb7⟩
          case measure => simp [intOf]; omega
        · rw [e1] at hq
          have hq2 : none = ans := hq
          subst hq2
          clear hq e1
          go_wp2_with (go_at_call 150; refine (Tryz.strings_IndexByte _ _ _).mono ?_; rintro e w1 ⟨rfl, rfl⟩; rw [toU8_back, E2.out])
          go_ret2
          exact ⟨rfl, hfin⟩
      | false =>
        rw [if_neg (by simp)] at hq
        clear hXs
        by_cases h92 : X.toNat = 92
        · rw [if_pos h92] at hq
          have HQ := hid hq
          clear hq
          go_wp2_with fail
          go_roundw
          case rel => exact ⟨k + 1, rfl, by omega, true, o, rfl, hown, HQ.out, by omega, hbr⟩
          case measure => simp [intOf]; omega
        rw [if_neg h92] at hq
        by_cases h34 : X.toNat = 34
        · rw [if_pos h34] at hq
          subst hq
          have hso := run_string_of (P := Tryz.prog) hown.bs 163 5 9 Tryz.underlying163 Tryz.underlying5 Tryz.underlying9
          go_wp2_with fail
          go_ret2
          exact ⟨by simp [quoteV], hfin⟩
        rw [if_neg h34] at hq
        have HQ := hid hq
        clear hq
        go_wp2_with (first
          | (at_builtin; refine wpList_appB rfl _ (.tmp 20) _ rfl w5.heap.size el_byte _ _ rfl rfl (hown.alloc _) (bs_new _ (X.toNat : Int) _ (by have := X.toNat_lt; omega)) (by simp; omega) (le_alloc hbr.size _) (fun v7 w7 hown7 hg7 hbk7 => ?_); have hb7 := below_appB (hbr.alloc hbr.size _) (hown.alloc _) hg7 (Nat.le_refl _) (le_alloc hbr.size _); clear hg7 hbk7))
        rw [ofNat_toNat] at hown7
        go_roundw
        case rel => exact ⟨k + 1, rfl, by omega, false, o ++ [X], rfl, hown7, HQ.out, by simp; omega, hb7⟩
        case measure => simp [intOf]; omega
    · obtain rfl : k = r.length := by omega
      rw [List.drop_length] at hq
      have hq2 : none = ans := by rw [← hq]; cases back <;> rfl
      subst hq2
      clear hq hconv
      go_wp2_with fail
      go_ret2
      exact ⟨rfl, hfin⟩
end Go.Proofs.YtmbppnbekkbibaaGreatDoor

/- A lexer's strings and signs, and the token at the beginning. -/
set_option linter.unusedVariables false
namespace Go.Proofs.YtmbppnbekkbibaaGreatDoor
open Go.RowKit
open Go.Maps (has IsMap Keyed)

def strR (s : Bt) : Int ⊕ (Int × Bt × Nat) :=
  match quoteL s with
  | none => .inl 4
  | some (t, n) => if 256 < t.length then .inl 2 else .inr (4, t, n)

set_option maxRecDepth 100000 in
set_option maxHeartbeats 1000000 in
theorem str_any (w : World) (bl bp : Nat) (s : Bt) (p : Nat × Nat) (outv : Value) (hL : LexAt w bl bp s p outv) (hs : s.length ≤ 100000) (h1 : 1 ≤ s.length) :
    Calls Tryz.prog 108 #[.pointer (some ⟨bl, 0, none⟩)] w fun e w' => e = .returned (resV (strR s)) ∧ Below w.heap.size w w' := by
  have c0 := hL.c0
  have HP := hid (quoted_any w s hs h1)
  cases hq : quoteL s with
  | none =>
    have hR : strR s = .inl 4 := by unfold strR; rw [hq]
    rw [hR]
    rw [hq] at HP
    clear hR hq
    go_enter Tryz.func108, Tryz.ntmps108
    go_wp2_with fail
    refine HP.out.mono ?_
    rintro e w1 ⟨rfl, hb1⟩
    unfold quoteV
    go_wp2_with fail
    refine bodyPost_ret (results_tmp4 rfl _ _ _) rfl ?_
    exact ⟨rfl, hb1⟩
  | some r =>
    obtain ⟨t, n⟩ := r
    have hle := quoteG_le hq
    have hn : ¬ (n : Int) = 0 := by omega
    have hsz := sv_size t
    have hR : strR s = if 256 < t.length then .inl 2 else .inr (4, t, n) := by unfold strR; rw [hq]
    rw [hq] at HP
    clear hq hle
    by_cases h256 : 256 < t.length
    · rw [if_pos h256] at hR
      rw [hR]
      clear hR
      go_enter Tryz.func108, Tryz.ntmps108
      go_wp2_with fail
      refine HP.out.mono ?_
      rintro e w1 ⟨rfl, hb1⟩
      unfold quoteV
      go_wp2_with fail
      refine bodyPost_ret (results_tmp4 rfl _ _ _) rfl ?_
      exact ⟨rfl, hb1⟩
    · rw [if_neg h256] at hR
      rw [hR]
      clear hR
      go_enter Tryz.func108, Tryz.ntmps108
      go_wp2_with fail
      refine HP.out.mono ?_
      rintro e w1 ⟨rfl, hb1⟩
      unfold quoteV
      go_wp2_with fail
      refine bodyPost_ret (results_tmp4 rfl _ _ _) rfl ?_
      exact ⟨rfl, hb1⟩

/-! The map of pairs. -/
def pairV (a b : UInt8) : Value := .agg #[.int .u8 (a.toNat : Int), .int .u8 (b.toNat : Int)]
theorem law_pair : Keyed Tryz.prog 160 := Keyed.of_law (deep_law_laid (m := 2) (by kernel_rfl) (by omega) (of_decide_eq_true (by kernel_rfl)) (by kernel_rfl) (by kernel_rfl))
theorem zero_bool (w : World) : (zeroValue 4).run Tryz.prog w = .ok (.bool false) w := by kernel_rfl
theorem wf_u8 (a : UInt8) : (Lit.int .u8 (a.toNat : Int)).wf = true := by
  have e1 : IntKind.u8.min = 0 := by decide
  have e2 : IntKind.u8.max = 255 := by decide
  have := a.toNat_lt
  simp [Lit.wf, e1, e2]
  omega
theorem lits_u8 (d : Nat) (a : UInt8) : Tryz.prog.keyLits (d + 1) 5 [.int .u8 (a.toNat : Int)] = some [.int .u8 (a.toNat : Int)] := by
  simp [Program.keyLits, Tryz.underlying5, wf_u8]
theorem key_pair (a b : UInt8) : ∃ kl, keyOf Tryz.prog 160 (pairV a b) = some kl := by
  obtain ⟨d, hd⟩ : ∃ d, Tryz.prog.types.size = d + 1 := ⟨Tryz.prog.types.size - 1, by kernel_rfl⟩
  have h2 : Tryz.prog.cellsOf 160 = 2 := by kernel_rfl
  have h3 : Tryz.prog.cellsOf 5 = 1 := by kernel_rfl
  have hk : Tryz.prog.keyType 160 = true := by kernel_rfl
  have hf : (pairV a b).formed Tryz.prog 160 = true := by simp [Value.formed, Tryz.underlying160, h2, pairV]
  refine ⟨.string (keyBytes [.int .u8 (a.toNat : Int), .int .u8 (b.toNat : Int)]), ?_⟩
  have e : Tryz.prog.keyLits (d + 1 + 1) 160 [.int .u8 (a.toNat : Int), .int .u8 (b.toNat : Int)] = some [.int .u8 (a.toNat : Int), .int .u8 (b.toNat : Int)] := by
    rw [Program.keyLits.eq_def]
    simp only [Tryz.underlying160]
    simp [h2, h3, List.range_succ, lits_u8 d a, lits_u8 d b]
  simp only [keyOf, Tryz.underlying160, hk, hf, Bool.and_self, if_true, hd]
  have e2 : (pairV a b).cells.toList = [.int .u8 (a.toNat : Int), .int .u8 (b.toNat : Int)] := rfl
  rw [e2, e]; rfl
/-- What the map holds when the pairs of l are in it. -/
def PairsOf (D : DataW Unit) (l : List Bt) : Prop := ∀ (a b : UInt8) (kl : Lit), keyOf Tryz.prog 160 (pairV a b) = some kl → ∀ z, D.atKey kl z = if [a, b] ∈ l then .lit (.bool true) else z
def PairsAt (w : World) (bp : Nat) (l : List Bt) : Prop := ∃ (n : Nat) (D : DataW Unit), n ≤ l.length ∧ w.ownsMap Tryz.prog 160 (plainElem Tryz.prog 4) bp n D ∧ PairsOf D l
theorem PairsAt.turn {w w' : World} {bp : Nat} {l : List Bt} {G : Nat → Prop} (h : PairsAt w bp l) (t : Turn G w w') (hd : ¬ G bp) : PairsAt w' bp l := by
  obtain ⟨n, D, h0, h1, h2⟩ := h
  exact ⟨n, D, h0, map_turn h1 t hd, h2⟩
set_option maxRecDepth 100000 in
theorem bool_inv {v : Value} {x : Bool} {ps : List MemPlace} (h : plainElem (H := Unit) Tryz.prog 4 v = some (.lit (.bool x), ps)) : v = .bool x := by
  unfold plainElem at h
  rw [Tryz.underlying4] at h
  cases v <;> simp at h
  rw [h.1]
theorem pairs_look {w : World} {bp : Nat} {l : List Bt} (h : PairsAt w bp l) (a b : UInt8) : (Instr.lookup 107 (.map (some bp)) (pairV a b) false).run Tryz.prog w = .ok (.bool (decide ([a, b] ∈ l))) w := by
  obtain ⟨n, D, _, hown, hD⟩ := h
  obtain ⟨kl, hk⟩ := key_pair a b
  obtain ⟨v, ps, hrun, hR⟩ := hown.lookup law_pair Tryz.underlying107 (zero_bool w) (plainElem_bool Tryz.underlying4 false) hk
  rw [hrun]
  rw [hD a b kl hk] at hR
  by_cases hin : [a, b] ∈ l
  · rw [if_pos hin] at hR
    rw [bool_inv hR, decide_eq_true hin]
  · rw [if_neg hin] at hR
    rw [bool_inv hR, decide_eq_false hin]

def signR (s : Bt) : Int ⊕ (Int × Bt × Nat) := if s.take 2 ∈ pairsL then .inr (5, s.take 2, 2) else if s.headD 0 ∈ singlesL then .inr (5, s.take 1, 1) else .inl 5
theorem index_mem {l : Bt} {c : UInt8} : 0 ≤ Lib.indexByte l c ↔ c ∈ l := by
  induction l with
  | nil => simp [Lib.indexByte]
  | cons b l ih =>
    rw [Lib.indexByte]
    by_cases h : b = c
    · subst h; simp
    · have hb : (b == c) = false := by rw [beq_eq_false_iff_ne]; exact h
      rw [hb]
      simp only [Bool.false_eq_true, if_false]
      have hge := Lib.indexByte_ge l c
      by_cases h1 : Lib.indexByte l c = -1
      · have h2 : (Lib.indexByte l c == -1) = true := by rw [beq_iff_eq]; exact h1
        rw [if_pos h2]
        constructor
        · intro hh; omega
        · intro hh
          rcases List.mem_cons.1 hh with hh | hh
          · exact absurd hh.symm h
          · have := ih.2 hh; omega
      · have h2 : ¬ (Lib.indexByte l c == -1) = true := by rw [beq_iff_eq]; exact h1
        rw [if_neg h2]
        constructor
        · intro hh
          exact List.mem_cons_of_mem _ (ih.1 (by omega))
        · intro hh
          rcases List.mem_cons.1 hh with hh | hh
          · exact absurd hh.symm h
          · have := ih.2 hh; omega

theorem singles_list : (⟨singlesL.toArray⟩ : ByteArray).data.toList = singlesL := rfl
set_option maxRecDepth 100000 in
set_option maxHeartbeats 1000000 in
theorem sign_any (w : World) (bl bp : Nat) (c : UInt8) (r : Bt) (p : Nat × Nat) (outv : Value) (hL : LexAt w bl bp (c :: r) p outv) (hs : (c :: r).length ≤ 100000) (hP : PairsAt w bp pairsL) :
    Calls Tryz.prog 109 #[.pointer (some ⟨bl, 0, none⟩)] w fun e w' => e = .returned (resV (signR (c :: r))) ∧ Below w.heap.size w w' := by
  have c0 := hL.c0
  have c3 := hL.c3
  have hsz := sv_size (c :: r)
  cases r with
  | nil =>
    have hnp : (c :: ([] : Bt)).take 2 ∉ pairsL := fun h => by
      have hall : ∀ m ∈ pairsL, m.length = 2 := by decide
      have := hall _ h
      simp at this
    have hix := sv_index (c :: []) 0 (by simp)
    have he1 : Value.string (ByteArray.extract ⟨(c :: ([] : Bt)).toArray⟩ 0 1) = sv [c] := take_sv _ 1
    have hR : signR (c :: []) = if c ∈ singlesL then .inr (5, [c], 1) else .inl 5 := by unfold signR; rw [if_neg hnp]; rfl
    obtain ⟨ans, hans⟩ : ∃ ans, ans = signR (c :: []) := ⟨_, rfl⟩
    rw [← hans]
    rw [← hans] at hR
    clear hnp hans
    go_enter Tryz.func109, Tryz.ntmps109
    go_wp2_with fail
    go_quiet (fail)
    go_wp2_with fail
    refine (Tryz.strings_IndexByte ⟨singlesL.toArray⟩ _ _).mono ?_
    rintro e w1 ⟨rfl, rfl⟩
    rw [toU8_back, singles_list]
    have hi := index_mem (l := singlesL) (c := c)
    generalize Lib.indexByte singlesL c = ix at *
    by_cases hc : c ∈ singlesL
    · have hix2 : ¬ (ix < 0) := by have := hi.2 hc; omega
      rw [if_pos hc] at hR
      subst hR
      clear hi
      go_wp2_with fail
      go_quiet (fail)
      go_wp2_with fail
      refine bodyPost_ret (results_tmp4 rfl _ _ _) rfl ?_
      exact ⟨rfl, ((below_drawn w _).trans (below_drawn _ _ |>.mono (Nat.le_refl _)))⟩
    · have hix2 : ix < 0 := by
        rcases Int.lt_or_le ix 0 with h | h
        · exact h
        · exact absurd (hi.1 h) hc
      rw [if_neg hc] at hR
      subst hR
      clear hi
      go_wp2_with fail
      refine bodyPost_ret (results_tmp4 rfl _ _ _) rfl ?_
      exact ⟨rfl, below_drawn w _⟩
  | cons d r =>
    have hl1 : (1 : Int) < (r.length : Int) + 1 + 1 := by omega
    have hl0 : (0 : Int) < (r.length : Int) + 1 + 1 := by omega
    have hix := sv_index (c :: d :: r) 0 (by simp)
    have hix1 := sv_index (c :: d :: r) 1 (by simp)
    have he1 : Value.string (ByteArray.extract ⟨(c :: d :: r).toArray⟩ 0 1) = sv [c] := take_sv _ 1
    have he2 : Value.string (ByteArray.extract ⟨(c :: d :: r).toArray⟩ 0 2) = sv [c, d] := take_sv _ 2
    have hlook : ∀ n, (Instr.lookup 107 (.map (some bp)) (.agg #[.int .u8 (c.toNat : Int), .int .u8 (d.toNat : Int)]) false).run Tryz.prog (w.drewN n) = .ok (.bool (decide ([c, d] ∈ pairsL))) (w.drewN n) :=
      fun n => pairs_look (hP.turn (Turn.drewN (fun _ => False) w n) id) c d
    have hR0 : signR (c :: d :: r) = if [c, d] ∈ pairsL then .inr (5, [c, d], 2) else if c ∈ singlesL then .inr (5, [c], 1) else .inl 5 := rfl
    by_cases hp : [c, d] ∈ pairsL
    · rw [if_pos hp] at hR0
      rw [decide_eq_true hp] at hlook
      rw [hR0]
      clear hR0 hp
      go_enter Tryz.func109, Tryz.ntmps109
      go_wp2_with fail
      go_quiet (fail)
      go_wp2_with fail
      go_quiet (fail)
      go_wp2_with fail
      refine bodyPost_ret (results_tmp4 rfl _ _ _) rfl ?_
      exact ⟨rfl, (below_drawn w _).trans (below_drawn _ _ |>.mono (Nat.le_refl _))⟩
    · rw [if_neg hp] at hR0
      rw [decide_eq_false hp] at hlook
      obtain ⟨ans, hans⟩ : ∃ ans, ans = signR (c :: d :: r) := ⟨_, rfl⟩
      rw [← hans]
      have hR := hans.trans hR0
      clear hR0 hp hans
      go_enter Tryz.func109, Tryz.ntmps109
      go_wp2_with fail
      go_quiet (fail)
      go_wp2_with fail
      refine (Tryz.strings_IndexByte ⟨singlesL.toArray⟩ _ _).mono ?_
      rintro e w1 ⟨rfl, rfl⟩
      rw [toU8_back, singles_list]
      have hi := index_mem (l := singlesL) (c := c)
      generalize Lib.indexByte singlesL c = ix at *
      by_cases hc : c ∈ singlesL
      · have hix2 : ¬ (ix < 0) := by have := hi.2 hc; omega
        rw [if_pos hc] at hR
        subst hR
        clear hi
        go_wp2_with fail
        go_quiet (fail)
        go_wp2_with fail
        refine bodyPost_ret (results_tmp4 rfl _ _ _) rfl ?_
        exact ⟨rfl, ((below_drawn w _).trans (below_drawn _ _ |>.mono (Nat.le_refl _)))⟩
      · have hix2 : ix < 0 := by
          rcases Int.lt_or_le ix 0 with h | h
          · exact h
          · exact absurd (hi.1 h) hc
        rw [if_neg hc] at hR
        subst hR
        clear hi
        go_wp2_with fail
        refine bodyPost_ret (results_tmp4 rfl _ _ _) rfl ?_
        exact ⟨rfl, below_drawn w _⟩
end Go.Proofs.YtmbppnbekkbibaaGreatDoor

/- The token that a lexer's text begins with; the map of pairs is made. -/
set_option linter.unusedVariables false
namespace Go.Proofs.YtmbppnbekkbibaaGreatDoor
open Go.RowKit
open Go.Maps (has IsMap Keyed)

theorem nextT_eq (c : UInt8) (r : Bt) : nextT (c :: r) = if letterB c then namedR (c :: r) else if digitB c then numberR (c :: r) else if c.toNat = 34 then strR (c :: r) else signR (c :: r) := rfl

set_option maxRecDepth 100000 in
set_option maxHeartbeats 1000000 in
theorem next_any (w : World) (bl bp : Nat) (c : UInt8) (r : Bt) (p : Nat × Nat) (outv : Value) (hL : LexAt w bl bp (c :: r) p outv) (hs : (c :: r).length ≤ 100000) (hX : LaidX w) (hP : PairsAt w bp pairsL) :
    Calls Tryz.prog 57 #[.pointer (some ⟨bl, 0, none⟩)] w fun e w' => e = .returned (resV (nextT (c :: r))) ∧ Below w.heap.size w w' := by
  have c0 := hL.c0
  have hsz := sv_size (c :: r)
  have hix : (ByteArray.mk (c :: r).toArray)[0]'(by rw [sv_size]; simp) = c := sv_index (c :: r) 0 (by simp)
  have hl0 : (0 : Int) < (r.length : Int) + 1 := by omega
  have HN := hid (named_any w bl bp (c :: r) p outv hL hs hX)
  have HU := hid (number_any w bl bp (c :: r) p outv hL hs hX)
  have HS := hid (str_any w bl bp (c :: r) p outv hL hs (by simp))
  have HG := hid (sign_any w bl bp c r p outv hL hs hP)
  have heq := nextT_eq c r
  generalize namedR (c :: r) = xn at *
  generalize numberR (c :: r) = xu at *
  generalize strR (c :: r) = xs at *
  generalize signR (c :: r) = xg at *
  cases h1 : letterB c
  · rw [h1, if_neg (by simp)] at heq
    cases h2 : digitB c
    · rw [h2, if_neg (by simp)] at heq
      by_cases h3 : c.toNat = 34
      · rw [if_pos h3] at heq
        rw [heq]
        clear heq HN HU HG
        have H3 := hid h3
        clear h3
        go_enter Tryz.func57, Tryz.ntmps57
        go_wp2_with fail
        refine (letter_any c _).mono ?_
        rintro e w1 ⟨rfl, rfl⟩
        rw [h1]
        go_wp2_with fail
        refine (digit_any c _).mono ?_
        rintro e w1 ⟨rfl, rfl⟩
        rw [h2]
        have h3 := H3.out
        go_wp2_with fail
        refine HS.out.mono ?_
        rintro e w2 ⟨rfl, hb2⟩
        clear HS
        rcases xs with e | ⟨kd, t, n⟩
        all_goals
          simp only [resV]
          go_wp2_with fail
          refine bodyPost_ret (results_tmp4 rfl _ _ _) rfl ?_
          exact ⟨rfl, hb2⟩
      · rw [if_neg h3] at heq
        rw [heq]
        clear heq HN HU HS
        go_enter Tryz.func57, Tryz.ntmps57
        go_wp2_with fail
        refine (letter_any c _).mono ?_
        rintro e w1 ⟨rfl, rfl⟩
        rw [h1]
        go_wp2_with fail
        refine (digit_any c _).mono ?_
        rintro e w1 ⟨rfl, rfl⟩
        rw [h2]
        go_wp2_with fail
        refine HG.out.mono ?_
        rintro e w2 ⟨rfl, hb2⟩
        clear HG
        rcases xg with e | ⟨kd, t, n⟩
        all_goals
          simp only [resV]
          go_wp2_with fail
          refine bodyPost_ret (results_tmp4 rfl _ _ _) rfl ?_
          exact ⟨rfl, hb2⟩
    · rw [h2, if_pos rfl] at heq
      rw [heq]
      clear heq HN HS HG
      go_enter Tryz.func57, Tryz.ntmps57
      go_wp2_with fail
      refine (letter_any c _).mono ?_
      rintro e w1 ⟨rfl, rfl⟩
      rw [h1]
      go_wp2_with fail
      refine (digit_any c _).mono ?_
      rintro e w1 ⟨rfl, rfl⟩
      rw [h2]
      go_wp2_with fail
      refine HU.out.mono ?_
      rintro e w2 ⟨rfl, hb2⟩
      clear HU
      rcases xu with e | ⟨kd, t, n⟩
      all_goals
        simp only [resV]
        go_wp2_with fail
        refine bodyPost_ret (results_tmp4 rfl _ _ _) rfl ?_
        exact ⟨rfl, hb2⟩
  · rw [h1, if_pos rfl] at heq
    rw [heq]
    clear heq HU HS HG
    go_enter Tryz.func57, Tryz.ntmps57
    go_wp2_with fail
    refine (letter_any c _).mono ?_
    rintro e w1 ⟨rfl, rfl⟩
    rw [h1]
    go_wp2_with fail
    refine HN.out.mono ?_
    rintro e w2 ⟨rfl, hb2⟩
    clear HN
    rcases xn with e | ⟨kd, t, n⟩
    all_goals
      simp only [resV]
      go_wp2_with fail
      refine bodyPost_ret (results_tmp4 rfl _ _ _) rfl ?_
      exact ⟨rfl, hb2⟩
end Go.Proofs.YtmbppnbekkbibaaGreatDoor
