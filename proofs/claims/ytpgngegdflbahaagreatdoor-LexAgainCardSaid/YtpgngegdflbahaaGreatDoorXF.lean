/- How lex reads a string. -/
import Derived.Test.YtpgngegdflbahaaGreatDoorXE
import Derived.Test.YtpgngegdflbahaaGreatDoorShelf
set_option linter.unusedVariables false
namespace Go.Proofs.YtpgngegdflbahaaGreatDoor
open Go.RowKit

theorem el_byte : ElemIs Tryz.prog 66 5 (.int .u8 0) 1 1 := ⟨Tryz.underlying66, by kernel_rfl, rfl, by decide⟩
theorem conv_sv {P : Program} (w : World) (src dst e : TypeId) (hs : P.underlying src = some .string) (hd : P.underlying dst = some (.slice e)) (he : P.underlying e = some (.int .u8)) (s : Bt) :
    ∃ C w5, (convert src dst (sv s)).run P w = .ok (.slice (some ⟨w.heap.size, 0, none⟩) s.length C) w5 ∧ Below w.heap.size w w5 ∧ w.heap.size < w5.heap.size ∧
      ∀ j (hj : j < s.length), w5.cell? ⟨w.heap.size, j, none⟩ = some (.int .u8 (s[j].toNat : Int)) := by
  have hsz := sv_size s
  have hrun := Lib.run_convert_string_bytes (P := P) w src dst e ⟨s.toArray⟩ hs hd he
  have hcell := Lib.bytesWorld_cell w e ⟨s.toArray⟩
  have hsize := Lib.bytesWorld_size w e ⟨s.toArray⟩
  have hold := Lib.bytesWorld_at_old w e ⟨s.toArray⟩
  rw [hsz] at hrun hcell
  refine ⟨_, _, hrun, ⟨rfl, rfl, rfl, by rw [hsize]; omega, fun k hk => hold k hk⟩, by rw [hsize]; omega, fun j hj => ?_⟩
  rw [hcell j hj]
  have e : (ByteArray.mk s.toArray).data.toList = s := rfl
  rw [e]
  simp [List.getD_eq_getElem?_getD, List.getElem?_eq_getElem hj]
theorem byte_of {X : UInt8} {n : Nat} (hn : n < 256) (h : X.toNat = n) : X = UInt8.ofNat n := by
  apply UInt8.toNat_inj.1
  rw [UInt8.toNat_ofNat', h]; omega
theorem esc_cases (X : UInt8) : (X = 92 ∧ escB X = some 92 ∧ Lib.indexByte [92, 34, 110, 116] X = 0) ∨ (X = 34 ∧ escB X = some 34 ∧ Lib.indexByte [92, 34, 110, 116] X = 1) ∨ (X = 110 ∧ escB X = some 10 ∧ Lib.indexByte [92, 34, 110, 116] X = 2) ∨ (X = 116 ∧ escB X = some 9 ∧ Lib.indexByte [92, 34, 110, 116] X = 3) ∨
    (escB X = none ∧ Lib.indexByte [92, 34, 110, 116] X = -1) := by
  by_cases h1 : X = 92
  · subst h1; exact .inl ⟨rfl, rfl, rfl⟩
  by_cases h2 : X = 34
  · subst h2; exact .inr (.inl ⟨rfl, rfl, rfl⟩)
  by_cases h3 : X = 110
  · subst h3; exact .inr (.inr (.inl ⟨rfl, rfl, rfl⟩))
  by_cases h4 : X = 116
  · subst h4; exact .inr (.inr (.inr (.inl ⟨rfl, rfl, rfl⟩)))
  refine .inr (.inr (.inr (.inr ⟨?_, ?_⟩)))
  · unfold escB
    rw [if_neg (fun h => h1 (byte_of (by decide) h)), if_neg (fun h => h2 (byte_of (by decide) h)), if_neg (fun h => h3 (byte_of (by decide) h)), if_neg (fun h => h4 (byte_of (by decide) h))]
  · have e1 : ((92 : UInt8) == X) = false := by rw [beq_eq_false_iff_ne]; exact fun h => h1 h.symm
    have e2 : ((34 : UInt8) == X) = false := by rw [beq_eq_false_iff_ne]; exact fun h => h2 h.symm
    have e3 : ((110 : UInt8) == X) = false := by rw [beq_eq_false_iff_ne]; exact fun h => h3 h.symm
    have e4 : ((116 : UInt8) == X) = false := by rw [beq_eq_false_iff_ne]; exact fun h => h4 h.symm
    simp [Lib.indexByte, e1, e2, e3, e4]
theorem ofNat_toNat (X : UInt8) : UInt8.ofNat ((X.toNat : Int)).toNat = X := by simp

theorem toU8_back (X : UInt8) : ((X.toNat : Int)).toNat.toUInt8 = X := by simp
def quoteV : Option (Bt × Nat) → Value
  | none => .tuple #[sv [], .int .i64 0]
  | some (t, n) => .tuple #[sv t, .int .i64 (n : Nat)]
def QuoteRel (w5 : World) (ans : Option (Bt × Nat)) (r : Bt) (k : Nat) (v4 v5 : Value) (wr : World) : Prop :=
  ∃ (back : Bool) (o : Bt), v5 = .bool back ∧ OwnB wr w5.heap.size 5 v4 o ∧ quoteG back o k (r.drop k) = ans ∧ o.length ≤ k ∧ Below w5.heap.size w5 wr

set_option maxRecDepth 100000 in
set_option maxHeartbeats 2000000 in
theorem quoted_any (w : World) (s : Bt) (hs : s.length ≤ 100000) (h1 : 1 ≤ s.length) :
    Calls Tryz.prog 36 #[sv s] w fun e w' => e = .returned (quoteV (quoteL s)) ∧ Below w.heap.size w w' := by
  have hsz := sv_size s
  have he : Value.string (ByteArray.extract ⟨s.toArray⟩ 1 s.length) = sv (s.drop 1) := by rw [extract_sv, List.take_length]
  have hq0 : quoteG false [] 0 ((s.drop 1).drop 0) = quoteL s := rfl
  have hrl : (s.drop 1).length ≤ 100000 := by rw [List.length_drop]; omega
  generalize s.drop 1 = r at *
  obtain ⟨C, w5, hconv, hb5, hlt5, hcells⟩ := conv_sv (P := Tryz.prog) w 9 66 5 Tryz.underlying9 Tryz.underlying66 Tryz.underlying5 r
  have HC := hid hcells
  have HQ0 := hid hq0
  clear hcells hq0
  generalize quoteL s = ans at *
  go_enter Tryz.func36, Tryz.ntmps36
  go_wp2_with fail
  go_loopw [4, 5, 13] (fun v4 v5 v13 wr => ∃ k : Nat, v13 = .int .i64 k ∧ k ≤ r.length ∧ QuoteRel w5 ans r k v4 v5 wr) (fun _ _ v13 _ => r.length - (intOf v13).toNat)
  case atStart => exact ⟨0, rfl, by omega, false, [], rfl, OwnB.nil _ _ _, HQ0.out, Nat.le_refl _, Below.refl _ _⟩
  case round =>
    obtain ⟨k, rfl, hk, back, o, rfl, hown, hq, hol, hbr⟩ := hrel
    have hfin : Below w.heap.size w wr := hb5.trans (hbr.mono hb5.size)
    by_cases hlt : k < r.length
    · rw [List.drop_eq_getElem_cons hlt, quoteG] at hq
      have d1 := (hbr.cell (p := ⟨w.heap.size, k, none⟩) hlt5).trans (HC.out k hlt)
      generalize r[k] = X at *
      clear hconv
      by_cases h32 : X.toNat < 32
      · rw [if_pos h32] at hq
        subst hq
        go_wp2_with fail
        go_ret2
        exact ⟨rfl, hfin⟩
      rw [if_neg h32] at hq
      have hXs : ((X.toNat : Int)).toNat.toUInt8 = X := by simp
      cases back with
      | true =>
        rw [if_pos rfl] at hq
        rcases esc_cases X with ⟨hX, e1, e2⟩ | ⟨hX, e1, e2⟩ | ⟨hX, e1, e2⟩ | ⟨hX, e1, e2⟩ | ⟨e1, e2⟩
        all_goals have E2 := hid e2
        all_goals clear e2 hXs
        all_goals try clear hX
        · rw [e1] at hq
          have hq2 : quoteG false (o ++ [92]) (k + 1) (r.drop (k + 1)) = ans := hq
          have i0 : ((ByteArray.mk #[92, 34, 10, 9])[0]'(by decide)).toNat = 92 := rfl
          have HQ := hid hq2
          clear hq hq2 e1
          go_wp2_with (first
            | (go_at_call 37; refine (Tryz.strings_IndexByte _ _ _).mono ?_; rintro e w1 ⟨rfl, rfl⟩; rw [toU8_back, E2.out])
            | (at_builtin; refine wpList_appB rfl _ (.tmp 34) _ rfl w5.heap.size el_byte _ _ rfl rfl (hown.alloc _) (bs_new _ (92 : Int) _ (by decide)) (by simp; omega) (le_alloc hbr.size _) (fun v7 w7 hown7 hg7 hbk7 => ?_); have hb7 := below_appB (hbr.alloc hbr.size _) (hown.alloc _) hg7 (Nat.le_refl _) (le_alloc hbr.size _); clear hg7 hbk7))
          go_roundw
          case rel => exact ⟨k + 1, rfl, by omega, false, o ++ [92], rfl, hown7, HQ.out, by simp; omega, hb7⟩
          case measure => simp [intOf]; omega
        · rw [e1] at hq
          have hq2 : quoteG false (o ++ [34]) (k + 1) (r.drop (k + 1)) = ans := hq
          have i0 : ((ByteArray.mk #[92, 34, 10, 9])[1]'(by decide)).toNat = 34 := rfl
          have HQ := hid hq2
          clear hq hq2 e1
          go_wp2_with (first
            | (go_at_call 37; refine (Tryz.strings_IndexByte _ _ _).mono ?_; rintro e w1 ⟨rfl, rfl⟩; rw [toU8_back, E2.out])
            | (at_builtin; refine wpList_appB rfl _ (.tmp 34) _ rfl w5.heap.size el_byte _ _ rfl rfl (hown.alloc _) (bs_new _ (34 : Int) _ (by decide)) (by simp; omega) (le_alloc hbr.size _) (fun v7 w7 hown7 hg7 hbk7 => ?_); have hb7 := below_appB (hbr.alloc hbr.size _) (hown.alloc _) hg7 (Nat.le_refl _) (le_alloc hbr.size _); clear hg7 hbk7))
          go_roundw
          case rel => exact ⟨k + 1, rfl, by omega, false, o ++ [34], rfl, hown7, HQ.out, by simp; omega, hb7⟩
          case measure => simp [intOf]; omega
        · rw [e1] at hq
          have hq2 : quoteG false (o ++ [10]) (k + 1) (r.drop (k + 1)) = ans := hq
          have i0 : ((ByteArray.mk #[92, 34, 10, 9])[2]'(by decide)).toNat = 10 := rfl
          have HQ := hid hq2
          clear hq hq2 e1
          go_wp2_with (first
            | (go_at_call 37; refine (Tryz.strings_IndexByte _ _ _).mono ?_; rintro e w1 ⟨rfl, rfl⟩; rw [toU8_back, E2.out])
            | (at_builtin; refine wpList_appB rfl _ (.tmp 34) _ rfl w5.heap.size el_byte _ _ rfl rfl (hown.alloc _) (bs_new _ (10 : Int) _ (by decide)) (by simp; omega) (le_alloc hbr.size _) (fun v7 w7 hown7 hg7 hbk7 => ?_); have hb7 := below_appB (hbr.alloc hbr.size _) (hown.alloc _) hg7 (Nat.le_refl _) (le_alloc hbr.size _); clear hg7 hbk7))
          go_roundw
          case rel => exact ⟨k + 1, rfl, by omega, false, o ++ [10], rfl, hown7, HQ.out, by simp; omega, hb7⟩
          case measure => simp [intOf]; omega
        · rw [e1] at hq
          have hq2 : quoteG false (o ++ [9]) (k + 1) (r.drop (k + 1)) = ans := hq
          have i0 : ((ByteArray.mk #[92, 34, 10, 9])[3]'(by decide)).toNat = 9 := rfl
          have HQ := hid hq2
          clear hq hq2 e1
          go_wp2_with (first
            | (go_at_call 37; refine (Tryz.strings_IndexByte _ _ _).mono ?_; rintro e w1 ⟨rfl, rfl⟩; rw [toU8_back, E2.out])
            | (at_builtin; refine wpList_appB rfl _ (.tmp 34) _ rfl w5.heap.size el_byte _ _ rfl rfl (hown.alloc _) (bs_new _ (9 : Int) _ (by decide)) (by simp; omega) (le_alloc hbr.size _) (fun v7 w7 hown7 hg7 hbk7 => ?_); have hb7 := below_appB (hbr.alloc hbr.size _) (hown.alloc _) hg7 (Nat.le_refl _) (le_alloc hbr.size _); clear hg7 hbk7))
          go_roundw
          case rel => exact ⟨k + 1, rfl, by omega, false, o ++ [9], rfl, hown7, HQ.out, by simp; omega, hb7⟩
          case measure => simp [intOf]; omega
        · rw [e1] at hq
          have hq2 : none = ans := hq
          subst hq2
          clear hq e1
          go_wp2_with (go_at_call 37; refine (Tryz.strings_IndexByte _ _ _).mono ?_; rintro e w1 ⟨rfl, rfl⟩; rw [toU8_back, E2.out])
          go_ret2
          exact ⟨rfl, hfin⟩
      | false =>
        rw [if_neg (by simp)] at hq
        clear hXs
        by_cases h92 : X.toNat = 92
        · rw [if_pos h92] at hq
          have HQ := hid hq
          clear hq
          go_wp2_with fail
          go_roundw
          case rel => exact ⟨k + 1, rfl, by omega, true, o, rfl, hown, HQ.out, by omega, hbr⟩
          case measure => simp [intOf]; omega
        rw [if_neg h92] at hq
        by_cases h34 : X.toNat = 34
        · rw [if_pos h34] at hq
          subst hq
          have hso := run_string_of (P := Tryz.prog) hown.bs 66 5 9 Tryz.underlying66 Tryz.underlying5 Tryz.underlying9
          go_wp2_with fail
          go_ret2
          exact ⟨by simp [quoteV], hfin⟩
        rw [if_neg h34] at hq
        have HQ := hid hq
        clear hq
        go_wp2_with (first
          | (at_builtin; refine wpList_appB rfl _ (.tmp 20) _ rfl w5.heap.size el_byte _ _ rfl rfl (hown.alloc _) (bs_new _ (X.toNat : Int) _ (by have := X.toNat_lt; omega)) (by simp; omega) (le_alloc hbr.size _) (fun v7 w7 hown7 hg7 hbk7 => ?_); have hb7 := below_appB (hbr.alloc hbr.size _) (hown.alloc _) hg7 (Nat.le_refl _) (le_alloc hbr.size _); clear hg7 hbk7))
        rw [ofNat_toNat] at hown7
        go_roundw
        case rel => exact ⟨k + 1, rfl, by omega, false, o ++ [X], rfl, hown7, HQ.out, by simp; omega, hb7⟩
        case measure => simp [intOf]; omega
    · obtain rfl : k = r.length := by omega
      rw [List.drop_length] at hq
      have hq2 : none = ans := by rw [← hq]; cases back <;> rfl
      subst hq2
      clear hq hconv
      go_wp2_with fail
      go_ret2
      exact ⟨rfl, hfin⟩
end Go.Proofs.YtpgngegdflbahaaGreatDoor
