/- Plain facts on decimal numerals: which texts are one, and which number they say; no program in sight. -/
import Derived.Test.YtpgngegdflbahaaGreatDoorPW
import Derived.Lib.ItoaNum
import Derived.Lib.ItoaMem
import Derived.Lib.AtoiAll
set_option linter.unusedVariables false
namespace Go.Proofs.YtpgngegdflbahaaGreatDoor
open Go.RowKit

def isDig (c : UInt8) : Bool := decide (48 ≤ c.toNat) && decide (c.toNat ≤ 57)
theorem isDig_iff {c : UInt8} : isDig c = true ↔ 48 ≤ c.toNat ∧ c.toNat ≤ 57 := by simp [isDig]
/-- The number that digits say, behind acc. -/
def digStep (n : Nat) (c : UInt8) : Nat := 10 * n + (c.toNat - 48)
def valFrom (acc : Nat) (l : List UInt8) : Nat := l.foldl digStep acc
theorem valFrom_nil (acc : Nat) : valFrom acc [] = acc := by unfold valFrom; rw [List.foldl_nil]
theorem valFrom_cons (acc : Nat) (c : UInt8) (r : List UInt8) : valFrom acc (c :: r) = valFrom (10 * acc + (c.toNat - 48)) r := by
  unfold valFrom; rw [List.foldl_cons]; unfold digStep; exact Eq.refl _
theorem valFrom_append (a b : List UInt8) (acc : Nat) : valFrom acc (a ++ b) = valFrom (valFrom acc a) b := by unfold valFrom; rw [List.foldl_append]
theorem valFrom_snoc (a : List UInt8) (c : UInt8) (acc : Nat) : valFrom acc (a ++ [c]) = 10 * valFrom acc a + (c.toNat - 48) := by
  rw [valFrom_append, valFrom_cons, valFrom_nil]
theorem valFrom_ge : ∀ (l : List UInt8) (acc : Nat), acc * 10 ^ l.length ≤ valFrom acc l
  | [], acc => by rw [valFrom_nil, List.length_nil, Nat.pow_zero, Nat.mul_one]; exact Nat.le_refl _
  | c :: r, acc => by
    rw [valFrom_cons]
    have h := valFrom_ge r (10 * acc + (c.toNat - 48))
    refine Nat.le_trans ?_ h
    have e : acc * 10 ^ (c :: r).length = (10 * acc) * 10 ^ r.length := by
      rw [List.length_cons, Nat.pow_succ, Nat.mul_comm (10 ^ r.length) 10, ← Nat.mul_assoc, Nat.mul_comm acc 10]
    rw [e]
    exact Nat.mul_le_mul_right _ (Nat.le_add_right _ _)
theorem valFrom_lt : ∀ (l : List UInt8) (acc : Nat), (∀ c ∈ l, isDig c = true) → valFrom acc l < (acc + 1) * 10 ^ l.length
  | [], acc, _ => by rw [valFrom_nil, List.length_nil, Nat.pow_zero, Nat.mul_one]; exact Nat.lt_succ_self _
  | c :: r, acc, h => by
    rw [valFrom_cons]
    have hc := isDig_iff.1 (h c (List.mem_cons_self ..))
    have h1 := valFrom_lt r (10 * acc + (c.toNat - 48)) (fun x hx => h x (List.mem_cons_of_mem _ hx))
    refine Nat.lt_of_lt_of_le h1 ?_
    have e : (acc + 1) * 10 ^ (c :: r).length = (10 * (acc + 1)) * 10 ^ r.length := by
      rw [List.length_cons, Nat.pow_succ, Nat.mul_comm (10 ^ r.length) 10, ← Nat.mul_assoc, Nat.mul_comm (acc + 1) 10]
    rw [e]
    exact Nat.mul_le_mul_right _ (by omega)

/-- A text that is a numeral: digits, none ahead that says nothing. -/
def Canon (l : List UInt8) : Prop := l ≠ [] ∧ (∀ c ∈ l, isDig c = true) ∧ (l.length = 1 ∨ l.head? ≠ some 48)
instance (l : List UInt8) : Decidable (Canon l) := by unfold Canon; infer_instance
def parseN (l : List UInt8) : Option Nat := if Canon l ∧ valFrom 0 l < 9223372036854775808 then some (valFrom 0 l) else none
def parseV (l : List UInt8) : Int × Bool := match parseN l with | some n => ((n : Int), true) | none => (0, false)

theorem canon_pos {l : List UInt8} (h : Canon l) (hl : 2 ≤ l.length) : 10 ^ (l.length - 1) ≤ valFrom 0 l := by
  obtain ⟨h0, hd, hh⟩ := h
  cases l with
  | nil => exact absurd rfl h0
  | cons c r =>
    have hc := isDig_iff.1 (hd c (List.mem_cons_self ..))
    have hne : c.toNat ≠ 48 := by
      rcases hh with hh | hh
      · simp at hh hl; subst hh; simp at hl
      · intro e; apply hh; simp; exact UInt8.toNat_inj.1 e
    rw [valFrom_cons]
    have := valFrom_ge r (10 * 0 + (c.toNat - 48))
    simp only [List.length_cons, Nat.add_sub_cancel]
    calc 10 ^ r.length = 1 * 10 ^ r.length := by omega
      _ ≤ (10 * 0 + (c.toNat - 48)) * 10 ^ r.length := Nat.mul_le_mul_right _ (by omega)
      _ ≤ _ := this
theorem ofNat_dig {c : UInt8} (h : isDig c = true) : UInt8.ofNat (48 + (c.toNat - 48)) = c := by
  have := isDig_iff.1 h
  apply UInt8.toNat_inj.1
  rw [UInt8.toNat_ofNat']; omega
theorem dec_canon : ∀ (n : Nat) (l : List UInt8), l.length = n → Canon l → Lib.decDigits (valFrom 0 l) = l := by
  intro n
  induction n with
  | zero => intro l hl h; exact absurd (List.eq_nil_of_length_eq_zero hl) h.1
  | succ n ih =>
    intro l hl h
    rcases List.eq_nil_or_concat l with rfl | ⟨a, c, rfl⟩
    · exact absurd rfl h.1
    rw [List.concat_eq_append] at *
    have hc := h.2.1 c (by simp)
    have hc2 := isDig_iff.1 hc
    rw [valFrom_snoc]
    by_cases ha : a = []
    · subst ha
      have e0 : valFrom 0 [] = 0 := valFrom_nil 0
      rw [e0, Nat.mul_zero, Nat.zero_add, Lib.decDigits_one (by omega), ofNat_dig hc, List.nil_append]
    · have hal : 0 < a.length := List.length_pos_iff.2 ha
      have hhead : a.head? ≠ some 48 := by
        rcases h.2.2 with h1 | h1
        · simp at h1; exact absurd h1 ha
        · intro e; apply h1
          cases a with
          | nil => exact absurd rfl ha
          | cons x r => simpa using e
      have hca : Canon a := ⟨ha, fun x hx => h.2.1 x (by simp [hx]), .inr hhead⟩
      have hpos : 1 ≤ valFrom 0 a := by
        by_cases h2 : 2 ≤ a.length
        · have := canon_pos hca h2
          have : 0 < 10 ^ (a.length - 1) := Nat.pow_pos (by decide)
          omega
        · cases a with
          | nil => exact absurd rfl ha
          | cons x r =>
            have hr : r = [] := List.eq_nil_of_length_eq_zero (by have : (x :: r).length = r.length + 1 := rfl; omega)
            subst hr
            have hx := isDig_iff.1 (hca.2.1 x (by simp))
            have hne : x.toNat ≠ 48 := fun e => hhead (by simp; exact UInt8.toNat_inj.1 e)
            rw [valFrom_cons, valFrom_nil]; omega
      rw [Lib.decDigits, dif_neg (by omega)]
      have e1 : (10 * valFrom 0 a + (c.toNat - 48)) / 10 = valFrom 0 a := by omega
      have e2 : (10 * valFrom 0 a + (c.toNat - 48)) % 10 = c.toNat - 48 := by omega
      rw [e1, e2, ih a (by simp at hl; omega) hca, ofNat_dig hc]
theorem dec_is (u : Nat) : Canon (Lib.decDigits u) ∧ valFrom 0 (Lib.decDigits u) = u ∧ (1 ≤ u → (Lib.decDigits u).head? ≠ some 48) := by
  induction u using Nat.strongRecOn with
  | ind u ih =>
    rw [Lib.decDigits]
    by_cases h : u < 10
    · rw [dif_pos h]
      have e : (UInt8.ofNat (48 + u)).toNat = 48 + u := by rw [UInt8.toNat_ofNat']; omega
      refine ⟨⟨by simp, ?_, .inl rfl⟩, ?_, ?_⟩
      · intro c hc
        obtain rfl : c = UInt8.ofNat (48 + u) := by simpa using hc
        rw [isDig_iff, e]; omega
      · rw [valFrom_cons, valFrom_nil, e]; omega
      · intro h1 h2
        have : UInt8.ofNat (48 + u) = 48 := by simpa using h2
        have := congrArg UInt8.toNat this
        rw [e] at this
        have h48 : (48 : UInt8).toNat = 48 := rfl
        omega
    · rw [dif_neg h]
      obtain ⟨⟨h0, h1, h2⟩, h3, h4⟩ := ih (u / 10) (by omega)
      have e : (UInt8.ofNat (48 + u % 10)).toNat = 48 + u % 10 := by rw [UInt8.toNat_ofNat']; omega
      have hh := h4 (by omega)
      have hh2 : (Lib.decDigits (u / 10) ++ [UInt8.ofNat (48 + u % 10)]).head? ≠ some 48 := by
        cases hd : Lib.decDigits (u / 10) with
        | nil => exact absurd hd h0
        | cons x r => rw [hd] at hh; simpa using hh
      refine ⟨⟨by simp, ?_, .inr hh2⟩, ?_, fun _ => hh2⟩
      · intro c hc
        rcases List.mem_append.1 hc with hc | hc
        · exact h1 c hc
        · obtain rfl : c = UInt8.ofNat (48 + u % 10) := by simpa using hc
          rw [isDig_iff, e]; omega
      · rw [valFrom_snoc, h3, e]; omega
theorem parseN_iff {l : List UInt8} {n : Nat} : parseN l = some n ↔ n < 9223372036854775808 ∧ l = Lib.decDigits n := by
  unfold parseN
  constructor
  · intro h
    split at h
    · rename_i hc
      injection h with h
      subst h
      exact ⟨hc.2, (dec_canon _ l rfl hc.1).symm⟩
    · cases h
  · rintro ⟨h, rfl⟩
    have := dec_is n
    rw [if_pos ⟨this.1, by rw [this.2.1]; exact h⟩, this.2.1]
theorem parseUint_val : ∀ (l : List UInt8) (acc : Nat), (∀ c ∈ l, isDig c = true) → valFrom acc l < 18446744073709551616 → Lib.parseUint10 acc l = .ok (valFrom acc l)
  | [], acc, _, _ => by rw [valFrom_nil]; rfl
  | c :: r, acc, h, hlt => by
    have hc := isDig_iff.1 (h c (List.mem_cons_self ..))
    have hv : valFrom acc (c :: r) = valFrom (10 * acc + (c.toNat - 48)) r := valFrom_cons acc c r
    rw [hv] at hlt
    have h1 := valFrom_ge r (10 * acc + (c.toNat - 48))
    have hp : 0 < 10 ^ r.length := Nat.pow_pos (by decide)
    have h2 : 10 * acc + (c.toNat - 48) ≤ (10 * acc + (c.toNat - 48)) * 10 ^ r.length := Nat.le_mul_of_pos_right _ hp
    unfold Lib.parseUint10
    rw [if_pos hc, if_neg (by omega), if_neg (by omega), Nat.mul_comm acc 10, hv]
    exact parseUint_val r _ (fun x hx => h x (List.mem_cons_of_mem _ hx)) hlt
theorem atoi_dec {n : Nat} (h : n < 9223372036854775808) : Lib.atoiAll (Lib.decDigits n) = .ok (n : Int) := by
  obtain ⟨⟨h0, h1, h2⟩, h3, h4⟩ := dec_is n
  have hp := parseUint_val (Lib.decDigits n) 0 h1 (by rw [h3]; omega)
  rw [h3] at hp
  unfold Lib.atoiAll
  cases hd : Lib.decDigits n with
  | nil => exact absurd hd h0
  | cons c r =>
    have hc := isDig_iff.1 (h1 c (by rw [hd]; exact List.mem_cons_self ..))
    rw [hd] at hp
    dsimp only
    rw [if_neg (show ¬ (c.toNat = 43 ∨ c.toNat = 45) from by omega)]
    unfold Lib.parseMag
    rw [if_neg (by simp), hp]
    dsimp only
    rw [if_neg (by omega), if_neg (by omega), if_neg (by omega)]
theorem atoi_lt {l : List UInt8} {v : Int} (h : Lib.atoiAll l = .ok v) : v < 9223372036854775808 := by
  unfold Lib.atoiAll at h
  split at h
  · cases h
  · rename_i c r
    dsimp only at h
    split at h
    · cases h
    · cases h
    · rename_i u hu
      by_cases hn : c.toNat = 45
      · simp only [hn, not_true_eq_false, false_and, if_false, true_and, if_true] at h
        split at h
        · cases h
        · injection h with h; omega
      · simp only [hn, not_false_eq_true, true_and, false_and, if_false] at h
        split at h
        · cases h
        · injection h with h; omega
/-- What word's Parse makes of it: the number that Atoi says, if it is shown so again. -/
theorem parse_of_atoi (l : List UInt8) : parseV l = (match Lib.atoiAll l with | .ok v => if v < 0 ∨ Lib.itoa v ≠ l then (0, false) else (v, true) | _ => (0, false)) := by
  unfold parseV
  cases hp : parseN l with
  | some n =>
    obtain ⟨hn, rfl⟩ := parseN_iff.1 hp
    rw [atoi_dec hn]
    dsimp only
    rw [if_neg]
    rintro (h | h)
    · omega
    · exact h (Lib.itoa_nonneg n)
  | none =>
    cases ha : Lib.atoiAll l with
    | ok v =>
      dsimp only
      rw [if_pos]
      by_cases h0 : v < 0
      · exact .inl h0
      · refine .inr fun he => ?_
        have hv := atoi_lt ha
        obtain ⟨n, rfl⟩ := Int.eq_ofNat_of_zero_le (show 0 ≤ v by omega)
        have e : Lib.itoa (n : Int) = Lib.decDigits n := Lib.itoa_nonneg n
        have := parseN_iff.2 ⟨show n < 9223372036854775808 by omega, (e.symm.trans he).symm⟩
        rw [hp] at this; cases this
    | _ => rfl
theorem parse_none {l : List UInt8} (h : ¬ Canon l) : parseV l = (0, false) := by
  unfold parseV parseN; rw [if_neg (fun e => h e.1)]
theorem parse_nil : parseV [] = (0, false) := parse_none fun h => h.1 (Eq.refl _)
theorem parse_long {l : List UInt8} (h : 19 < l.length) : parseV l = (0, false) := by
  by_cases hc : Canon l
  · have h1 := canon_pos hc (by omega)
    have h2 : 10 ^ 19 ≤ 10 ^ (l.length - 1) := Nat.pow_le_pow_right (by decide) (by omega)
    have e : (10 : Nat) ^ 19 = 10000000000000000000 := by decide
    unfold parseV parseN; rw [if_neg]
    intro hh; omega
  · exact parse_none hc
theorem parse_zero {l : List UInt8} (h : l.head? = some 48 ∧ 1 < l.length) : parseV l = (0, false) := by
  refine parse_none fun hc => ?_
  rcases hc.2.2 with h1 | h1
  · omega
  · exact h1 h.1
theorem parse_nodig {l : List UInt8} {k : Nat} (hk : k < l.length) (h : ¬ isDig l[k] = true) : parseV l = (0, false) :=
  parse_none fun hc => h (hc.2.1 _ (List.getElem_mem hk))
theorem parse_end {l : List UInt8} (h0 : 0 < l.length) (h2 : ¬ (l.head? = some 48 ∧ 1 < l.length)) (hd : ∀ c ∈ l, isDig c = true) :
    parseV l = if valFrom 0 l < 9223372036854775808 then ((valFrom 0 l : Int), true) else (0, false) := by
  have hc : Canon l := by
    refine ⟨by intro e; rw [e] at h0; exact absurd h0 (by decide), hd, ?_⟩
    by_cases h1 : l.length = 1
    · exact .inl h1
    · exact .inr fun e => h2 ⟨e, by omega⟩
  unfold parseV parseN
  by_cases hv : valFrom 0 l < 9223372036854775808
  · rw [if_pos ⟨hc, hv⟩, if_pos hv]
  · rw [if_neg (fun e => hv e.2), if_neg hv]
end Go.Proofs.YtpgngegdflbahaaGreatDoor
