/- Texts that belong together: PW, M, PN. -/
import Derived.WalkKit
import Derived.OpenShut
import Derived.WalkSpells
import Derived.WalkLawsBesides
import Derived.Maps.AppendAt
import Derived.Deep.AppendLies
import Derived.Deep.Draws
import Derived.Lib.ItoaNum
import Derived.Lib.ItoaMem
import Derived.Lib.AtoiAll
/- Plain facts on numbers of 64 bits that go round; no program in sight. -/
set_option linter.unusedVariables false
namespace Go.Proofs.YtbpedjkebemhnaaGreatDoor
open Go.RowKit

/-- In the range of an int. -/
def In64 (n : Int) : Prop := -9223372036854775808 ≤ n ∧ n ≤ 9223372036854775807
theorem in64_wrap (n : Int) : In64 (wrap64 n) := by unfold In64 wrap64; omega
theorem in64_wf {n : Int} (h : In64 n) : (Lit.int .i64 n).wf = true := WalkArith.wf_i64 h
theorem wf_in64 {n : Int} (h : (Lit.int .i64 n).wf = true) : In64 n := by
  exact bounds_i64 h

theorem u64_wrap (n : Int) : IntKind.u64.wrap n = n % 18446744073709551616 := by
  simp [IntKind.wrap, IntKind.bits, IntKind.signed]
theorem i64_wrap (n : Int) : IntKind.i64.wrap n = wrap64 n := IntWalk.i64_left n
theorem u64_mod64 (b : Int) : (IntKind.u64.wrap b).tmod 64 = b % 64 := by
  rw [u64_wrap, Int.tmod_eq_emod_of_nonneg (Int.emod_nonneg _ (by decide))]
  omega
theorem wrap64_mod (n : Int) : wrap64 (n % 18446744073709551616) = wrap64 n := by unfold wrap64; omega
theorem wrap64_congr {a b : Int} (h : a % 18446744073709551616 = b % 18446744073709551616) : wrap64 a = wrap64 b := by
  rw [← wrap64_mod a, h, wrap64_mod]
theorem wrap64_emod (n : Int) : wrap64 n % 18446744073709551616 = n % 18446744073709551616 := by unfold wrap64; omega
theorem wrap64_id {n : Int} (h : In64 n) : wrap64 n = n := IntWalk.wrap64_in n h

/-- What Bin is: a number, and an error. -/
def binV (op a b : Int) : Int × Int :=
  if op = 0 then (wrap64 (a + b), 0)
  else if op = 1 then (wrap64 (a - b), 0)
  else if op = 2 then (wrap64 (a * b), 0)
  else if op = 3 then (if b = 0 then (0, 23) else if b = -1 then (wrap64 (-a), 0) else (wrap64 (a.tdiv b), 0))
  else if op = 4 then (if b = 0 then (0, 23) else if b = -1 then (0, 0) else (a.tmod b, 0))
  else if op = 5 then (wrap64 (a * 2 ^ (b % 64).toNat), 0)
  else if op = 6 then (a / 2 ^ (b % 64).toNat, 0)
  else if op = 7 then (bits .and .i64 a b, 0)
  else if op = 8 then (bits .xor .i64 a b, 0)
  else if op = 9 then (if a < b then 1 else 0, 0)
  else if op = 10 then (if a ≤ b then 1 else 0, 0)
  else (0, 1)

theorem in64_bits (op : BinOp) (a b : Int) : In64 (bits op .i64 a b) := by
  have hw : ∀ n, In64 (IntKind.i64.wrap n) := fun n => by rw [i64_wrap]; exact in64_wrap n
  unfold bits
  split <;> first | exact hw _ | (unfold In64; omega)
theorem min_mod64 (b : Int) : min (b % 64).toNat 64 = (b % 64).toNat := by omega
theorem shl_value (a b : Int) : IntKind.i64.wrap (IntKind.u64.wrap (IntKind.u64.wrap a * 2 ^ min (b % 64).toNat 64)) = wrap64 (a * 2 ^ (b % 64).toNat) := by
  rw [min_mod64, i64_wrap, u64_wrap, u64_wrap, wrap64_mod]
  apply wrap64_congr
  rw [Int.mul_emod, Int.emod_emod_of_dvd _ (Int.dvd_refl _), ← Int.mul_emod]
theorem shr_value (a b : Int) : a / 2 ^ min (b % 64).toNat 64 = a / 2 ^ (b % 64).toNat := by rw [min_mod64]
theorem in64_ediv (a : Int) (n : Nat) (h : In64 a) : In64 (a / 2 ^ n) := by
  have hp : (0 : Int) < 2 ^ n := Int.pow_pos (by decide)
  unfold In64 at *
  constructor
  · apply (Int.le_ediv_iff_mul_le hp).2
    have : (-9223372036854775808 : Int) * 2 ^ n ≤ -9223372036854775808 * 1 := Int.mul_le_mul_of_nonpos_left (by decide) (by omega)
    omega
  · by_cases h0 : 0 ≤ a
    · exact Int.le_trans (Int.ediv_le_self _ h0) h.2
    · have : a / 2 ^ n < 0 := Int.ediv_neg_of_neg_of_pos (by omega) hp
      omega
theorem in64_tmod (a b : Int) (h : In64 a) : In64 (a.tmod b) := by
  unfold In64 at *
  have h2 : (a.tmod b).natAbs ≤ a.natAbs := by rw [Int.natAbs_tmod]; exact Nat.mod_le _ _
  by_cases h0 : 0 ≤ a
  · have := Int.tmod_nonneg b h0; omega
  · have : a.tmod b ≤ 0 := by
      have := Int.tmod_nonneg (a := -a) b (by omega)
      rw [Int.neg_tmod] at this; omega
    omega
theorem in64_binV (op a b : Int) (ha : In64 a) (hb : In64 b) : In64 (binV op a b).1 := by
  have h1 := in64_wrap
  have z : In64 0 := by unfold In64; omega
  have o : In64 1 := by unfold In64; omega
  have ht := in64_tmod a b ha
  have hs := in64_ediv a (b % 64).toNat ha
  have hb1 := in64_bits .and a b
  have hb2 := in64_bits .xor a b
  clear ha hb
  have key : ∀ {c : Prop} [Decidable c] {x y : Int × Int}, In64 x.1 → In64 y.1 → In64 (if c then x else y).1 := by
    intro c _ x y hx hy; by_cases hc : c
    · rw [if_pos hc]; exact hx
    · rw [if_neg hc]; exact hy
  have key1 : ∀ {c : Prop} [Decidable c], In64 (if c then (1 : Int) else 0) := by
    intro c _; by_cases hc : c
    · rw [if_pos hc]; exact o
    · rw [if_neg hc]; exact z
  unfold binV
  refine key (h1 _) (key (h1 _) (key (h1 _) (key (key z (key (h1 _) (h1 _))) (key (key z (key z ht)) (key (h1 _) (key hs (key hb1 (key hb2 (key key1 (key key1 z))))))))))
theorem and_low (b : Int) (n : Nat) (h : n < 64) (m : Int) (hm : m = 2 ^ n - 1) : bits .and .i64 b m = b % 2 ^ n := by
  have hp : (2 : Nat) ^ n ≤ 2 ^ 63 := Nat.pow_le_pow_right (by decide) (by omega)
  have hp1 : 0 < (2 : Nat) ^ n := Nat.pow_pos (by decide)
  have e : m = ((2 ^ n - 1 : Nat) : Int) := by subst hm; push_cast [Int.natCast_sub hp1]; rfl
  have hd : ((2 : Int) ^ n) ∣ 18446744073709551616 := by
    refine ⟨2 ^ (64 - n), ?_⟩
    rw [← Int.pow_add]
    rw [show n + (64 - n) = 64 from by omega]; rfl
  show IntKind.i64.wrap ((BitVec.ofInt 64 b &&& BitVec.ofInt 64 m).toNat : Int) = b % 2 ^ n
  subst e
  rw [BitVec.toNat_and, BitVec.toNat_ofInt, BitVec.toNat_ofInt]
  have e2 : (((2 ^ n - 1 : Nat) : Int) % (2 ^ 64 : Nat)).toNat = 2 ^ n - 1 := by
    omega
  rw [e2, Nat.and_two_pow_sub_one_eq_mod]
  have e3 : (((b % (2 ^ 64 : Nat)).toNat % 2 ^ n : Nat) : Int) = b % 2 ^ n := by
    have hb : 0 ≤ b % (2 ^ 64 : Nat) := Int.emod_nonneg _ (by decide)
    rw [Int.natCast_emod, Int.toNat_of_nonneg hb, Int.natCast_pow 2 n]
    exact Int.emod_emod_of_dvd b hd
  rw [e3, i64_wrap]
  apply wrap64_id
  have h0 : 0 ≤ b % 2 ^ n := Int.emod_nonneg _ (by have : (0:Int) < 2 ^ n := Int.pow_pos (by decide); omega)
  have h1 : b % 2 ^ n < 2 ^ n := Int.emod_lt_of_pos _ (Int.pow_pos (by decide))
  have h2 : (2 : Int) ^ n ≤ 2 ^ 63 := by exact_mod_cast hp
  unfold In64; omega
theorem and63 (b : Int) : bits .and .i64 b 63 = b % 64 := and_low b 6 (by decide) 63 (by decide)
theorem xor_u64 (a b : Nat) (ha : a < 2 ^ 64) (hb : b < 2 ^ 64) : bits .xor .u64 (a : Int) (b : Int) = ((a ^^^ b : Nat) : Int) := by
  have hx : a ^^^ b < 2 ^ 64 := Nat.xor_lt_two_pow ha hb
  show IntKind.u64.wrap ((BitVec.ofInt 64 (a : Int) ^^^ BitVec.ofInt 64 (b : Int)).toNat : Int) = _
  rw [BitVec.toNat_xor, BitVec.ofInt_natCast, BitVec.ofInt_natCast, BitVec.toNat_ofNat, BitVec.toNat_ofNat, Nat.mod_eq_of_lt ha, Nat.mod_eq_of_lt hb, u64_wrap]
  omega
/-- The number in zigzag. -/
def zz (n : Int) : Nat := if n < 0 then (-2 * n - 1).toNat else (2 * n).toNat
theorem zz_lt {n : Int} (h : In64 n) : zz n < 18446744073709551616 := by
  unfold zz; unfold In64 at h; split <;> omega
theorem xor_ones (a : Nat) (ha : a < 2 ^ 64) : a ^^^ (2 ^ 64 - 1) = 2 ^ 64 - 1 - a := by
  have h := BitVec.xor_allOnes (x := BitVec.ofNat 64 a)
  have h2 := congrArg BitVec.toNat h
  rw [BitVec.toNat_xor, BitVec.toNat_not, BitVec.toNat_ofNat, Nat.mod_eq_of_lt ha, BitVec.toNat_allOnes] at h2
  exact h2
theorem zz_put {n : Int} (h : In64 n) : bits .xor .u64 (IntKind.u64.wrap (IntKind.u64.wrap n * 2)) (IntKind.u64.wrap (n / 9223372036854775808)) = (zz n : Int) := by
  unfold In64 at h
  by_cases h0 : n < 0
  · have e1 : IntKind.u64.wrap (IntKind.u64.wrap n * 2) = ((2 * n + 18446744073709551616).toNat : Int) := by rw [u64_wrap, u64_wrap]; omega
    have e2 : IntKind.u64.wrap (n / 9223372036854775808) = ((2 ^ 64 - 1 : Nat) : Int) := by rw [u64_wrap]; omega
    rw [e1, e2, xor_u64 _ _ (by omega) (by omega), xor_ones _ (by omega)]
    unfold zz; rw [if_pos h0]; omega
  · have e1 : IntKind.u64.wrap (IntKind.u64.wrap n * 2) = ((2 * n).toNat : Int) := by rw [u64_wrap, u64_wrap]; omega
    have e2 : IntKind.u64.wrap (n / 9223372036854775808) = ((0 : Nat) : Int) := by rw [u64_wrap]; omega
    rw [e1, e2, xor_u64 _ _ (by omega) (by omega), Nat.xor_zero]
    unfold zz; rw [if_neg h0]
theorem zz_ref_neg {n : Int} (h : In64 n) (h0 : n < 0) : IntKind.u64.wrap (IntKind.u64.wrap (IntKind.u64.wrap (wrap64 (-1 - n)) * 2) + 1) = (zz n : Int) := by
  unfold In64 at h; unfold zz wrap64; rw [if_pos h0, u64_wrap, u64_wrap, u64_wrap]; omega
theorem zz_ref_pos {n : Int} (h : In64 n) (h0 : 0 ≤ n) : IntKind.u64.wrap (IntKind.u64.wrap n * 2) = (zz n : Int) := by
  unfold In64 at h; unfold zz; rw [if_neg (by omega), u64_wrap, u64_wrap]; omega
/-- What the groups of a number bear. -/
def Fits (f u : Nat) : Prop := u < 18446744073709551616 ∧ u < 128 ^ (f + 1)
/-- The groups of a number: at most f + 1. -/
def grp : Nat → Nat → List UInt8
  | 0, u => [UInt8.ofNat u]
  | f + 1, u => if u < 128 then [UInt8.ofNat u] else UInt8.ofNat (u % 128 + 128) :: grp f (u / 128)
def putL (n : Int) : List UInt8 := grp 9 (zz n)
theorem grp_low {f u : Nat} (h : u < 128) : grp f u = [UInt8.ofNat u] := by
  cases f with
  | zero => rfl
  | succ f => unfold grp; rw [if_pos h]
theorem grp_high {f u : Nat} (h : ¬ u < 128) : grp (f + 1) u = UInt8.ofNat (u % 128 + 128) :: grp f (u / 128) := by
  conv => lhs; unfold grp
  rw [if_neg h]
theorem Fits.pos {f u : Nat} (h : Fits f u) (hu : ¬ u < 128) : ∃ g, f = g + 1 := by
  cases f with
  | zero => exact absurd h.2 (by omega)
  | succ g => exact ⟨g, rfl⟩
theorem Fits.next {f u : Nat} (h : Fits (f + 1) u) : Fits f (u / 128) := by
  obtain ⟨h1, h2⟩ := h
  refine ⟨by omega, ?_⟩
  rw [Nat.pow_succ] at h2
  exact (Nat.div_lt_iff_lt_mul (by decide)).2 h2
theorem grp_length : ∀ (f u : Nat), 1 ≤ (grp f u).length ∧ (grp f u).length ≤ f + 1
  | 0, u => by simp [grp]
  | f + 1, u => by
    unfold grp
    split
    · simp
    · have := grp_length f (u / 128)
      simp only [List.length_cons]; omega
theorem or128 (u : Nat) (hu : u < 256) : bits .or .u8 (u : Int) 128 = ((u % 128 + 128 : Nat) : Int) := by
  have hx : ∀ u : Fin 256, (u.val ||| 128) = u.val % 128 + 128 := by decide +kernel
  have h1 := hx ⟨u, hu⟩
  show IntKind.u8.wrap ((BitVec.ofInt 8 (u : Int) ||| BitVec.ofInt 8 128).toNat : Int) = _
  have e : BitVec.ofInt 8 (128 : Int) = BitVec.ofNat 8 128 := rfl
  rw [BitVec.toNat_or, BitVec.ofInt_natCast, e, BitVec.toNat_ofNat, BitVec.toNat_ofNat, Nat.mod_eq_of_lt (by omega)]
  simp only [Nat.reduceMod, Nat.reducePow] at *
  rw [h1]
  simp only [IntKind.wrap, IntKind.bits, IntKind.signed]
  simp
  omega
/-- What Get reads: the groups from place i on, u so far: the number in zigzag, and how many bytes. -/
def getGo : Nat → Nat → List UInt8 → Option (Nat × Nat)
  | _, _, [] => none
  | i, u, c :: r =>
    if 10 ≤ i then none
    else if i = 9 ∧ 1 < c.toNat then none
    else if c.toNat < 128 then (if c.toNat = 0 ∧ 0 < i then none else some (u + c.toNat % 128 * 128 ^ i, i + 1))
    else getGo (i + 1) (u + c.toNat % 128 * 128 ^ i) r
def uz (u : Nat) : Int := if u % 2 = 0 then (u / 2 : Nat) else -1 - (u / 2 : Nat)
def getV (l : List UInt8) : Int × Int :=
  match getGo 0 0 l with
  | none => (0, 0)
  | some (u, k) => (uz u, k)
theorem or_u64 (a b : Nat) (ha : a < 2 ^ 64) (hb : b < 2 ^ 64) : bits .or .u64 (a : Int) (b : Int) = ((a ||| b : Nat) : Int) := by
  have hx : a ||| b < 2 ^ 64 := Nat.or_lt_two_pow ha hb
  show IntKind.u64.wrap ((BitVec.ofInt 64 (a : Int) ||| BitVec.ofInt 64 (b : Int)).toNat : Int) = _
  rw [BitVec.toNat_or, BitVec.ofInt_natCast, BitVec.ofInt_natCast, BitVec.toNat_ofNat, BitVec.toNat_ofNat, Nat.mod_eq_of_lt ha, Nat.mod_eq_of_lt hb, u64_wrap]
  omega
theorem and_u64 (a b : Nat) (ha : a < 2 ^ 64) (hb : b < 2 ^ 64) : bits .and .u64 (a : Int) (b : Int) = ((a &&& b : Nat) : Int) := by
  have hx : a &&& b < 2 ^ 64 := Nat.and_lt_two_pow a hb
  show IntKind.u64.wrap ((BitVec.ofInt 64 (a : Int) &&& BitVec.ofInt 64 (b : Int)).toNat : Int) = _
  rw [BitVec.toNat_and, BitVec.ofInt_natCast, BitVec.ofInt_natCast, BitVec.toNat_ofNat, BitVec.toNat_ofNat, Nat.mod_eq_of_lt ha, Nat.mod_eq_of_lt hb, u64_wrap]
  omega
theorem pow128 (k : Nat) : 128 ^ k = 2 ^ (7 * k) := by rw [Nat.pow_mul]
/-- A group's bits fit. -/
def GrpFits (u x k : Nat) : Prop := u < 128 ^ k ∧ x < 128 ∧ (k ≤ 8 ∨ k = 9 ∧ x ≤ 1)
theorem GrpFits.lt {u x k : Nat} (h : GrpFits u x k) : u + x * 128 ^ k < 18446744073709551616 ∧ u + x * 128 ^ k < 128 ^ (k + 1) := by
  obtain ⟨h1, h2, h3⟩ := h
  have hk : u + x * 128 ^ k < (x + 1) * 128 ^ k := by rw [Nat.add_mul]; omega
  refine ⟨?_, ?_⟩
  · rcases h3 with h3 | ⟨rfl, h3⟩
    · have : (x + 1) * 128 ^ k ≤ 128 * 128 ^ 8 := Nat.mul_le_mul (by omega) (Nat.pow_le_pow_right (by decide) h3)
      have e : 128 * 128 ^ 8 < 18446744073709551616 := by decide
      omega
    · have : (x + 1) * 128 ^ 9 ≤ 2 * 128 ^ 9 := Nat.mul_le_mul (by omega) (Nat.le_refl _)
      have e : 2 * 128 ^ 9 = 18446744073709551616 := by decide
      omega
  · rw [Nat.pow_succ]
    have : (x + 1) * 128 ^ k ≤ 128 * 128 ^ k := Nat.mul_le_mul (by omega) (Nat.le_refl _)
    omega
theorem grp_or {u x k : Nat} (h : GrpFits u x k) : bits .or .u64 (u : Int) (IntKind.u64.wrap ((x : Int) * 2 ^ (7 * k))) = ((u + x * 128 ^ k : Nat) : Int) := by
  have hl := h.lt.1
  have e : IntKind.u64.wrap ((x : Int) * 2 ^ (7 * k)) = ((x * 128 ^ k : Nat) : Int) := by
    have e1 : (x : Int) * 2 ^ (7 * k) = ((x * 128 ^ k : Nat) : Int) := by rw [pow128, Int.natCast_mul, Int.natCast_pow]; rfl
    rw [e1, u64_wrap]; omega
  rw [e, or_u64 _ _ (by omega) (by omega)]
  congr 1
  have hu := h.1
  rw [pow128] at hu ⊢
  rw [Nat.or_comm, Nat.add_comm, Nat.mul_comm]
  exact (Nat.two_pow_add_eq_or_of_lt hu x).symm
theorem uz_eq {u : Nat} (hu : u < 18446744073709551616) : bits .xor .i64 (wrap64 ((u : Int) / 2)) (wrap64 (-wrap64 (bits .and .u64 (u : Int) 1))) = uz u := by
  have e1 : bits .and .u64 (u : Int) 1 = ((u % 2 : Nat) : Int) := by
    have h := and_u64 u 1 hu (by decide)
    rw [Nat.and_one_is_mod] at h
    exact h
  have e2 : wrap64 ((u : Int) / 2) = ((u / 2 : Nat) : Int) := by unfold wrap64; omega
  rw [e1, e2]
  have hx : (u / 2) ^^^ (2 ^ 64 - 1) = 2 ^ 64 - 1 - u / 2 := xor_ones _ (by omega)
  rcases Nat.mod_two_eq_zero_or_one u with h | h
  · rw [h]
    have e3 : wrap64 (-wrap64 ((0 : Nat) : Int)) = ((0 : Nat) : Int) := by unfold wrap64; omega
    rw [e3]
    show IntKind.i64.wrap ((BitVec.ofInt 64 ((u / 2 : Nat) : Int) ^^^ BitVec.ofInt 64 ((0 : Nat) : Int)).toNat : Int) = _
    rw [BitVec.toNat_xor, BitVec.ofInt_natCast, BitVec.ofInt_natCast, BitVec.toNat_ofNat, BitVec.toNat_ofNat, Nat.mod_eq_of_lt (by omega : u / 2 < 2 ^ 64), Nat.zero_mod, Nat.xor_zero, i64_wrap]
    unfold uz wrap64; rw [if_pos h]; omega
  · rw [h]
    have e3 : wrap64 (-wrap64 ((1 : Nat) : Int)) = -1 := by unfold wrap64; omega
    rw [e3]
    have e4 : BitVec.ofInt 64 (-1) = BitVec.ofNat 64 (2 ^ 64 - 1) := by decide
    show IntKind.i64.wrap ((BitVec.ofInt 64 ((u / 2 : Nat) : Int) ^^^ BitVec.ofInt 64 (-1)).toNat : Int) = _
    rw [e4, BitVec.toNat_xor, BitVec.ofInt_natCast, BitVec.toNat_ofNat, BitVec.toNat_ofNat, Nat.mod_eq_of_lt (by omega : u / 2 < 2 ^ 64), Nat.mod_eq_of_lt (by decide : 2 ^ 64 - 1 < 2 ^ 64), hx, i64_wrap]
    unfold uz wrap64; rw [if_neg (by omega)]; omega

section
variable {l : List UInt8} {k u x : Nat}
theorem get_end1 (h : getGo 0 0 l = getGo k u (l.drop k)) (hk : k < l.length) (hx : l[k].toNat = x) (h9 : k = 9) (h1 : 1 < x) : getV l = (0, 0) := by
  subst hx
  rw [List.drop_eq_getElem_cons hk] at h
  unfold getV; rw [h]; unfold getGo
  rw [if_neg (by omega), if_pos ⟨h9, h1⟩]
theorem get_end2 (h : getGo 0 0 l = getGo k u (l.drop k)) (hk : k < l.length) (hx : l[k].toNat = x) (h9 : k < 10) (h1 : x = 0) (h0 : 0 < k) : getV l = (0, 0) := by
  subst hx
  rw [List.drop_eq_getElem_cons hk] at h
  unfold getV; rw [h]; unfold getGo
  rw [if_neg (by omega), if_neg (by omega), if_pos (by omega), if_pos ⟨h1, h0⟩]
theorem get_end3 (h : getGo 0 0 l = getGo k u (l.drop k)) (hk : k < l.length) (hx : l[k].toNat = x) (h9 : k < 10) (hn : ¬ (k = 9 ∧ 1 < x)) (h1 : x < 128) (h0 : ¬ (x = 0 ∧ 0 < k)) : getV l = (uz (u + x % 128 * 128 ^ k), ((k + 1 : Nat) : Int)) := by
  subst hx
  rw [List.drop_eq_getElem_cons hk] at h
  unfold getV; rw [h]; unfold getGo
  rw [if_neg (by omega), if_neg hn, if_pos h1, if_neg h0]
theorem get_next (h : getGo 0 0 l = getGo k u (l.drop k)) (hk : k < l.length) (hx : l[k].toNat = x) (h9 : k < 9) (h1 : ¬ x < 128) : getGo 0 0 l = getGo (k + 1) (u + x % 128 * 128 ^ k) (l.drop (k + 1)) := by
  subst hx
  rw [List.drop_eq_getElem_cons hk] at h
  rw [h]
  conv => lhs; unfold getGo
  rw [if_neg (by omega), if_neg (by omega), if_neg h1]
theorem get_out (h : getGo 0 0 l = getGo k u (l.drop k)) (hk : k = l.length ∨ 10 ≤ k) : getV l = (0, 0) := by
  unfold getV; rw [h]
  cases hd : l.drop k with
  | nil => simp [getGo]
  | cons c r =>
    have hlt : k < l.length := by
      rcases Nat.lt_or_ge k l.length with h | h
      · exact h
      · rw [List.drop_eq_nil_of_le h] at hd; cases hd
    unfold getGo
    rw [if_pos (by omega)]
end
end Go.Proofs.YtbpedjkebemhnaaGreatDoor

/- Facts on memory that my walks share: a slice that reads as a list of cells, appends onto rows of the call's own, bytes and strings. Each is proved of any program. -/
set_option linter.unusedVariables false
namespace Go.Proofs.YtbpedjkebemhnaaGreatDoor
open Go.RowKit

/-- A fact behind a name: the walk does not rewrite by it. -/
theorem hid {p : Prop} (h : p) : Hid p := h

theorem le_alloc {w : World} {B : Nat} (h : B ≤ w.heap.size) (o : Obj) : B ≤ (w.alloc o).heap.size := by simp; omega

theorem plain_add (b off i : Nat) : (⟨b, off, none⟩ : Addr).add i = ⟨b, off + i, none⟩ := by
  unfold Addr.add; split <;> simp_all

/-- The slice value v reads as the cells xs, k of them an element; they lie below block B. -/
def Sl (w : World) (B k : Nat) (v : Value) (xs : List Value) : Prop :=
  ∃ (A : Option Addr) (n c : Nat), v = .slice A n c ∧ xs.length = n * k ∧ n ≤ c ∧ c ≤ maxLen ∧
    (0 < n → ∃ b off, A = some ⟨b, off, none⟩ ∧ b < B ∧ ∀ (j : Nat) u, xs[j]? = some u → w.cell? ⟨b, off + j, none⟩ = some u)

section
variable {w w' : World} {B B' k : Nat} {v : Value} {xs : List Value}
theorem Sl.nil (w : World) (B k : Nat) : Sl w B k (.slice none 0 0) [] :=
  ⟨none, 0, 0, rfl, by simp, Nat.le_refl _, Nat.zero_le _, fun h => absurd h (by omega)⟩
theorem Sl.keep (h : Sl w B k v xs) (hk : ∀ b o, b < B → w'.cell? ⟨b, o, none⟩ = w.cell? ⟨b, o, none⟩) : Sl w' B k v xs := by
  obtain ⟨A, n, c, hv, hl, hn, hc, hx⟩ := h
  refine ⟨A, n, c, hv, hl, hn, hc, fun h0 => ?_⟩
  obtain ⟨b, off, hA, hb, hcell⟩ := hx h0
  exact ⟨b, off, hA, hb, fun j u hu => (hk _ _ hb).trans (hcell j u hu)⟩
theorem Sl.more (h : Sl w B k v xs) (hB : B ≤ B') : Sl w B' k v xs := by
  obtain ⟨A, n, c, hv, hl, hn, hc, hx⟩ := h
  refine ⟨A, n, c, hv, hl, hn, hc, fun h0 => ?_⟩
  obtain ⟨b, off, hA, hb, hcell⟩ := hx h0
  exact ⟨b, off, hA, by omega, hcell⟩
theorem Sl.below (h : Sl w B k v xs) (hb : Below B w w') : Sl w' B k v xs := h.keep fun b o hp => hb.cell (p := ⟨b, o, none⟩) hp
theorem Sl.drew (h : Sl w B k v xs) : Sl w.drew B k v xs := h
theorem Sl.drewN (h : Sl w B k v xs) (n : Nat) : Sl (w.drewN n) B k v xs := h
theorem Sl.alloc (h : Sl w B k v xs) (hB : B ≤ w.heap.size) (o : Obj) : Sl (w.alloc o) B k v xs :=
  h.keep fun b o' hp => World.cell?_alloc_past _ _ _ (by show b < w.heap.size; omega)
theorem Sl.of_own {base : Nat} {e : TypeId} {n : Nat} (h : w.ownsRow base e k v n xs) : Sl w w.heap.size k v xs := by
  rcases h.2 with ⟨rfl, rfl⟩ | ⟨g, cap, cur, rfl, hb, hg, hn, hm, hs, htake⟩
  · exact ⟨none, 0, 0, rfl, h.1, Nat.le_refl _, Nat.zero_le _, fun h => absurd h (by omega)⟩
  · refine ⟨_, n, cap, rfl, h.1, hn, hm, fun _ => ⟨g, 0, rfl, (Array.getElem?_eq_some_iff.1 hg).1, fun j u hu => ?_⟩⟩
    have := h.cells (g := g) rfl j u hu
    rwa [plain_add] at this
theorem Sl.lt (h : Sl w w.heap.size k v xs) : Sl w w.heap.size k v xs := h
end

/-- What an element type of slices is: its row of the program's table. -/
def ElemIs (P : Program) (t e : TypeId) (z : Value) (size bytes : Nat) : Prop :=
  P.underlying t = some (.slice e) ∧ (P.info? e).map (fun i => (i.zero, i.size, i.bytes)) = some (some z, size, bytes) ∧ z.cells.size = size ∧ 0 < size

theorem below_of_grown {w w' : World} (h : w.grownBy w' none) : Below w.heap.size w w' :=
  ⟨h.os, h.tape, h.output, h.size, fun k hk => h.block k hk (by simp)⟩
theorem grown_of_below {w w' : World} (h : Below w.heap.size w w') (row : Option Nat) : w.grownBy w' row :=
  ⟨h.os, h.tape, h.output, h.size, fun k hk _ => h.block k hk⟩
theorem own_below {w w' : World} {base : Nat} {e : TypeId} {size : Nat} {v : Value} {n : Nat} {xs : List Value} (h : w.ownsRow base e size v n xs) (hb : Below w.heap.size w w') : w'.ownsRow base e size v n xs :=
  h.kept (grown_of_below hb none) (by cases hv : v.ownBlock <;> simp)
theorem own_drewN {w : World} {base : Nat} {e : TypeId} {size : Nat} {v : Value} {n : Nat} {xs : List Value} (h : w.ownsRow base e size v n xs) (k : Nat) : (w.drewN k).ownsRow base e size v n xs := h
theorem own_base {w : World} {base base' : Nat} {e : TypeId} {size : Nat} {v : Value} {n : Nat} {xs : List Value} (h : w.ownsRow base e size v n xs) (hb : base' ≤ base) : w.ownsRow base' e size v n xs := by
  refine ⟨h.1, ?_⟩
  rcases h.2 with h2 | ⟨g, cap, cur, hv, hg, r⟩
  · exact .inl h2
  · exact .inr ⟨g, cap, cur, hv, by omega, r⟩

section
variable {P : Program}
/-- append: onto a row of the call's own (or nil), whatever slice. -/
theorem run_app (w : World) (base : Nat) {t e ty : TypeId} {z : Value} {size bytes : Nat} (hE : ElemIs P t e z size bytes) {v : Value} {n : Nat} {xs : List Value} (hown : w.ownsRow base e size v n xs)
    {B : Nat} {y : Value} {news : List Value} (hy : Sl w B size y news) (h1 : ∀ u ∈ news, u.oneCell' = true)
    (h63 : n * size + news.length ≤ maxLen) (hbytes : (n * size + news.length) * bytes ≤ 140737488355328) (hbase : base ≤ w.heap.size) :
    ∃ v' w' n', (Builtin.append_ #[t, t] ty #[v, y]).run P w = .ok v' w' ∧ w'.ownsRow base e size v' n' (xs ++ news) ∧ w.grownBy w' v.ownBlock ∧ (v'.ownBlock = v.ownBlock ∨ v'.ownBlock = some w.heap.size) := by
  obtain ⟨ht, hinfo, hzs, hsz⟩ := hE
  obtain ⟨i, hi, hz, hs, hb⟩ := info_parts hinfo
  obtain ⟨A, m, c, rfl, hl, hn, hc, hx⟩ := hy
  have hnm : n + m ≤ n * size + news.length := by
    rw [hl, ← Nat.add_mul]; exact Nat.le_mul_of_pos_right _ hsz
  rcases A with _ | ad
  · have hm : m = 0 := by
      rcases Nat.eq_zero_or_pos m with h0 | h0
      · exact h0
      · obtain ⟨b, off, hA, _⟩ := hx h0; cases hA
    subst hm
    obtain rfl : news = [] := List.eq_nil_of_length_eq_zero (by simpa using hl)
    refine ⟨v, w, n, ?_, by simpa using hown, World.grownBy.refl w _, .inl rfl⟩
    rcases hown.2 with ⟨rfl, rfl⟩ | ⟨g, cap, cur, rfl, _, _, hnc, _⟩
    · simp [Builtin.append_, run_underlying ht, sizeOf, typeInfo, hi, Builtin.lenOf, Builtin.firstCells]
    · simp [Builtin.append_, run_underlying ht, sizeOf, typeInfo, hi, Builtin.lenOf, Builtin.firstCells, hnc, storeCells]
  · have hcells : ∀ j u, news[j]? = some u → w.cell? (ad.add j) = some u := by
      intro j u hu
      have h0 : 0 < m := by
        rcases Nat.eq_zero_or_pos m with h0 | h0
        · subst h0
          obtain rfl : news = [] := List.eq_nil_of_length_eq_zero (by simpa using hl)
          simp at hu
        · exact h0
      obtain ⟨b, off, hA, _, hcell⟩ := hx h0
      injection hA with hA
      subst hA
      rw [plain_add]; exact hcell j u hu
    have hb2 : (n + m) * bytes ≤ 140737488355328 := Nat.le_trans (Nat.mul_le_mul_right _ hnm) hbytes
    obtain ⟨v', w', hrun, h2, h3, _, h5⟩ := run_append_own_at (P := P) w base t ty e i z size bytes ht hi hz hs hb hzs hsz v n xs hown ad m c news hl hcells h1 (by omega) hb2 hbase
    exact ⟨v', w', n + m, hrun, h2, h3, h5⟩

theorem wpList_app {w : World} {ops : Array Oper} {rest : List Oper} {o : Oper} {a : Act} {Q : Exit → Act → World → Prop} (hgd : o.guard = none) (s x : Operand) (t : TypeId)
    (ho : o.op = .call { callee := .builtin .append, args := #[s, x], argTypes := #[t, t] })
    (base : Nat) {e : TypeId} {z : Value} {size bytes : Nat} (hE : ElemIs P t e z size bytes) (v y : Value) (hs : a.eval s = v) (hx : a.eval x = y)
    {n : Nat} {xs : List Value} (hown : w.ownsRow base e size v n xs) {B : Nat} {news : List Value} (hy : Sl w B size y news) (h1 : ∀ u ∈ news, u.oneCell' = true)
    (h63 : n * size + news.length ≤ maxLen) (hbytes : (n * size + news.length) * bytes ≤ 140737488355328) (hbase : base ≤ w.heap.size)
    (h : ∀ v' w' n', w'.ownsRow base e size v' n' (xs ++ news) → w.grownBy w' v.ownBlock → (v'.ownBlock = v.ownBlock ∨ v'.ownBlock = some w.heap.size) → wpList P ops Q rest (a.put o.dst v') w') :
    wpList P ops Q (o :: rest) a w := by
  refine wpList_plain hgd fun K hK => ?_
  obtain ⟨v', w', n', hrun, h2, h3, h4⟩ := run_app (P := P) (ty := o.type) w base hE hown hy h1 h63 hbytes hbase
  unfold Oper.wp execOp
  simp only [ho, resolve, invoke, builtin, Sem.run_bind, Sem.run_pure, Result.andThen_ok, List.map_toArray, List.map_cons, List.map_nil, hs, hx, hrun]
  exact hK _ _ (h v' w' n' h2 h3 h4)
end

theorem below_app {B : Nat} {a w w' : World} {base : Nat} {e : TypeId} {size : Nat} {v : Value} {n : Nat} {xs : List Value} (h : Below B a w) (hown : w.ownsRow base e size v n xs) (hg : w.grownBy w' v.ownBlock) (hB : B ≤ base) (hs : B ≤ w.heap.size) : Below B a w' :=
  h.grown hg hs fun k hk => Nat.le_trans hB (hown.lt k hk).1

theorem below_drawn {B : Nat} (w : World) (n : Nat) : Below B w (w.drewN n) := ⟨rfl, rfl, rfl, Nat.le_refl _, fun _ _ => rfl⟩
/-- Two calls, one behind the other, that turn nothing that was there. -/
theorem bthen {a b c : World} (h : Below a.heap.size a b) (k : Below b.heap.size b c) : Below a.heap.size a c := h.trans (k.mono h.size)

/-- A fresh block that holds just the cells of a literal. -/
theorem sl_new (w : World) (cs : Array Value) (t : TypeId) (k n : Nat) (hs : cs.size = n * k) (hn : n ≤ maxLen) :
    Sl (w.alloc (.cells cs t)) (w.heap.size + 1) k (.slice (some ⟨w.heap.size, 0, none⟩) n n) cs.toList := by
  refine ⟨_, n, n, rfl, by simpa using hs, Nat.le_refl _, hn, fun _ => ⟨w.heap.size, 0, rfl, by omega, fun j u hu => ?_⟩⟩
  rw [cell_of_row _ _ _ cs t (0, 0) (heap_alloc_new w _)]
  simpa using hu

theorem str_append (a b : List UInt8) : (⟨a.toArray⟩ : ByteArray) ++ ⟨b.toArray⟩ = ⟨(a ++ b).toArray⟩ := by
  apply ByteArray.ext
  rw [ByteArray.data_append]
  exact List.append_toArray _ _
/-- A text's value. -/
abbrev sv (l : List UInt8) : Value := .string ⟨l.toArray⟩
theorem sv_append (a b : List UInt8) : Value.string ((⟨a.toArray⟩ : ByteArray) ++ ⟨b.toArray⟩) = sv (a ++ b) := by rw [str_append]
/-- Bytes, as cells. -/
def bv (l : List UInt8) : List Value := l.map fun b => .int .u8 (b.toNat : Int)
theorem bv_length (l : List UInt8) : (bv l).length = l.length := by simp [bv]
theorem bv_append (a b : List UInt8) : bv (a ++ b) = bv a ++ bv b := by simp [bv]
theorem bv_one (l : List UInt8) : ∀ u ∈ bv l, u.oneCell' = true := by
  intro u hu
  obtain ⟨b, _, rfl⟩ := List.mem_map.1 hu
  rfl
theorem bv_get (l : List UInt8) (i : Nat) (h : i < l.length) : (bv l)[i]? = some (.int .u8 (l[i].toNat : Int)) := by simp [bv, h]
theorem bv_inj {a b : List UInt8} (h : bv a = bv b) : a = b := by
  unfold bv at h
  refine (List.map_inj_right ?_).1 h
  intro x y hxy
  injection hxy with _ hxy
  exact UInt8.toNat_inj.1 (by omega)

/-- The slice value v reads as these bytes. -/
def Bs (w : World) (B : Nat) (v : Value) (l : List UInt8) : Prop := Sl w B 1 v (bv l)
theorem Bs.open_ {w : World} {B : Nat} {v : Value} {l : List UInt8} (h : Bs w B v l) :
    ∃ (A : Option Addr) (c : Nat), v = .slice A l.length c ∧ l.length ≤ c ∧ c ≤ maxLen ∧
      (0 < l.length → ∃ b off, A = some ⟨b, off, none⟩ ∧ b < B ∧ ∀ (j : Nat) (hj : j < l.length), w.cell? ⟨b, off + j, none⟩ = some (.int .u8 (l[j].toNat : Int))) := by
  obtain ⟨A, n, c, rfl, hl, hn, hc, hx⟩ := h
  obtain rfl : l.length = n := by rw [← bv_length l, hl]; omega
  refine ⟨A, c, rfl, hn, hc, fun h0 => ?_⟩
  obtain ⟨b, off, hA, hb, hcell⟩ := hx h0
  exact ⟨b, off, hA, hb, fun j hj => hcell j _ (bv_get l j hj)⟩

theorem Bs.take_ {w : World} {B : Nat} {A : Option Addr} {n c : Nat} {l : List UInt8} (h : Bs w B (.slice A n c) l) {k : Nat} (hk : k ≤ l.length) : Bs w B (.slice A k c) (l.take k) := by
  obtain ⟨A', n', c', hv, hl, hn, hc, hx⟩ := h
  injection hv with h1 h2 h3
  subst h1 h2 h3
  rw [bv_length] at hl
  refine ⟨A, k, c, rfl, by rw [bv_length, List.length_take]; omega, by omega, hc, fun h0 => ?_⟩
  obtain ⟨b, off, hA, hb, hcell⟩ := hx (by omega)
  refine ⟨b, off, hA, hb, fun j u hu => hcell j u ?_⟩
  unfold bv at hu ⊢
  rw [List.map_take, List.getElem?_take] at hu
  split at hu
  · exact hu
  · cases hu
theorem run_string_of {P : Program} {w : World} {B : Nat} {v : Value} {l : List UInt8} (h : Bs w B v l) (src e dst : TypeId) (hs : P.underlying src = some (.slice e)) (he : P.underlying e = some (.int .u8)) (hd : P.underlying dst = some .string) :
    (convert src dst v).run P w = .ok (.string ⟨l.toArray⟩) w := by
  obtain ⟨A, c, rfl, hn, hc, hx⟩ := h.open_
  by_cases h0 : l.length = 0
  · obtain rfl : l = [] := List.eq_nil_of_length_eq_zero h0
    rw [run_convert_bytes_string w src dst e _ _ c hs he hd]
    cases A with
    | none => simp [Conv.bytesToString, ByteArray.empty, ByteArray.emptyWithCapacity]; rfl
    | some ad =>
      exact (run_bytesToString w ad 0 c [] (run_loadCells_list (P := P) w ad [] (by simp))).trans rfl
  · obtain ⟨b, off, rfl, hb, hcell⟩ := hx (by omega)
    rw [run_convert_bytes_arg (P := P) w src e hs he b off l.length c (l.map fun x => (x.toNat : Int)) (by simp) (fun i hi => by rw [hcell i hi]; simp [hi]) dst hd]
    congr 2
    simp [strOfNums, Function.comp_def]
/-- v is nil or a row of the call's own, from block base on, that holds just these bytes. -/
def OwnB (w : World) (base : Nat) (e : TypeId) (v : Value) (l : List UInt8) : Prop := ∃ n, w.ownsRow base e 1 v n (bv l)
section
variable {w w' : World} {base : Nat} {e : TypeId} {v : Value} {l : List UInt8}
theorem OwnB.nil (w : World) (base : Nat) (e : TypeId) : OwnB w base e (.slice none 0 0) [] := ⟨0, World.ownsRow_nil _ _ _ _⟩
theorem OwnB.bs (h : OwnB w base e v l) : Bs w w.heap.size v l := by obtain ⟨n, h⟩ := h; exact Sl.of_own h
theorem OwnB.below (h : OwnB w base e v l) (hb : Below w.heap.size w w') : OwnB w' base e v l := by obtain ⟨n, h⟩ := h; exact ⟨n, own_below h hb⟩
theorem OwnB.alloc (h : OwnB w base e v l) (o : Obj) : OwnB (w.alloc o) base e v l := by obtain ⟨n, h⟩ := h; exact ⟨n, h.alloc o⟩
theorem OwnB.drewN (h : OwnB w base e v l) (k : Nat) : OwnB (w.drewN k) base e v l := h
theorem OwnB.drew (h : OwnB w base e v l) : OwnB w.drew base e v l := h
theorem OwnB.rebase {base' : Nat} (h : OwnB w base e v l) (hb : base' ≤ base) : OwnB w base' e v l := by obtain ⟨n, h⟩ := h; exact ⟨n, own_base h hb⟩
theorem OwnB.lt (h : OwnB w base e v l) : ∀ k, v.ownBlock = some k → base ≤ k ∧ k < w.heap.size := by obtain ⟨n, h⟩ := h; exact h.lt
end
theorem Bs.below {w w' : World} {B : Nat} {v : Value} {l : List UInt8} (h : Bs w B v l) (hb : Below B w w') : Bs w' B v l := Sl.below h hb
theorem Bs.alloc {w : World} {B : Nat} {v : Value} {l : List UInt8} (h : Bs w B v l) (hB : B ≤ w.heap.size) (o : Obj) : Bs (w.alloc o) B v l := Sl.alloc h hB o
theorem Bs.more {w : World} {B B' : Nat} {v : Value} {l : List UInt8} (h : Bs w B v l) (hB : B ≤ B') : Bs w B' v l := Sl.more h hB

/-- append of bytes, onto bytes of the call's own: the arm for the walk. -/
theorem wpList_appB {P : Program} {w : World} {ops : Array Oper} {rest : List Oper} {o : Oper} {a : Act} {Q : Exit → Act → World → Prop} (hgd : o.guard = none) (s x : Operand) (t : TypeId)
    (ho : o.op = .call { callee := .builtin .append, args := #[s, x], argTypes := #[t, t] })
    (base : Nat) {e : TypeId} {z : Value} (hE : ElemIs P t e z 1 1) (v y : Value) (hs : a.eval s = v) (hx : a.eval x = y)
    {l : List UInt8} (hown : OwnB w base e v l) {B : Nat} {m : List UInt8} (hy : Bs w B y m)
    (hlen : l.length + m.length ≤ 140737488355328) (hbase : base ≤ w.heap.size)
    (h : ∀ v' w', OwnB w' base e v' (l ++ m) → w.grownBy w' v.ownBlock → (v'.ownBlock = v.ownBlock ∨ v'.ownBlock = some w.heap.size) → wpList P ops Q rest (a.put o.dst v') w') :
    wpList P ops Q (o :: rest) a w := by
  obtain ⟨n, hown⟩ := hown
  have hn : n = l.length := by have := hown.1; rw [bv_length] at this; omega
  subst hn
  exact wpList_app hgd s x t ho base hE v y hs hx hown hy (bv_one _) (by simp only [bv_length, maxLen]; omega) (by rw [bv_length]; omega) hbase
    (fun v' w' n' h1 h2 h3 => h v' w' ⟨n', by rw [bv_append]; exact h1⟩ h2 h3)
theorem below_appB {B : Nat} {a w w' : World} {base : Nat} {e : TypeId} {v : Value} {l : List UInt8} (h : Below B a w) (hown : OwnB w base e v l) (hg : w.grownBy w' v.ownBlock) (hB : B ≤ base) (hs : B ≤ w.heap.size) : Below B a w' :=
  h.grown hg hs fun k hk => Nat.le_trans hB (hown.lt k hk).1
/-- A fresh block of one byte, as 'append(b, x)' lays it. -/
theorem bs_new (w : World) (x : Int) (t : TypeId) (h : 0 ≤ x ∧ x < 256) : Bs (w.alloc (.cells #[.int .u8 x] t)) (w.heap.size + 1) (.slice (some ⟨w.heap.size, 0, none⟩) 1 1) [UInt8.ofNat x.toNat] := by
  have h1 := sl_new w #[.int .u8 x] t 1 1 rfl (by decide)
  have e : bv [UInt8.ofNat x.toNat] = [.int .u8 x] := by
    unfold bv
    simp only [List.map_cons, List.map_nil, UInt8.toNat_ofNat']
    congr 2
    omega
  unfold Bs; rw [e]; exact h1
end Go.Proofs.YtbpedjkebemhnaaGreatDoor

/- Plain facts on decimal numerals: which texts are one, and which number they say; no program in sight. -/
set_option linter.unusedVariables false
namespace Go.Proofs.YtbpedjkebemhnaaGreatDoor
open Go.RowKit

def isDig (c : UInt8) : Bool := decide (48 ≤ c.toNat) && decide (c.toNat ≤ 57)
theorem isDig_iff {c : UInt8} : isDig c = true ↔ 48 ≤ c.toNat ∧ c.toNat ≤ 57 := by simp [isDig]
/-- The number that digits say, behind acc. -/
def digStep (n : Nat) (c : UInt8) : Nat := 10 * n + (c.toNat - 48)
def valFrom (acc : Nat) (l : List UInt8) : Nat := l.foldl digStep acc
theorem valFrom_nil (acc : Nat) : valFrom acc [] = acc := by unfold valFrom; rw [List.foldl_nil]
theorem valFrom_cons (acc : Nat) (c : UInt8) (r : List UInt8) : valFrom acc (c :: r) = valFrom (10 * acc + (c.toNat - 48)) r := by
  unfold valFrom; rw [List.foldl_cons]; unfold digStep; exact Eq.refl _
theorem valFrom_append (a b : List UInt8) (acc : Nat) : valFrom acc (a ++ b) = valFrom (valFrom acc a) b := by unfold valFrom; rw [List.foldl_append]
theorem valFrom_snoc (a : List UInt8) (c : UInt8) (acc : Nat) : valFrom acc (a ++ [c]) = 10 * valFrom acc a + (c.toNat - 48) := by
  rw [valFrom_append, valFrom_cons, valFrom_nil]
theorem valFrom_ge : ∀ (l : List UInt8) (acc : Nat), acc * 10 ^ l.length ≤ valFrom acc l
  | [], acc => by rw [valFrom_nil, List.length_nil, Nat.pow_zero, Nat.mul_one]; exact Nat.le_refl _
  | c :: r, acc => by
    rw [valFrom_cons]
    have h := valFrom_ge r (10 * acc + (c.toNat - 48))
    refine Nat.le_trans ?_ h
    have e : acc * 10 ^ (c :: r).length = (10 * acc) * 10 ^ r.length := by
      rw [List.length_cons, Nat.pow_succ, Nat.mul_comm (10 ^ r.length) 10, ← Nat.mul_assoc, Nat.mul_comm acc 10]
    rw [e]
    exact Nat.mul_le_mul_right _ (Nat.le_add_right _ _)
theorem valFrom_lt : ∀ (l : List UInt8) (acc : Nat), (∀ c ∈ l, isDig c = true) → valFrom acc l < (acc + 1) * 10 ^ l.length
  | [], acc, _ => by rw [valFrom_nil, List.length_nil, Nat.pow_zero, Nat.mul_one]; exact Nat.lt_succ_self _
  | c :: r, acc, h => by
    rw [valFrom_cons]
    have hc := isDig_iff.1 (h c (List.mem_cons_self ..))
    have h1 := valFrom_lt r (10 * acc + (c.toNat - 48)) (fun x hx => h x (List.mem_cons_of_mem _ hx))
    refine Nat.lt_of_lt_of_le h1 ?_
    have e : (acc + 1) * 10 ^ (c :: r).length = (10 * (acc + 1)) * 10 ^ r.length := by
      rw [List.length_cons, Nat.pow_succ, Nat.mul_comm (10 ^ r.length) 10, ← Nat.mul_assoc, Nat.mul_comm (acc + 1) 10]
    rw [e]
    exact Nat.mul_le_mul_right _ (by omega)

/-- A text that is a numeral: digits, none ahead that says nothing. -/
def Canon (l : List UInt8) : Prop := l ≠ [] ∧ (∀ c ∈ l, isDig c = true) ∧ (l.length = 1 ∨ l.head? ≠ some 48)
instance (l : List UInt8) : Decidable (Canon l) := by unfold Canon; infer_instance
def parseN (l : List UInt8) : Option Nat := if Canon l ∧ valFrom 0 l < 9223372036854775808 then some (valFrom 0 l) else none
def parseV (l : List UInt8) : Int × Bool := match parseN l with | some n => ((n : Int), true) | none => (0, false)

theorem canon_pos {l : List UInt8} (h : Canon l) (hl : 2 ≤ l.length) : 10 ^ (l.length - 1) ≤ valFrom 0 l := by
  obtain ⟨h0, hd, hh⟩ := h
  cases l with
  | nil => exact absurd rfl h0
  | cons c r =>
    have hc := isDig_iff.1 (hd c (List.mem_cons_self ..))
    have hne : c.toNat ≠ 48 := by
      rcases hh with hh | hh
      · simp at hh hl; subst hh; simp at hl
      · intro e; apply hh; simp; exact UInt8.toNat_inj.1 e
    rw [valFrom_cons]
    have := valFrom_ge r (10 * 0 + (c.toNat - 48))
    simp only [List.length_cons, Nat.add_sub_cancel]
    calc 10 ^ r.length = 1 * 10 ^ r.length := by omega
      _ ≤ (10 * 0 + (c.toNat - 48)) * 10 ^ r.length := Nat.mul_le_mul_right _ (by omega)
      _ ≤ _ := this
theorem ofNat_dig {c : UInt8} (h : isDig c = true) : UInt8.ofNat (48 + (c.toNat - 48)) = c := by
  have := isDig_iff.1 h
  apply UInt8.toNat_inj.1
  rw [UInt8.toNat_ofNat']; omega
theorem dec_canon : ∀ (n : Nat) (l : List UInt8), l.length = n → Canon l → Lib.decDigits (valFrom 0 l) = l := by
  intro n
  induction n with
  | zero => intro l hl h; exact absurd (List.eq_nil_of_length_eq_zero hl) h.1
  | succ n ih =>
    intro l hl h
    rcases List.eq_nil_or_concat l with rfl | ⟨a, c, rfl⟩
    · exact absurd rfl h.1
    rw [List.concat_eq_append] at *
    have hc := h.2.1 c (by simp)
    have hc2 := isDig_iff.1 hc
    rw [valFrom_snoc]
    by_cases ha : a = []
    · subst ha
      have e0 : valFrom 0 [] = 0 := valFrom_nil 0
      rw [e0, Nat.mul_zero, Nat.zero_add, Lib.decDigits_one (by omega), ofNat_dig hc, List.nil_append]
    · have hal : 0 < a.length := List.length_pos_iff.2 ha
      have hhead : a.head? ≠ some 48 := by
        rcases h.2.2 with h1 | h1
        · simp at h1; exact absurd h1 ha
        · intro e; apply h1
          cases a with
          | nil => exact absurd rfl ha
          | cons x r => simpa using e
      have hca : Canon a := ⟨ha, fun x hx => h.2.1 x (by simp [hx]), .inr hhead⟩
      have hpos : 1 ≤ valFrom 0 a := by
        by_cases h2 : 2 ≤ a.length
        · have := canon_pos hca h2
          have : 0 < 10 ^ (a.length - 1) := Nat.pow_pos (by decide)
          omega
        · cases a with
          | nil => exact absurd rfl ha
          | cons x r =>
            have hr : r = [] := List.eq_nil_of_length_eq_zero (by have : (x :: r).length = r.length + 1 := rfl; omega)
            subst hr
            have hx := isDig_iff.1 (hca.2.1 x (by simp))
            have hne : x.toNat ≠ 48 := fun e => hhead (by simp; exact UInt8.toNat_inj.1 e)
            rw [valFrom_cons, valFrom_nil]; omega
      rw [Lib.decDigits, dif_neg (by omega)]
      have e1 : (10 * valFrom 0 a + (c.toNat - 48)) / 10 = valFrom 0 a := by omega
      have e2 : (10 * valFrom 0 a + (c.toNat - 48)) % 10 = c.toNat - 48 := by omega
      rw [e1, e2, ih a (by simp at hl; omega) hca, ofNat_dig hc]
theorem dec_is (u : Nat) : Canon (Lib.decDigits u) ∧ valFrom 0 (Lib.decDigits u) = u ∧ (1 ≤ u → (Lib.decDigits u).head? ≠ some 48) := by
  induction u using Nat.strongRecOn with
  | ind u ih =>
    rw [Lib.decDigits]
    by_cases h : u < 10
    · rw [dif_pos h]
      have e : (UInt8.ofNat (48 + u)).toNat = 48 + u := by rw [UInt8.toNat_ofNat']; omega
      refine ⟨⟨by simp, ?_, .inl rfl⟩, ?_, ?_⟩
      · intro c hc
        obtain rfl : c = UInt8.ofNat (48 + u) := by simpa using hc
        rw [isDig_iff, e]; omega
      · rw [valFrom_cons, valFrom_nil, e]; omega
      · intro h1 h2
        have : UInt8.ofNat (48 + u) = 48 := by simpa using h2
        have := congrArg UInt8.toNat this
        rw [e] at this
        have h48 : (48 : UInt8).toNat = 48 := rfl
        omega
    · rw [dif_neg h]
      obtain ⟨⟨h0, h1, h2⟩, h3, h4⟩ := ih (u / 10) (by omega)
      have e : (UInt8.ofNat (48 + u % 10)).toNat = 48 + u % 10 := by rw [UInt8.toNat_ofNat']; omega
      have hh := h4 (by omega)
      have hh2 : (Lib.decDigits (u / 10) ++ [UInt8.ofNat (48 + u % 10)]).head? ≠ some 48 := by
        cases hd : Lib.decDigits (u / 10) with
        | nil => exact absurd hd h0
        | cons x r => rw [hd] at hh; simpa using hh
      refine ⟨⟨by simp, ?_, .inr hh2⟩, ?_, fun _ => hh2⟩
      · intro c hc
        rcases List.mem_append.1 hc with hc | hc
        · exact h1 c hc
        · obtain rfl : c = UInt8.ofNat (48 + u % 10) := by simpa using hc
          rw [isDig_iff, e]; omega
      · rw [valFrom_snoc, h3, e]; omega
theorem parseN_iff {l : List UInt8} {n : Nat} : parseN l = some n ↔ n < 9223372036854775808 ∧ l = Lib.decDigits n := by
  unfold parseN
  constructor
  · intro h
    split at h
    · rename_i hc
      injection h with h
      subst h
      exact ⟨hc.2, (dec_canon _ l rfl hc.1).symm⟩
    · cases h
  · rintro ⟨h, rfl⟩
    have := dec_is n
    rw [if_pos ⟨this.1, by rw [this.2.1]; exact h⟩, this.2.1]
theorem parseUint_val : ∀ (l : List UInt8) (acc : Nat), (∀ c ∈ l, isDig c = true) → valFrom acc l < 18446744073709551616 → Lib.parseUint10 acc l = .ok (valFrom acc l)
  | [], acc, _, _ => by rw [valFrom_nil]; rfl
  | c :: r, acc, h, hlt => by
    have hc := isDig_iff.1 (h c (List.mem_cons_self ..))
    have hv : valFrom acc (c :: r) = valFrom (10 * acc + (c.toNat - 48)) r := valFrom_cons acc c r
    rw [hv] at hlt
    have h1 := valFrom_ge r (10 * acc + (c.toNat - 48))
    have hp : 0 < 10 ^ r.length := Nat.pow_pos (by decide)
    have h2 : 10 * acc + (c.toNat - 48) ≤ (10 * acc + (c.toNat - 48)) * 10 ^ r.length := Nat.le_mul_of_pos_right _ hp
    unfold Lib.parseUint10
    rw [if_pos hc, if_neg (by omega), if_neg (by omega), Nat.mul_comm acc 10, hv]
    exact parseUint_val r _ (fun x hx => h x (List.mem_cons_of_mem _ hx)) hlt
theorem atoi_dec {n : Nat} (h : n < 9223372036854775808) : Lib.atoiAll (Lib.decDigits n) = .ok (n : Int) := by
  obtain ⟨⟨h0, h1, h2⟩, h3, h4⟩ := dec_is n
  have hp := parseUint_val (Lib.decDigits n) 0 h1 (by rw [h3]; omega)
  rw [h3] at hp
  unfold Lib.atoiAll
  cases hd : Lib.decDigits n with
  | nil => exact absurd hd h0
  | cons c r =>
    have hc := isDig_iff.1 (h1 c (by rw [hd]; exact List.mem_cons_self ..))
    rw [hd] at hp
    dsimp only
    rw [if_neg (show ¬ (c.toNat = 43 ∨ c.toNat = 45) from by omega)]
    unfold Lib.parseMag
    rw [if_neg (by simp), hp]
    dsimp only
    rw [if_neg (by omega), if_neg (by omega), if_neg (by omega)]
theorem atoi_lt {l : List UInt8} {v : Int} (h : Lib.atoiAll l = .ok v) : v < 9223372036854775808 := by
  unfold Lib.atoiAll at h
  split at h
  · cases h
  · rename_i c r
    dsimp only at h
    split at h
    · cases h
    · cases h
    · rename_i u hu
      by_cases hn : c.toNat = 45
      · simp only [hn, not_true_eq_false, false_and, if_false, true_and, if_true] at h
        split at h
        · cases h
        · injection h with h; omega
      · simp only [hn, not_false_eq_true, true_and, false_and, if_false] at h
        split at h
        · cases h
        · injection h with h; omega
/-- What word's Parse makes of it: the number that Atoi says, if it is shown so again. -/
theorem parse_of_atoi (l : List UInt8) : parseV l = (match Lib.atoiAll l with | .ok v => if v < 0 ∨ Lib.itoa v ≠ l then (0, false) else (v, true) | _ => (0, false)) := by
  unfold parseV
  cases hp : parseN l with
  | some n =>
    obtain ⟨hn, rfl⟩ := parseN_iff.1 hp
    rw [atoi_dec hn]
    dsimp only
    rw [if_neg]
    rintro (h | h)
    · omega
    · exact h (Lib.itoa_nonneg n)
  | none =>
    cases ha : Lib.atoiAll l with
    | ok v =>
      dsimp only
      rw [if_pos]
      by_cases h0 : v < 0
      · exact .inl h0
      · refine .inr fun he => ?_
        have hv := atoi_lt ha
        obtain ⟨n, rfl⟩ := Int.eq_ofNat_of_zero_le (show 0 ≤ v by omega)
        have e : Lib.itoa (n : Int) = Lib.decDigits n := Lib.itoa_nonneg n
        have := parseN_iff.2 ⟨show n < 9223372036854775808 by omega, (e.symm.trans he).symm⟩
        rw [hp] at this; cases this
    | _ => rfl
theorem parse_none {l : List UInt8} (h : ¬ Canon l) : parseV l = (0, false) := by
  unfold parseV parseN; rw [if_neg (fun e => h e.1)]
theorem parse_nil : parseV [] = (0, false) := parse_none fun h => h.1 (Eq.refl _)
theorem parse_long {l : List UInt8} (h : 19 < l.length) : parseV l = (0, false) := by
  by_cases hc : Canon l
  · have h1 := canon_pos hc (by omega)
    have h2 : 10 ^ 19 ≤ 10 ^ (l.length - 1) := Nat.pow_le_pow_right (by decide) (by omega)
    have e : (10 : Nat) ^ 19 = 10000000000000000000 := by decide
    unfold parseV parseN; rw [if_neg]
    intro hh; omega
  · exact parse_none hc
theorem parse_zero {l : List UInt8} (h : l.head? = some 48 ∧ 1 < l.length) : parseV l = (0, false) := by
  refine parse_none fun hc => ?_
  rcases hc.2.2 with h1 | h1
  · omega
  · exact h1 h.1
theorem parse_nodig {l : List UInt8} {k : Nat} (hk : k < l.length) (h : ¬ isDig l[k] = true) : parseV l = (0, false) :=
  parse_none fun hc => h (hc.2.1 _ (List.getElem_mem hk))
theorem parse_end {l : List UInt8} (h0 : 0 < l.length) (h2 : ¬ (l.head? = some 48 ∧ 1 < l.length)) (hd : ∀ c ∈ l, isDig c = true) :
    parseV l = if valFrom 0 l < 9223372036854775808 then ((valFrom 0 l : Int), true) else (0, false) := by
  have hc : Canon l := by
    refine ⟨by intro e; rw [e] at h0; exact absurd h0 (by decide), hd, ?_⟩
    by_cases h1 : l.length = 1
    · exact .inl h1
    · exact .inr fun e => h2 ⟨e, by omega⟩
  unfold parseV parseN
  by_cases hv : valFrom 0 l < 9223372036854775808
  · rw [if_pos ⟨hc, hv⟩, if_pos hv]
  · rw [if_neg (fun e => hv e.2), if_neg hv]
end Go.Proofs.YtbpedjkebemhnaaGreatDoor
