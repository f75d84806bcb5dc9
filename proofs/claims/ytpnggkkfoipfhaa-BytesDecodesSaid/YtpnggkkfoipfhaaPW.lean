/- Plain facts on numbers of 64 bits that go round; no program in sight. -/
import Derived.WalkKit
import Derived.OpenShut
set_option linter.unusedVariables false
namespace Go.Proofs.Ytpnggkkfoipfhaa
open Go.RowKit

/-- In the range of an int. -/
def In64 (n : Int) : Prop := -9223372036854775808 ≤ n ∧ n ≤ 9223372036854775807
theorem in64_wrap (n : Int) : In64 (wrap64 n) := by unfold In64 wrap64; omega
theorem in64_wf {n : Int} (h : In64 n) : (Lit.int .i64 n).wf = true := WalkArith.wf_i64 h
theorem wf_in64 {n : Int} (h : (Lit.int .i64 n).wf = true) : In64 n := by
  exact bounds_i64 h

theorem u64_wrap (n : Int) : IntKind.u64.wrap n = n % 18446744073709551616 := by
  simp [IntKind.wrap, IntKind.bits, IntKind.signed]
theorem i64_wrap (n : Int) : IntKind.i64.wrap n = wrap64 n := IntWalk.i64_left n
theorem u64_mod64 (b : Int) : (IntKind.u64.wrap b).tmod 64 = b % 64 := by
  rw [u64_wrap, Int.tmod_eq_emod_of_nonneg (Int.emod_nonneg _ (by decide))]
  omega
theorem wrap64_mod (n : Int) : wrap64 (n % 18446744073709551616) = wrap64 n := by unfold wrap64; omega
theorem wrap64_congr {a b : Int} (h : a % 18446744073709551616 = b % 18446744073709551616) : wrap64 a = wrap64 b := by
  rw [← wrap64_mod a, h, wrap64_mod]
theorem wrap64_emod (n : Int) : wrap64 n % 18446744073709551616 = n % 18446744073709551616 := by unfold wrap64; omega
theorem wrap64_id {n : Int} (h : In64 n) : wrap64 n = n := IntWalk.wrap64_in n h

/-- What Bin is: a number, and an error. -/
def binV (op a b : Int) : Int × Int :=
  if op = 0 then (wrap64 (a + b), 0)
  else if op = 1 then (wrap64 (a - b), 0)
  else if op = 2 then (wrap64 (a * b), 0)
  else if op = 3 then (if b = 0 then (0, 23) else if b = -1 then (wrap64 (-a), 0) else (wrap64 (a.tdiv b), 0))
  else if op = 4 then (if b = 0 then (0, 23) else if b = -1 then (0, 0) else (a.tmod b, 0))
  else if op = 5 then (wrap64 (a * 2 ^ (b % 64).toNat), 0)
  else if op = 6 then (a / 2 ^ (b % 64).toNat, 0)
  else if op = 7 then (bits .and .i64 a b, 0)
  else if op = 8 then (bits .xor .i64 a b, 0)
  else if op = 9 then (if a < b then 1 else 0, 0)
  else if op = 10 then (if a ≤ b then 1 else 0, 0)
  else (0, 1)

theorem in64_bits (op : BinOp) (a b : Int) : In64 (bits op .i64 a b) := by
  have hw : ∀ n, In64 (IntKind.i64.wrap n) := fun n => by rw [i64_wrap]; exact in64_wrap n
  unfold bits
  split <;> first | exact hw _ | (unfold In64; omega)
theorem min_mod64 (b : Int) : min (b % 64).toNat 64 = (b % 64).toNat := by omega
theorem shl_value (a b : Int) : IntKind.i64.wrap (IntKind.u64.wrap (IntKind.u64.wrap a * 2 ^ min (b % 64).toNat 64)) = wrap64 (a * 2 ^ (b % 64).toNat) := by
  rw [min_mod64, i64_wrap, u64_wrap, u64_wrap, wrap64_mod]
  apply wrap64_congr
  rw [Int.mul_emod, Int.emod_emod_of_dvd _ (Int.dvd_refl _), ← Int.mul_emod]
theorem shr_value (a b : Int) : a / 2 ^ min (b % 64).toNat 64 = a / 2 ^ (b % 64).toNat := by rw [min_mod64]
theorem in64_ediv (a : Int) (n : Nat) (h : In64 a) : In64 (a / 2 ^ n) := by
  have hp : (0 : Int) < 2 ^ n := Int.pow_pos (by decide)
  unfold In64 at *
  constructor
  · apply (Int.le_ediv_iff_mul_le hp).2
    have : (-9223372036854775808 : Int) * 2 ^ n ≤ -9223372036854775808 * 1 := Int.mul_le_mul_of_nonpos_left (by decide) (by omega)
    omega
  · by_cases h0 : 0 ≤ a
    · exact Int.le_trans (Int.ediv_le_self _ h0) h.2
    · have : a / 2 ^ n < 0 := Int.ediv_neg_of_neg_of_pos (by omega) hp
      omega
theorem in64_tmod (a b : Int) (h : In64 a) : In64 (a.tmod b) := by
  unfold In64 at *
  have h2 : (a.tmod b).natAbs ≤ a.natAbs := by rw [Int.natAbs_tmod]; exact Nat.mod_le _ _
  by_cases h0 : 0 ≤ a
  · have := Int.tmod_nonneg b h0; omega
  · have : a.tmod b ≤ 0 := by
      have := Int.tmod_nonneg (a := -a) b (by omega)
      rw [Int.neg_tmod] at this; omega
    omega
theorem in64_binV (op a b : Int) (ha : In64 a) (hb : In64 b) : In64 (binV op a b).1 := by
  have h1 := in64_wrap
  have z : In64 0 := by unfold In64; omega
  have o : In64 1 := by unfold In64; omega
  have ht := in64_tmod a b ha
  have hs := in64_ediv a (b % 64).toNat ha
  have hb1 := in64_bits .and a b
  have hb2 := in64_bits .xor a b
  clear ha hb
  have key : ∀ {c : Prop} [Decidable c] {x y : Int × Int}, In64 x.1 → In64 y.1 → In64 (if c then x else y).1 := by
    intro c _ x y hx hy; by_cases hc : c
    · rw [if_pos hc]; exact hx
    · rw [if_neg hc]; exact hy
  have key1 : ∀ {c : Prop} [Decidable c], In64 (if c then (1 : Int) else 0) := by
    intro c _; by_cases hc : c
    · rw [if_pos hc]; exact o
    · rw [if_neg hc]; exact z
  unfold binV
  refine key (h1 _) (key (h1 _) (key (h1 _) (key (key z (key (h1 _) (h1 _))) (key (key z (key z ht)) (key (h1 _) (key hs (key hb1 (key hb2 (key key1 (key key1 z))))))))))
theorem and_low (b : Int) (n : Nat) (h : n < 64) (m : Int) (hm : m = 2 ^ n - 1) : bits .and .i64 b m = b % 2 ^ n := by
  have hp : (2 : Nat) ^ n ≤ 2 ^ 63 := Nat.pow_le_pow_right (by decide) (by omega)
  have hp1 : 0 < (2 : Nat) ^ n := Nat.pow_pos (by decide)
  have e : m = ((2 ^ n - 1 : Nat) : Int) := by subst hm; push_cast [Int.natCast_sub hp1]; rfl
  have hd : ((2 : Int) ^ n) ∣ 18446744073709551616 := by
    refine ⟨2 ^ (64 - n), ?_⟩
    rw [← Int.pow_add]
    rw [show n + (64 - n) = 64 from by omega]; rfl
  show IntKind.i64.wrap ((BitVec.ofInt 64 b &&& BitVec.ofInt 64 m).toNat : Int) = b % 2 ^ n
  subst e
  rw [BitVec.toNat_and, BitVec.toNat_ofInt, BitVec.toNat_ofInt]
  have e2 : (((2 ^ n - 1 : Nat) : Int) % (2 ^ 64 : Nat)).toNat = 2 ^ n - 1 := by
    omega
  rw [e2, Nat.and_two_pow_sub_one_eq_mod]
  have e3 : (((b % (2 ^ 64 : Nat)).toNat % 2 ^ n : Nat) : Int) = b % 2 ^ n := by
    have hb : 0 ≤ b % (2 ^ 64 : Nat) := Int.emod_nonneg _ (by decide)
    rw [Int.natCast_emod, Int.toNat_of_nonneg hb, Int.natCast_pow 2 n]
    exact Int.emod_emod_of_dvd b hd
  rw [e3, i64_wrap]
  apply wrap64_id
  have h0 : 0 ≤ b % 2 ^ n := Int.emod_nonneg _ (by have : (0:Int) < 2 ^ n := Int.pow_pos (by decide); omega)
  have h1 : b % 2 ^ n < 2 ^ n := Int.emod_lt_of_pos _ (Int.pow_pos (by decide))
  have h2 : (2 : Int) ^ n ≤ 2 ^ 63 := by exact_mod_cast hp
  unfold In64; omega
theorem and63 (b : Int) : bits .and .i64 b 63 = b % 64 := and_low b 6 (by decide) 63 (by decide)
theorem xor_u64 (a b : Nat) (ha : a < 2 ^ 64) (hb : b < 2 ^ 64) : bits .xor .u64 (a : Int) (b : Int) = ((a ^^^ b : Nat) : Int) := by
  have hx : a ^^^ b < 2 ^ 64 := Nat.xor_lt_two_pow ha hb
  show IntKind.u64.wrap ((BitVec.ofInt 64 (a : Int) ^^^ BitVec.ofInt 64 (b : Int)).toNat : Int) = _
  rw [BitVec.toNat_xor, BitVec.ofInt_natCast, BitVec.ofInt_natCast, BitVec.toNat_ofNat, BitVec.toNat_ofNat, Nat.mod_eq_of_lt ha, Nat.mod_eq_of_lt hb, u64_wrap]
  omega
/-- The number in zigzag. -/
def zz (n : Int) : Nat := if n < 0 then (-2 * n - 1).toNat else (2 * n).toNat
theorem zz_lt {n : Int} (h : In64 n) : zz n < 18446744073709551616 := by
  unfold zz; unfold In64 at h; split <;> omega
theorem xor_ones (a : Nat) (ha : a < 2 ^ 64) : a ^^^ (2 ^ 64 - 1) = 2 ^ 64 - 1 - a := by
  have h := BitVec.xor_allOnes (x := BitVec.ofNat 64 a)
  have h2 := congrArg BitVec.toNat h
  rw [BitVec.toNat_xor, BitVec.toNat_not, BitVec.toNat_ofNat, Nat.mod_eq_of_lt ha, BitVec.toNat_allOnes] at h2
  exact h2
theorem zz_put {n : Int} (h : In64 n) : bits .xor .u64 (IntKind.u64.wrap (IntKind.u64.wrap n * 2)) (IntKind.u64.wrap (n / 9223372036854775808)) = (zz n : Int) := by
  unfold In64 at h
  by_cases h0 : n < 0
  · have e1 : IntKind.u64.wrap (IntKind.u64.wrap n * 2) = ((2 * n + 18446744073709551616).toNat : Int) := by rw [u64_wrap, u64_wrap]; omega
    have e2 : IntKind.u64.wrap (n / 9223372036854775808) = ((2 ^ 64 - 1 : Nat) : Int) := by rw [u64_wrap]; omega
    rw [e1, e2, xor_u64 _ _ (by omega) (by omega), xor_ones _ (by omega)]
    unfold zz; rw [if_pos h0]; omega
  · have e1 : IntKind.u64.wrap (IntKind.u64.wrap n * 2) = ((2 * n).toNat : Int) := by rw [u64_wrap, u64_wrap]; omega
    have e2 : IntKind.u64.wrap (n / 9223372036854775808) = ((0 : Nat) : Int) := by rw [u64_wrap]; omega
    rw [e1, e2, xor_u64 _ _ (by omega) (by omega), Nat.xor_zero]
    unfold zz; rw [if_neg h0]
theorem zz_ref_neg {n : Int} (h : In64 n) (h0 : n < 0) : IntKind.u64.wrap (IntKind.u64.wrap (IntKind.u64.wrap (wrap64 (-1 - n)) * 2) + 1) = (zz n : Int) := by
  unfold In64 at h; unfold zz wrap64; rw [if_pos h0, u64_wrap, u64_wrap, u64_wrap]; omega
theorem zz_ref_pos {n : Int} (h : In64 n) (h0 : 0 ≤ n) : IntKind.u64.wrap (IntKind.u64.wrap n * 2) = (zz n : Int) := by
  unfold In64 at h; unfold zz; rw [if_neg (by omega), u64_wrap, u64_wrap]; omega
/-- What the groups of a number bear. -/
def Fits (f u : Nat) : Prop := u < 18446744073709551616 ∧ u < 128 ^ (f + 1)
/-- The groups of a number: at most f + 1. -/
def grp : Nat → Nat → List UInt8
  | 0, u => [UInt8.ofNat u]
  | f + 1, u => if u < 128 then [UInt8.ofNat u] else UInt8.ofNat (u % 128 + 128) :: grp f (u / 128)
def putL (n : Int) : List UInt8 := grp 9 (zz n)
theorem grp_low {f u : Nat} (h : u < 128) : grp f u = [UInt8.ofNat u] := by
  cases f with
  | zero => rfl
  | succ f => unfold grp; rw [if_pos h]
theorem grp_high {f u : Nat} (h : ¬ u < 128) : grp (f + 1) u = UInt8.ofNat (u % 128 + 128) :: grp f (u / 128) := by
  conv => lhs; unfold grp
  rw [if_neg h]
theorem Fits.pos {f u : Nat} (h : Fits f u) (hu : ¬ u < 128) : ∃ g, f = g + 1 := by
  cases f with
  | zero => exact absurd h.2 (by omega)
  | succ g => exact ⟨g, rfl⟩
theorem Fits.next {f u : Nat} (h : Fits (f + 1) u) : Fits f (u / 128) := by
  obtain ⟨h1, h2⟩ := h
  refine ⟨by omega, ?_⟩
  rw [Nat.pow_succ] at h2
  exact (Nat.div_lt_iff_lt_mul (by decide)).2 h2
theorem grp_length : ∀ (f u : Nat), 1 ≤ (grp f u).length ∧ (grp f u).length ≤ f + 1
  | 0, u => by simp [grp]
  | f + 1, u => by
    unfold grp
    split
    · simp
    · have := grp_length f (u / 128)
      simp only [List.length_cons]; omega
theorem or128 (u : Nat) (hu : u < 256) : bits .or .u8 (u : Int) 128 = ((u % 128 + 128 : Nat) : Int) := by
  have hx : ∀ u : Fin 256, (u.val ||| 128) = u.val % 128 + 128 := by decide +kernel
  have h1 := hx ⟨u, hu⟩
  show IntKind.u8.wrap ((BitVec.ofInt 8 (u : Int) ||| BitVec.ofInt 8 128).toNat : Int) = _
  have e : BitVec.ofInt 8 (128 : Int) = BitVec.ofNat 8 128 := rfl
  rw [BitVec.toNat_or, BitVec.ofInt_natCast, e, BitVec.toNat_ofNat, BitVec.toNat_ofNat, Nat.mod_eq_of_lt (by omega)]
  simp only [Nat.reduceMod, Nat.reducePow] at *
  rw [h1]
  simp only [IntKind.wrap, IntKind.bits, IntKind.signed]
  simp
  omega
/-- What Get reads: the groups from place i on, u so far: the number in zigzag, and how many bytes. -/
def getGo : Nat → Nat → List UInt8 → Option (Nat × Nat)
  | _, _, [] => none
  | i, u, c :: r =>
    if 10 ≤ i then none
    else if i = 9 ∧ 1 < c.toNat then none
    else if c.toNat < 128 then (if c.toNat = 0 ∧ 0 < i then none else some (u + c.toNat % 128 * 128 ^ i, i + 1))
    else getGo (i + 1) (u + c.toNat % 128 * 128 ^ i) r
def uz (u : Nat) : Int := if u % 2 = 0 then (u / 2 : Nat) else -1 - (u / 2 : Nat)
def getV (l : List UInt8) : Int × Int :=
  match getGo 0 0 l with
  | none => (0, 0)
  | some (u, k) => (uz u, k)
theorem or_u64 (a b : Nat) (ha : a < 2 ^ 64) (hb : b < 2 ^ 64) : bits .or .u64 (a : Int) (b : Int) = ((a ||| b : Nat) : Int) := by
  have hx : a ||| b < 2 ^ 64 := Nat.or_lt_two_pow ha hb
  show IntKind.u64.wrap ((BitVec.ofInt 64 (a : Int) ||| BitVec.ofInt 64 (b : Int)).toNat : Int) = _
  rw [BitVec.toNat_or, BitVec.ofInt_natCast, BitVec.ofInt_natCast, BitVec.toNat_ofNat, BitVec.toNat_ofNat, Nat.mod_eq_of_lt ha, Nat.mod_eq_of_lt hb, u64_wrap]
  omega
theorem and_u64 (a b : Nat) (ha : a < 2 ^ 64) (hb : b < 2 ^ 64) : bits .and .u64 (a : Int) (b : Int) = ((a &&& b : Nat) : Int) := by
  have hx : a &&& b < 2 ^ 64 := Nat.and_lt_two_pow a hb
  show IntKind.u64.wrap ((BitVec.ofInt 64 (a : Int) &&& BitVec.ofInt 64 (b : Int)).toNat : Int) = _
  rw [BitVec.toNat_and, BitVec.ofInt_natCast, BitVec.ofInt_natCast, BitVec.toNat_ofNat, BitVec.toNat_ofNat, Nat.mod_eq_of_lt ha, Nat.mod_eq_of_lt hb, u64_wrap]
  omega
theorem pow128 (k : Nat) : 128 ^ k = 2 ^ (7 * k) := by rw [Nat.pow_mul]
/-- A group's bits fit. -/
def GrpFits (u x k : Nat) : Prop := u < 128 ^ k ∧ x < 128 ∧ (k ≤ 8 ∨ k = 9 ∧ x ≤ 1)
theorem GrpFits.lt {u x k : Nat} (h : GrpFits u x k) : u + x * 128 ^ k < 18446744073709551616 ∧ u + x * 128 ^ k < 128 ^ (k + 1) := by
  obtain ⟨h1, h2, h3⟩ := h
  have hk : u + x * 128 ^ k < (x + 1) * 128 ^ k := by rw [Nat.add_mul]; omega
  refine ⟨?_, ?_⟩
  · rcases h3 with h3 | ⟨rfl, h3⟩
    · have : (x + 1) * 128 ^ k ≤ 128 * 128 ^ 8 := Nat.mul_le_mul (by omega) (Nat.pow_le_pow_right (by decide) h3)
      have e : 128 * 128 ^ 8 < 18446744073709551616 := by decide
      omega
    · have : (x + 1) * 128 ^ 9 ≤ 2 * 128 ^ 9 := Nat.mul_le_mul (by omega) (Nat.le_refl _)
      have e : 2 * 128 ^ 9 = 18446744073709551616 := by decide
      omega
  · rw [Nat.pow_succ]
    have : (x + 1) * 128 ^ k ≤ 128 * 128 ^ k := Nat.mul_le_mul (by omega) (Nat.le_refl _)
    omega
theorem grp_or {u x k : Nat} (h : GrpFits u x k) : bits .or .u64 (u : Int) (IntKind.u64.wrap ((x : Int) * 2 ^ (7 * k))) = ((u + x * 128 ^ k : Nat) : Int) := by
  have hl := h.lt.1
  have e : IntKind.u64.wrap ((x : Int) * 2 ^ (7 * k)) = ((x * 128 ^ k : Nat) : Int) := by
    have e1 : (x : Int) * 2 ^ (7 * k) = ((x * 128 ^ k : Nat) : Int) := by rw [pow128, Int.natCast_mul, Int.natCast_pow]; rfl
    rw [e1, u64_wrap]; omega
  rw [e, or_u64 _ _ (by omega) (by omega)]
  congr 1
  have hu := h.1
  rw [pow128] at hu ⊢
  rw [Nat.or_comm, Nat.add_comm, Nat.mul_comm]
  exact (Nat.two_pow_add_eq_or_of_lt hu x).symm
theorem uz_eq {u : Nat} (hu : u < 18446744073709551616) : bits .xor .i64 (wrap64 ((u : Int) / 2)) (wrap64 (-wrap64 (bits .and .u64 (u : Int) 1))) = uz u := by
  have e1 : bits .and .u64 (u : Int) 1 = ((u % 2 : Nat) : Int) := by
    have h := and_u64 u 1 hu (by decide)
    rw [Nat.and_one_is_mod] at h
    exact h
  have e2 : wrap64 ((u : Int) / 2) = ((u / 2 : Nat) : Int) := by unfold wrap64; omega
  rw [e1, e2]
  have hx : (u / 2) ^^^ (2 ^ 64 - 1) = 2 ^ 64 - 1 - u / 2 := xor_ones _ (by omega)
  rcases Nat.mod_two_eq_zero_or_one u with h | h
  · rw [h]
    have e3 : wrap64 (-wrap64 ((0 : Nat) : Int)) = ((0 : Nat) : Int) := by unfold wrap64; omega
    rw [e3]
    show IntKind.i64.wrap ((BitVec.ofInt 64 ((u / 2 : Nat) : Int) ^^^ BitVec.ofInt 64 ((0 : Nat) : Int)).toNat : Int) = _
    rw [BitVec.toNat_xor, BitVec.ofInt_natCast, BitVec.ofInt_natCast, BitVec.toNat_ofNat, BitVec.toNat_ofNat, Nat.mod_eq_of_lt (by omega : u / 2 < 2 ^ 64), Nat.zero_mod, Nat.xor_zero, i64_wrap]
    unfold uz wrap64; rw [if_pos h]; omega
  · rw [h]
    have e3 : wrap64 (-wrap64 ((1 : Nat) : Int)) = -1 := by unfold wrap64; omega
    rw [e3]
    have e4 : BitVec.ofInt 64 (-1) = BitVec.ofNat 64 (2 ^ 64 - 1) := by decide
    show IntKind.i64.wrap ((BitVec.ofInt 64 ((u / 2 : Nat) : Int) ^^^ BitVec.ofInt 64 (-1)).toNat : Int) = _
    rw [e4, BitVec.toNat_xor, BitVec.ofInt_natCast, BitVec.toNat_ofNat, BitVec.toNat_ofNat, Nat.mod_eq_of_lt (by omega : u / 2 < 2 ^ 64), Nat.mod_eq_of_lt (by decide : 2 ^ 64 - 1 < 2 ^ 64), hx, i64_wrap]
    unfold uz wrap64; rw [if_neg (by omega)]; omega

section
variable {l : List UInt8} {k u x : Nat}
theorem get_end1 (h : getGo 0 0 l = getGo k u (l.drop k)) (hk : k < l.length) (hx : l[k].toNat = x) (h9 : k = 9) (h1 : 1 < x) : getV l = (0, 0) := by
  subst hx
  rw [List.drop_eq_getElem_cons hk] at h
  unfold getV; rw [h]; unfold getGo
  rw [if_neg (by omega), if_pos ⟨h9, h1⟩]
theorem get_end2 (h : getGo 0 0 l = getGo k u (l.drop k)) (hk : k < l.length) (hx : l[k].toNat = x) (h9 : k < 10) (h1 : x = 0) (h0 : 0 < k) : getV l = (0, 0) := by
  subst hx
  rw [List.drop_eq_getElem_cons hk] at h
  unfold getV; rw [h]; unfold getGo
  rw [if_neg (by omega), if_neg (by omega), if_pos (by omega), if_pos ⟨h1, h0⟩]
theorem get_end3 (h : getGo 0 0 l = getGo k u (l.drop k)) (hk : k < l.length) (hx : l[k].toNat = x) (h9 : k < 10) (hn : ¬ (k = 9 ∧ 1 < x)) (h1 : x < 128) (h0 : ¬ (x = 0 ∧ 0 < k)) : getV l = (uz (u + x % 128 * 128 ^ k), ((k + 1 : Nat) : Int)) := by
  subst hx
  rw [List.drop_eq_getElem_cons hk] at h
  unfold getV; rw [h]; unfold getGo
  rw [if_neg (by omega), if_neg hn, if_pos h1, if_neg h0]
theorem get_next (h : getGo 0 0 l = getGo k u (l.drop k)) (hk : k < l.length) (hx : l[k].toNat = x) (h9 : k < 9) (h1 : ¬ x < 128) : getGo 0 0 l = getGo (k + 1) (u + x % 128 * 128 ^ k) (l.drop (k + 1)) := by
  subst hx
  rw [List.drop_eq_getElem_cons hk] at h
  rw [h]
  conv => lhs; unfold getGo
  rw [if_neg (by omega), if_neg (by omega), if_neg h1]
theorem get_out (h : getGo 0 0 l = getGo k u (l.drop k)) (hk : k = l.length ∨ 10 ≤ k) : getV l = (0, 0) := by
  unfold getV; rw [h]
  cases hd : l.drop k with
  | nil => simp [getGo]
  | cons c r =>
    have hlt : k < l.length := by
      rcases Nat.lt_or_ge k l.length with h | h
      · exact h
      · rw [List.drop_eq_nil_of_le h] at hd; cases hd
    unfold getGo
    rw [if_pos (by omega)]
end
end Go.Proofs.Ytpnggkkfoipfhaa
