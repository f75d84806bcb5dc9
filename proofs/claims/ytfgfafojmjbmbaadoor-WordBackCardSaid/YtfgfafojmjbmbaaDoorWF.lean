/- The contracts of both Fits. -/
import Derived.Test.YtfgfafojmjbmbaaDoorWA
import Derived.Test.YtfgfafojmjbmbaaDoorM
set_option linter.unusedVariables false
namespace Go.Proofs.YtfgfafojmjbmbaaDoor
open Go.RowKit

def fitV (n b : Int) : Int := if b < 1 ∨ 64 < b then 0 else wrap64 (n * 2 ^ (64 - b).toNat) / 2 ^ (64 - b).toNat
theorem in64_fitV (n b : Int) : In64 (fitV n b) := by
  unfold fitV
  split
  · unfold In64; omega
  · exact in64_ediv _ _ (in64_wrap _)
theorem fit8 (n : Int) : IntKind.i8.wrap n = fitV n 8 := by
  have e : fitV n 8 = wrap64 (n * 72057594037927936) / 72057594037927936 := by
    unfold fitV; rw [if_neg (by omega)]; rfl
  rw [e]
  unfold wrap64
  simp only [IntKind.wrap, IntKind.bits, IntKind.signed, Bool.true_and, decide_eq_true_eq, ge_iff_le, Int.reducePow, Nat.reduceSub]
  split <;> omega
theorem fit16 (n : Int) : IntKind.i16.wrap n = fitV n 16 := by
  have e : fitV n 16 = wrap64 (n * 281474976710656) / 281474976710656 := by
    unfold fitV; rw [if_neg (by omega)]; rfl
  rw [e]
  unfold wrap64
  simp only [IntKind.wrap, IntKind.bits, IntKind.signed, Bool.true_and, decide_eq_true_eq, ge_iff_le, Int.reducePow, Nat.reduceSub]
  split <;> omega
theorem fit32 (n : Int) : IntKind.i32.wrap n = fitV n 32 := by
  have e : fitV n 32 = wrap64 (n * 4294967296) / 4294967296 := by
    unfold fitV; rw [if_neg (by omega)]; rfl
  rw [e]
  unfold wrap64
  simp only [IntKind.wrap, IntKind.bits, IntKind.signed, Bool.true_and, decide_eq_true_eq, ge_iff_le, Int.reducePow, Nat.reduceSub]
  split <;> omega

set_option maxHeartbeats 400000 in
theorem fit_any (n b : Int) (w : World) (hn : In64 n) :
    Calls Tryd.prog 21 #[.int .i64 n, .int .i64 b] w fun e w' => e = .returned (.int .i64 (fitV n b)) ∧ w = w' := by
  have h8 := fit8 n
  have h16 := fit16 n
  have h32 := fit32 n
  by_cases hb : b < 1 ∨ 64 < b
  · have hv : fitV n b = 0 := by unfold fitV; rw [if_pos hb]
    rw [hv]
    clear hv
    have hb8 : (b == 8) = false := by simp; omega
    have hb16 : (b == 16) = false := by simp; omega
    have hb32 : (b == 32) = false := by simp; omega
    rcases hb with hb | hb
    all_goals
      go_enter Tryd.func21, Tryd.ntmps21
      go_wp2
      go_ret
      exact ⟨rfl, rfl⟩
  · have hb1 : 1 ≤ b := by omega
    have hb2 : b ≤ 64 := by omega
    by_cases e8 : b = 8
    · subst e8
      go_enter Tryd.func21, Tryd.ntmps21
      go_wp2
      go_ret
      exact ⟨ret_int1 (by exact wrap64_id (in64_fitV _ _)), rfl⟩
    by_cases e16 : b = 16
    · subst e16
      go_enter Tryd.func21, Tryd.ntmps21
      go_wp2
      go_ret
      exact ⟨ret_int1 (by exact wrap64_id (in64_fitV _ _)), rfl⟩
    by_cases e32 : b = 32
    · subst e32
      go_enter Tryd.func21, Tryd.ntmps21
      go_wp2
      go_ret
      exact ⟨ret_int1 (by exact wrap64_id (in64_fitV _ _)), rfl⟩
    have hb8 : (b == 8) = false := by simp; omega
    have hb16 : (b == 16) = false := by simp; omega
    have hb32 : (b == 32) = false := by simp; omega
    have hv : fitV n b = wrap64 (n * 2 ^ (64 - b).toNat) / 2 ^ (64 - b).toNat := by unfold fitV; rw [if_neg hb]
    have HV := hid hv
    clear h8 h16 h32 e8 e16 e32 hb hv
    go_enter Tryd.func21, Tryd.ntmps21
    go_wp2
    go_ret
    exact ⟨ret_int1 (by rw [HV.out]), rfl⟩

set_option maxHeartbeats 400000 in
theorem reffit_any (n b : Int) (w : World) (hn : In64 n) :
    Calls Tryd.prog 22 #[.int .i64 n, .int .i64 b] w fun e w' => e = .returned (.int .i64 (fitV n b)) ∧ w = w' := by
  by_cases hb : b < 1 ∨ 64 < b
  · have hv : fitV n b = 0 := by unfold fitV; rw [if_pos hb]
    rw [hv]
    clear hv
    rcases hb with hb | hb
    all_goals
      go_enter Tryd.func22, Tryd.ntmps22
      go_wp2
      go_ret
      exact ⟨rfl, rfl⟩
  · have hb1 : 1 ≤ b := by omega
    have hb2 : b ≤ 64 := by omega
    have hv : fitV n b = wrap64 (n * 2 ^ (64 - b).toNat) / 2 ^ (64 - b).toNat := by unfold fitV; rw [if_neg hb]
    have HV := hid hv
    have hk : IntKind.u64.wrap (64 - b) = 64 - b := by rw [u64_wrap]; omega
    clear hb hv
    go_enter Tryd.func22, Tryd.ntmps22
    go_wp2
    go_ret
    exact ⟨ret_int1 (by rw [HV.out]), rfl⟩
end Go.Proofs.YtfgfafojmjbmbaaDoor
