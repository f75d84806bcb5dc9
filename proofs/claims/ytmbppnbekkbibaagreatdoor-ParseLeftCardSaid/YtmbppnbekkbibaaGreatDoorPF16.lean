/- UR, RD, HP, HO -/
import Derived.Test.YtmbppnbekkbibaaGreatDoorPF15
set_option linter.unusedSimpArgs false
set_option linter.unusedVariables false
/- The reference's small functions: Ops, op, names, str. -/
set_option linter.unusedVariables false
namespace Go.Proofs.YtmbppnbekkbibaaGreatDoor
open Go.RowKit

theorem sv_append (a b : List UInt8) : Value.string ((⟨a.toArray⟩ : ByteArray) ++ ⟨b.toArray⟩) = sv (a ++ b) := by rw [str_append]
theorem wf_in64 {n : Int} (h : (Lit.int .i64 n).wf = true) : In64 n := by
  exact bounds_i64 h
set_option maxRecDepth 100000 in
theorem rops_any (w : World) : Calls Tryz.prog 30 #[] w fun e w' => ∃ v, e = .returned v ∧ Ss w' w'.heap.size v opsL ∧ Below w.heap.size w w' := by
  have hss : Ss (w.alloc (.cells (svs opsL).toArray 9)) (w.alloc (.cells (svs opsL).toArray 9)).heap.size (.slice (some ⟨w.heap.size, 0, none⟩) 15 15) opsL := by
    have := sl_new w (svs opsL).toArray 9 1 15 (by simp [svs_length]; rfl) (by decide)
    rw [World.size_alloc]
    simpa [Ss] using this
  have hb : Below w.heap.size w (w.alloc (.cells (svs opsL).toArray 9)) := (Below.refl _ _).alloc (Nat.le_refl _) _
  go_enter Tryz.func30, Tryz.ntmps30
  go_wp2_with fail
  go_ret
  exact ⟨_, rfl, hss, hb⟩
end Go.Proofs.YtmbppnbekkbibaaGreatDoor
/- Operations of one rank, of two ranks: each pair tried, in plain Lean. -/
set_option linter.unusedVariables false
namespace Go.Proofs.YtmbppnbekkbibaaGreatDoor

def leftT (i k : Nat) : Bt := [120, 32] ++ (opsL.getD i [] ++ ([32, 121, 32] ++ (opsL.getD k [] ++ [32, 122])))
def rankL : List Nat := [0, 1, 2, 2, 2, 3, 4, 4, 4, 5, 5, 5, 5, 5, 5]
def leftS (i k : Nat) : Bt := if rankL.getD i 0 < rankL.getD k 0 then [40, 120, 32] ++ (opsL.getD i [] ++ ([32, 40, 121, 32] ++ (opsL.getD k [] ++ [32, 122, 41, 41]))) else [40, 40, 120, 32] ++ (opsL.getD i [] ++ ([32, 121, 41, 32] ++ (opsL.getD k [] ++ [32, 122, 41])))
def leftB (i k : Nat) : Bool := match wholeP (levP 100).expr (leftT i k) with
  | (none, d) => rankL.getD i 0 == 2 && rankL.getD k 0 == 2 && d.2.2 == 7
  | (some a, d) => !(rankL.getD i 0 == 2 && rankL.getD k 0 == 2) && d == (0, 0, 0) && exprT a == leftS i k
theorem left_law : ∀ i, i < 15 → ∀ k, k < 15 → leftB i k = true := by decide +kernel
end Go.Proofs.YtmbppnbekkbibaaGreatDoor
/- What ParseLeft reads: small expressions; each pair tried. Regions whose end is met once. -/
set_option linter.unusedVariables false
namespace Go.Proofs.YtmbppnbekkbibaaGreatDoor
open Go.RowKit

/-- A region that draws: what holds at its end, whatever the order was, is met once. -/
theorem region_tail {P : Program} {Q : Exit → Act → World → Prop} {id : Nat} {ops : Array Oper} {a : Act} {w : World} (T : Act → World → Prop) (hT : ∀ a w, T a w → Q .normal a w)
    (h : (Code.region id ops true).wp P (fun e a w => match e with | .normal => T a w | e => Q e a w) a w) : (Code.region id ops true).wp P Q a w :=
  Code.wp_mono (fun e a w hq => by cases e with | normal => exact hT _ _ hq | _ => exact hq) h
def two (p : NoD → Bool) : List NoD → Bool
  | [a, b] => p a && p b
  | _ => false
theorem two_ok {p : NoD → Bool} : ∀ {l : List NoD}, two p l = true → ∃ a b, l = [a, b] ∧ p a = true ∧ p b = true
  | [], h => by cases h
  | [_], h => by cases h
  | [a, b], h => by
    have h : (p a && p b) = true := h
    rw [Bool.and_eq_true] at h
    exact ⟨a, b, rfl, h.1, h.2⟩
  | _ :: _ :: _ :: _, h => by cases h
def smB : Nat → NoD → Bool
  | 0, _ => false
  | f + 1, .mk k t n l c ts ns ks => decide (t.length ≤ 100) && decide (n = 0) && decide (0 ≤ l ∧ l ≤ 1000) && decide (0 ≤ c ∧ c ≤ 1000) && ts.isEmpty && ns.isEmpty &&
      (if k = 4 then ks.isEmpty else decide (k = 14) && two (smB f) ks)
theorem smB_ok : ∀ (f : Nat) {x : NoD}, smB f x = true → SmN x ∧ okN x ∧ cntN x + 1 ≤ 2 ^ f
  | 0, x, h => by cases h
  | f + 1, .mk k t n l c ts ns ks, h => by
    rw [smB] at h
    simp only [Bool.and_eq_true, decide_eq_true_eq, List.isEmpty_iff] at h
    obtain ⟨⟨⟨⟨⟨⟨h1, rfl⟩, h3⟩, h4⟩, rfl⟩, rfl⟩, h7⟩ := h
    by_cases h8 : k = 4
    · rw [if_pos h8, List.isEmpty_iff] at h7
      subst h8 h7
      refine ⟨.name rfl, ?_, ?_⟩
      · simp only [okN, okNs]
        refine ⟨by unfold In64; omega, by unfold maxLen; omega, by unfold In64; omega, by unfold In64; omega, by unfold In64; omega, by simp, by simp, trivial⟩
      · simp only [cntN, cntNs, cntTs]
        have : 0 < 2 ^ f := Nat.two_pow_pos f
        rw [Nat.pow_succ]
        omega
    · rw [if_neg h8] at h7
      simp only [Bool.and_eq_true, decide_eq_true_eq] at h7
      obtain ⟨rfl, h9⟩ := h7
      obtain ⟨a, b, rfl, ha, hb⟩ := two_ok h9
      obtain ⟨a1, a2, a3⟩ := smB_ok f ha
      obtain ⟨b1, b2, b3⟩ := smB_ok f hb
      refine ⟨.op a1 b1, ?_, ?_⟩
      · simp only [okN, okNs]
        refine ⟨by unfold In64; omega, by unfold maxLen; omega, by unfold In64; omega, by unfold In64; omega, by unfold In64; omega, by simp, by simp, a2, b2, trivial⟩
      · simp only [cntN, cntNs, cntTs]
        rw [Nat.pow_succ]
        omega
theorem left_small : ∀ i, i < 15 → ∀ k, k < 15 → (match (wholeP (levP 100).expr (leftT i k)).1 with | some a => smB 3 a | none => true) = true := by decide +kernel
end Go.Proofs.YtmbppnbekkbibaaGreatDoor
/- The law ParseLeft walked. -/
set_option linter.unusedVariables false
namespace Go.Proofs.YtmbppnbekkbibaaGreatDoor
open Go.RowKit

theorem ranks_row : ∀ j, j < 15 → ((#[.int .i64 0, .int .i64 1, .int .i64 2, .int .i64 2, .int .i64 2, .int .i64 3, .int .i64 4, .int .i64 4, .int .i64 4, .int .i64 5, .int .i64 5, .int .i64 5, .int .i64 5, .int .i64 5, .int .i64 5] : Array Value)[j]?) = some (.int .i64 (rankL.getD j 0 : Nat))
  | 0, _ => rfl
  | 1, _ => rfl
  | 2, _ => rfl
  | 3, _ => rfl
  | 4, _ => rfl
  | 5, _ => rfl
  | 6, _ => rfl
  | 7, _ => rfl
  | 8, _ => rfl
  | 9, _ => rfl
  | 10, _ => rfl
  | 11, _ => rfl
  | 12, _ => rfl
  | 13, _ => rfl
  | 14, _ => rfl
  | n + 15, h => absurd h (by omega)
theorem ops_short : ∀ j, j < 15 → (opsL.getD j []).length ≤ 3 := by decide
theorem fin_world {w V : World} {ba bd : Nat} {X : NoD} {a0 a1 a2 a3 a4 a5 a6 a7 d0 d1 d2 d3 v0 v1 v2 v3 v4 v5 v6 v7 e0 e1 e2 e3 : Value} {t s : TypeId} (hB : Below w.heap.size w V)
    (h1 : V.heap[ba]? = some (.cells #[a0, a1, a2, a3, a4, a5, a6, a7] t (0, 0))) (h2 : V.heap[bd]? = some (.cells #[d0, d1, d2, d3] s (0, 0))) (hne : ba ≠ bd) (hba : w.heap.size ≤ ba) (hbd : w.heap.size ≤ bd)
    (hn : NoG V (fun j => j ≠ ba ∧ j ≠ bd) [v0, v1, v2, v3, v4, v5, v6, v7] X) :
    Below w.heap.size w (put4 (put8 V ba v0 v1 v2 v3 v4 v5 v6 v7) bd e0 e1 e2 e3) ∧ (put4 (put8 V ba v0 v1 v2 v3 v4 v5 v6 v7) bd e0 e1 e2 e3).heap[ba]? = some (.cells #[v0, v1, v2, v3, v4, v5, v6, v7] t (0, 0)) ∧
      (put4 (put8 V ba v0 v1 v2 v3 v4 v5 v6 v7) bd e0 e1 e2 e3).heap[bd]? = some (.cells #[e0, e1, e2, e3] s (0, 0)) ∧ NoR (put4 (put8 V ba v0 v1 v2 v3 v4 v5 v6 v7) bd e0 e1 e2 e3) (put4 (put8 V ba v0 v1 v2 v3 v4 v5 v6 v7) bd e0 e1 e2 e3).heap.size [v0, v1, v2, v3, v4, v5, v6, v7] X := by
  have t1 := put8_turn V ba v0 v1 v2 v3 v4 v5 v6 v7
  have t2 := put4_turn (put8 V ba v0 v1 v2 v3 v4 v5 v6 v7) bd e0 e1 e2 e3
  have tt := (t1.mono (G := fun k => k = ba ∨ k = bd) (fun _ _ h => .inl h)).trans t2 (fun _ _ h => .inr h)
  have hs := hB.size
  refine ⟨hB.trans (tt.below hs (fun k hk e => by omega)), block_turn (put8_block h1 v0 v1 v2 v3 v4 v5 v6 v7) t2 hne, put4_block (block_turn h2 t1 (fun e => hne e.symm)) e0 e1 e2 e3, (hn.turn tt (fun g _ h e => by omega)).all⟩
def leftA (i k b6 o6 c6 r0 : Nat) (ti tq s1 s2 s3 s4 : Bt) (D : DgD) (ba bd : Nat) (k4 : Int) (t4 : Bt) (n4 l4 o4 : Int) (A1 : Option Addr) (n1 c1 : Nat) (A2 : Option Addr) (n2 c2 : Nat) (A3 : Option Addr) (n3 c3 : Nat) : Act := { tmps := #[.int .i64 (i : Nat), .int .i64 (k : Nat), undef, undef, .bool (false), .bool (true), .slice (some ⟨b6, o6, none⟩) 15 c6, .slice (some ⟨r0, 0, none⟩) 15 15, .pointer (some ⟨ba, 0, none⟩), .pointer (some ⟨bd, 0, none⟩), .bool (true), .slice (some ⟨b6, o6, none⟩) 15 c6, .slice (some ⟨r0, 0, none⟩) 15 15, .int .i64 (i : Nat), .bool (decide ((i : Int) < 0)), .bool (decide ((i : Int) < 0)), .int .i64 (k : Nat), .bool (decide ((k : Int) < 0)), .bool (decide ((i : Int) < 0) || decide ((k : Int) < 0)), .bool (decide ((i : Int) < 0) || decide ((k : Int) < 0)), .int .i64 (i : Nat), .slice (some ⟨b6, o6, none⟩) 15 c6, .int .i64 15, .bool (decide (15 ≤ (i : Int))), .bool (decide ((i : Int) < 0) || decide ((k : Int) < 0) || decide (15 ≤ (i : Int))), .bool (decide ((i : Int) < 0) || decide ((k : Int) < 0) || decide (15 ≤ (i : Int))), .int .i64 (k : Nat), .slice (some ⟨b6, o6, none⟩) 15 c6, .int .i64 15, .bool (decide (15 ≤ (k : Int))), .bool (decide ((i : Int) < 0) || decide ((k : Int) < 0) || decide (15 ≤ (i : Int)) || decide (15 ≤ (k : Int))), undef, .tuple #[.agg #[.int .i64 k4, sv t4, .int .i64 n4, .int .i64 l4, .int .i64 o4, .slice A1 n1 c1, .slice A2 n2 c2, .slice A3 n3 c3], .agg #[.int .i64 0, .int .i64 (D.1 : Nat), .int .i64 (D.2.1 : Nat), .int .i64 D.2.2]], .slice (some ⟨b6, o6, none⟩) 15 c6, .int .i64 (i : Nat), .pointer (some ⟨b6, o6 + i, none⟩), sv ti, sv s1, sv s2, .slice (some ⟨b6, o6, none⟩) 15 c6, .int .i64 (k : Nat), .pointer (some ⟨b6, o6 + k, none⟩), sv tq, sv s3, sv s4, .tuple #[.agg #[.int .i64 k4, sv t4, .int .i64 n4, .int .i64 l4, .int .i64 o4, .slice A1 n1 c1, .slice A2 n2 c2, .slice A3 n3 c3], .agg #[.int .i64 0, .int .i64 (D.1 : Nat), .int .i64 (D.2.1 : Nat), .int .i64 D.2.2]], .agg #[.int .i64 k4, sv t4, .int .i64 n4, .int .i64 l4, .int .i64 o4, .slice A1 n1 c1, .slice A2 n2 c2, .slice A3 n3 c3], .agg #[.int .i64 0, .int .i64 (D.1 : Nat), .int .i64 (D.2.1 : Nat), .int .i64 D.2.2], undef, undef, undef, undef, undef, undef, undef, undef, undef, undef, undef, undef, undef, undef, undef, undef, undef, undef, undef, undef, undef, undef, undef, undef, undef, undef, undef, undef, undef, undef, undef, undef, undef, undef, undef, undef, undef, undef, undef, undef, undef, undef, undef, undef, undef, undef, undef, undef, undef, undef, undef, undef, undef, undef, undef, undef, undef, undef, undef, undef], defers := [] }
set_option maxRecDepth 100000 in
set_option maxHeartbeats 8000000 in
theorem parseleft_any (x y : Int) (hx : -9223372036854775808 ≤ x ∧ x ≤ 9223372036854775807) (hy : -9223372036854775808 ≤ y ∧ y ≤ 9223372036854775807) (w : World) (hX : LaidX w) : Calls Tryz.prog 12 #[.int .i64 x, .int .i64 y] w fun e w' => e = .returned (.bool true) ∧ Below w.heap.size w w' := by
  have HX := hid hX
  clear hX
  go_enter Tryz.func12, Tryz.ntmps12
  go_wp2_with fail
  refine (pawake_any w HX.out).mono ?_
  rintro e w1 ⟨rfl, hb1⟩
  have HX1 := hid (HX.out.below hb1)
  have HB1 := hid hb1
  clear hb1
  go_wp2_with fail
  refine (rops_any w1).mono ?_
  rintro e w2 ⟨v6, rfl, hss, hb2⟩
  obtain ⟨A6, c6, rfl, hc6, hm6, hcell⟩ := hss.open_
  have hol : opsL.length = 15 := rfl
  obtain ⟨b6, o6, rfl, hb6, hcell0⟩ := hcell (by rw [hol]; omega)
  have hcell1 : ∀ j, j < 15 → w2.cell? ⟨b6, o6 + j, none⟩ = some (sv (opsL.getD j [])) := fun j hj => by
    have hj' : j < opsL.length := by rw [hol]; exact hj
    rw [hcell0 j hj']
    simp [List.getD, List.getElem?_eq_getElem hj']
  clear hcell hcell0
  rw [hol] at hc6 ⊢
  unfold maxLen at hm6
  obtain ⟨W3, hW3⟩ : ∃ W3, w2.alloc (.cells #[.int .i64 0, .int .i64 1, .int .i64 2, .int .i64 2, .int .i64 2, .int .i64 3, .int .i64 4, .int .i64 4, .int .i64 4, .int .i64 5, .int .i64 5, .int .i64 5, .int .i64 5, .int .i64 5, .int .i64 5] 3) = W3 := ⟨_, rfl⟩
  have hbw : Below w2.heap.size w2 W3 := by rw [← hW3]; exact new1 _ _
  have hrk := at1 w2 (.cells #[.int .i64 0, .int .i64 1, .int .i64 2, .int .i64 2, .int .i64 2, .int .i64 3, .int .i64 4, .int .i64 4, .int .i64 4, .int .i64 5, .int .i64 5, .int .i64 5, .int .i64 5, .int .i64 5, .int .i64 5] 3)
  rw [hW3] at hrk
  have hs3 : W3.heap.size = w2.heap.size + 1 := by rw [← hW3]; simp
  have hs2 := hb2.size
  have hs1 := HB1.out.size
  have HB3 := hid (HB1.out.trans ((hb2.trans (hbw.mono hs2)).mono hs1))
  have HX3 := hid ((HX1.out.below hb2).below hbw)
  have HR3 : Hid (∀ j, j < 15 → ∀ w', Below W3.heap.size W3 w' → w'.cell? ⟨w2.heap.size, j, none⟩ = some (.int .i64 (rankL.getD j 0 : Nat))) := hid (fun j hj w' h => (cell_of_row _ _ j _ _ _ ((h.block w2.heap.size (by omega)).trans hrk)).trans (ranks_row j hj))
  have HO3 : Hid (∀ j, j < 15 → ∀ w', Below W3.heap.size W3 w' → w'.cell? ⟨b6, o6 + j, none⟩ = some (sv (opsL.getD j []))) := hid (fun j hj w' h => by
    exact ((hbw.trans (h.mono (by omega))).cell (p := ⟨b6, o6 + j, none⟩) hb6).trans (hcell1 j hj))
  have HW3 := hid hW3
  clear hbw hrk hb2 hcell1 hss hW3
  by_cases q0 : x < 0
  · go_wp2_with fail
    go_ret
    exact ⟨rfl, by rw [HW3.out]; exact HB3.out⟩
  by_cases q1 : y < 0
  · go_wp2_with fail
    go_ret
    exact ⟨rfl, by rw [HW3.out]; exact HB3.out⟩
  by_cases q2 : 15 ≤ x
  · go_wp2_with fail
    go_ret
    exact ⟨rfl, by rw [HW3.out]; exact HB3.out⟩
  by_cases q3 : 15 ≤ y
  · go_wp2_with fail
    go_ret
    exact ⟨rfl, by rw [HW3.out]; exact HB3.out⟩
  obtain ⟨i, rfl⟩ : ∃ i : Nat, x = i := ⟨x.toNat, by omega⟩
  obtain ⟨k, rfl⟩ : ∃ k : Nat, y = k := ⟨y.toNat, by omega⟩
  have hi : i < 15 := by omega
  have hk : k < 15 := by omega
  have hiI : (i : Int) < 15 := by omega
  have hkI : (k : Int) < 15 := by omega
  go_wp2_with fail
  rw [HW3.out]
  obtain ⟨ti, hti⟩ : ∃ ti, opsL.getD i [] = ti := ⟨_, rfl⟩
  obtain ⟨tq, htk⟩ : ∃ tq, opsL.getD k [] = tq := ⟨_, rfl⟩
  have hli := ops_short i hi
  have hlk := ops_short k hk
  rw [hti] at hli
  rw [htk] at hlk
  have HTL : Hid (leftT i k = (([120, 32] ++ ti ++ [32, 121, 32]) ++ tq) ++ [32, 122]) := hid (by rw [← hti, ← htk]; unfold leftT; simp)
  have HOI : Hid (∀ w', Below W3.heap.size W3 w' → w'.cell? ⟨b6, o6 + i, none⟩ = some (sv ti)) := hid (by rw [← hti]; exact HO3.out i hi)
  have HOK : Hid (∀ w', Below W3.heap.size W3 w' → w'.cell? ⟨b6, o6 + k, none⟩ = some (sv tq)) := hid (by rw [← htk]; exact HO3.out k hk)
  have HRI := hid (HR3.out i hi)
  have HRK := hid (HR3.out k hk)
  have HS0 : Hid (Below W3.heap.size W3 W3.drew) := hid (below_drawn W3 1)
  obtain ⟨ri, hri⟩ : ∃ ri, rankL.getD i 0 = ri := ⟨_, rfl⟩
  obtain ⟨rk, hrk⟩ : ∃ rk, rankL.getD k 0 = rk := ⟨_, rfl⟩
  rw [hri] at HRI
  rw [hrk] at HRK
  have HLAW := hid (left_law i hi k hk)
  have HSM := hid (left_small i hi k hk)
  have HTI := hid hti
  have HTK := hid htk
  have HRIE := hid hri
  have HRKE := hid hrk
  clear hti htk hri hrk HO3 HR3
  obtain ⟨s1, hs1'⟩ : ∃ s1, [120, 32] ++ ti = s1 := ⟨_, rfl⟩
  obtain ⟨s2, hs2'⟩ : ∃ s2, s1 ++ [32, 121, 32] = s2 := ⟨_, rfl⟩
  obtain ⟨s3, hs3'⟩ : ∃ s3, s2 ++ tq = s3 := ⟨_, rfl⟩
  obtain ⟨s4, hs4'⟩ : ∃ s4, s3 ++ [32, 122] = s4 := ⟨_, rfl⟩
  have e1 := (sv_append [120, 32] ti).trans (congrArg sv hs1')
  have e2 := (sv_append s1 [32, 121, 32]).trans (congrArg sv hs2')
  have e3 := (sv_append s2 tq).trans (congrArg sv hs3')
  have e4 := (sv_append s3 [32, 122]).trans (congrArg sv hs4')
  have l1 : s1.length = 2 + ti.length := by rw [← hs1']; simp; omega
  have l2 : s2.length = s1.length + 3 := by rw [← hs2']; simp
  have l3 : s3.length = s2.length + tq.length := by rw [← hs3']; simp
  have HS4 : Hid (s4 = leftT i k) := hid (by rw [HTL.out, ← hs4', ← hs3', ← hs2', ← hs1'])
  have E1 := hid e1
  have E2 := hid e2
  have E3 := hid e3
  have E4 := hid e4
  obtain ⟨D, hD⟩ : ∃ D, (wholeP (levP 100).expr (leftT i k)).2 = D := ⟨_, rfl⟩
  obtain ⟨X, hXX⟩ : ∃ X, okP (levP 100).expr (leftT i k) zeroN = X := ⟨_, rfl⟩
  have HD := hid hD
  have HXX := hid hXX
  clear e1 e2 e3 e4 hs1' hs2' hs3' hs4' hD hXX
  refine region_tail (fun a w' => ∃ (ba bd : Nat) (k4 : Int) (t4 : Bt) (n4 l4 o4 : Int) (A1 : Option Addr) (n1 c1 : Nat) (A2 : Option Addr) (n2 c2 : Nat) (A3 : Option Addr) (n3 c3 : Nat), a = (leftA i k b6 o6 c6 w2.heap.size ti tq s1 s2 s3 s4 D ba bd k4 t4 n4 l4 o4 A1 n1 c1 A2 n2 c2 A3 n3 c3) ∧ Below W3.heap.size W3 w' ∧ w'.heap[ba]? = some (.cells #[.int .i64 k4, sv t4, .int .i64 n4, .int .i64 l4, .int .i64 o4, .slice A1 n1 c1, .slice A2 n2 c2, .slice A3 n3 c3] 49 (0, 0)) ∧ w'.heap[bd]? = some (.cells #[.int .i64 0, .int .i64 (D.1 : Nat), .int .i64 (D.2.1 : Nat), .int .i64 D.2.2] 55 (0, 0)) ∧ NoR w' w'.heap.size [.int .i64 k4, sv t4, .int .i64 n4, .int .i64 l4, .int .i64 o4, .slice A1 n1 c1, .slice A2 n2 c2, .slice A3 n3 c3] X) ?_ ?_
  · skip
    rintro a w' ⟨ba, bd, k4, t4, n4, l4, o4, A1, n1, c1, A2, n2, c2, A3, n3, c3, rfl, hb, hA, hDD, hN⟩
    unfold leftA
    obtain ⟨y0, y1, y2, y3, yz⟩ := cells4 hDD
    have HA := hid hA
    have HN := hid hN
    have HB := hid hb
    have HEND := hid (HB3.out.trans (hb.mono (by have := HB3.out.size; omega)))
    have hsw := hb.size
    have r1 := HRI.out w' hb
    have r2 := HRK.out w' hb
    have hL := HLAW.out
    have hM := HSM.out
    have hD0 := HD.out
    have hX0 := HXX.out
    unfold okP at hX0
    unfold leftB at hL
    rw [HRIE.out, HRKE.out] at hL
    rcases hq : wholeP (levP 100).expr (leftT i k) with ⟨o, d⟩
    rw [hq] at hL hM hD0 hX0
    have hD0 : d = D := hD0
    rw [hD0] at hL
    clear hA hDD hN hb HLAW HSM HD HXX hq
    cases o with
    | none =>
      simp only [Bool.and_eq_true, beq_iff_eq] at hL
      obtain ⟨⟨h1, h2⟩, h3⟩ := hL
      rw [h1] at r1
      rw [h2] at r2
      rw [h3] at y3
      clear hM hD0 hX0
      go_wp2_with fail
      go_ret
      exact ⟨rfl, HEND.out⟩
    | some x =>
      have hX0 : x = X := hX0
      subst hX0
      simp only [Bool.and_eq_true, beq_iff_eq, Bool.not_eq_true'] at hL hM
      obtain ⟨⟨h1, h2⟩, h3⟩ := hL
      have h4 : D.2.2 = 0 := by rw [h2]
      rw [h4] at y3
      obtain ⟨sm, ok, cn⟩ := smB_ok 3 hM
      have HSMX := hid sm
      have HOKX := hid ok
      have HCN := hid cn
      have H3 := hid h3
      have hq12 : ¬ (ri = 2 ∧ rk = 2) := by simp only [Bool.and_eq_false_iff, beq_eq_false_iff_ne] at h1; omega
      have HQ := hid hq12
      clear hM hD0 h1 h2 h3 h4 sm ok cn hq12
      have FIN : ∀ (b : Bool), b = true → True := fun _ _ => trivial
      have hg : (((ri : Nat) : Int) == 2 && ((rk : Nat) : Int) == 2) = false := by
        have := HQ.out
        by_cases p : ri = 2
        · have p2 : rk ≠ 2 := fun e => this ⟨p, e⟩
          have : (((rk : Nat) : Int) == 2) = false := by simp; omega
          rw [this, Bool.and_false]
        · have : (((ri : Nat) : Int) == 2) = false := by simp; omega
          rw [this, Bool.false_and]
      by_cases p : ri = 2
      · skip
        have p2 : rk ≠ 2 := fun e => HQ.out ⟨p, e⟩
        have hp : (((ri : Nat) : Int) == 2) = true := by simp; omega
        have hp2 : (((rk : Nat) : Int) == 2) = false := by simp; omega
        clear FIN hg p p2
        go_wp2_with fail
        by_cases hle : rk ≤ ri
        · skip
          have hs0 : w'.drew.cell? ⟨w2.heap.size, i, none⟩ = some (.int .i64 (ri : Nat)) ∧ w'.drew.cell? ⟨w2.heap.size, k, none⟩ = some (.int .i64 (rk : Nat)) := ⟨r1, r2⟩
          have hleI : ((rk : Nat) : Int) ≤ ((ri : Nat) : Int) := by omega
          refine wp_region_held_drew (S := fun u => u.cell? ⟨w2.heap.size, i, none⟩ = some (.int .i64 (ri : Nat)) ∧ u.cell? ⟨w2.heap.size, k, none⟩ = some (.int .i64 (rk : Nat))) (by kernel_rfl) hs0 (fun _ => ?_)
          try simp only [Act.put, List.getElem_toArray, List.getElem_cons_zero, List.getElem_cons_succ, List.setIfInBounds_toArray, List.set_cons_zero, List.set_cons_succ]
          refine tk 0 (.slice (some ⟨w2.heap.size, 0, none⟩) 15 15) hs0 ?_
          refine tk 1 (.int .i64 (i : Nat)) hs0 ?_
          refine tk 2 (.pointer (some ⟨w2.heap.size, i, none⟩)) hs0 ?_
          refine tkf 3 (.int .i64 (ri : Nat)) (fun _ h => h.1) hs0 ?_
          refine tk 4 (.slice (some ⟨w2.heap.size, 0, none⟩) 15 15) hs0 ?_
          refine tk 5 (.int .i64 (k : Nat)) hs0 ?_
          refine tk 6 (.pointer (some ⟨w2.heap.size, k, none⟩)) hs0 ?_
          refine tkf 7 (.int .i64 (rk : Nat)) (fun _ h => h.2) hs0 ?_
          refine tk 8 (.bool true) hs0 ?_
          refine wpAnyH_done (by kernel_rfl) ?_ _
          clear hs0 r1 r2 y0 y1 y2 y3 yz
          go_wp2_with fail
          obtain ⟨g1, hg1⟩ : ∃ g1, [40, 40, 120, 32] ++ ti = g1 := ⟨_, rfl⟩
          obtain ⟨g2, hg2⟩ : ∃ g2, g1 ++ [32, 121, 41, 32] = g2 := ⟨_, rfl⟩
          obtain ⟨g3, hg3⟩ : ∃ g3, g2 ++ tq = g3 := ⟨_, rfl⟩
          have hg4 : g3 ++ [32, 122, 41] = exprT x := by
            rw [H3.out]
            unfold leftS
            rw [HRIE.out, HRKE.out, HTI.out, HTK.out, if_neg (by omega), ← hg3, ← hg2, ← hg1]
            simp
          have f1 := hid ((sv_append [40, 40, 120, 32] ti).trans (congrArg sv hg1))
          have f2 := hid ((sv_append g1 [32, 121, 41, 32]).trans (congrArg sv hg2))
          have f3 := hid ((sv_append g2 tq).trans (congrArg sv hg3))
          have f4 := hid ((sv_append g3 [32, 122, 41]).trans (congrArg sv hg4))
          have j1 : g1.length = 4 + ti.length := by rw [← hg1]; simp; omega
          have j2 : g2.length = g1.length + 4 := by rw [← hg2]; simp
          have j3 : g3.length = g2.length + tq.length := by rw [← hg3]; simp
          have HOU : Hid (∀ u, Below w'.heap.size w' u → u.cell? ⟨b6, o6 + i, none⟩ = some (sv ti)) := hid (fun u h => HOI.out u (HB.out.trans (h.mono hsw)))
          have HOV : Hid (∀ u, Below w'.heap.size w' u → u.cell? ⟨b6, o6 + k, none⟩ = some (sv tq)) := hid (fun u h => HOK.out u (HB.out.trans (h.mono hsw)))
          have PZ := hid (fun (u : World) (h : Below w'.heap.size w' u) => cells8 ((h.block ba (block_lt HA.out)).trans HA.out))
          clear hg1 hg2 hg3 hg4
          refine region_x (S := fun u => Below w'.heap.size w' u) (x := 15) (by kernel_rfl) ?_
          try simp only [Act.put, List.getElem_toArray, List.getElem_cons_zero, List.getElem_cons_succ, List.setIfInBounds_toArray, List.set_cons_zero, List.set_cons_succ]
          have hU0 : Below w'.heap.size w' w'.drew.drew := below_drawn w' 2
          have hUs : w'.drew.drew.heap.size = w'.heap.size := rfl
          have hUn : NoR w'.drew.drew w'.drew.drew.heap.size [.int .i64 k4, sv t4, .int .i64 n4, .int .i64 l4, .int .i64 o4, .slice A1 n1 c1, .slice A2 n2 c2, .slice A3 n3 c3] x := ((NoG.of HN.out (Nat.le_refl _)).bel (below_drawn w' 2)).all
          obtain ⟨U, hU⟩ : ∃ U, w'.drew.drew = U := ⟨_, rfl⟩
          rw [hU]
          rw [hU] at hU0 hUs hUn
          have HU := hid hU0
          have HUN := hid hUn
          have HUX := hid ((HX3.out.below HB.out).below hU0).t
          clear hU0 hUn hU
          refine txf 0 (.agg #[.int .i64 k4, sv t4, .int .i64 n4, .int .i64 l4, .int .i64 o4, .slice A1 n1 c1, .slice A2 n2 c2, .slice A3 n3 c3]) PZ.out HU.out ?_
          refine tx 2 (.slice (some ⟨b6, o6, none⟩) 15 c6) HU.out ?_
          refine tx 3 (.int .i64 (i : Nat)) HU.out ?_
          refine tx 4 (.pointer (some ⟨b6, o6 + i, none⟩)) HU.out ?_
          refine txf 5 (sv ti) HOU.out HU.out ?_
          refine tx 6 (sv g1) HU.out ?_ (hy := by intro w'' hSw; go_simp; rw [if_neg (by omega)]; exact congrArg (fun v => Result.ok (Next.value v) w'') f1.out)
          refine tx 7 (sv g2) HU.out ?_ (hy := by intro w'' hSw; go_simp; rw [if_neg (by omega)]; exact congrArg (fun v => Result.ok (Next.value v) w'') f2.out)
          refine tx 8 (.slice (some ⟨b6, o6, none⟩) 15 c6) HU.out ?_
          refine tx 9 (.int .i64 (k : Nat)) HU.out ?_
          refine tx 10 (.pointer (some ⟨b6, o6 + k, none⟩)) HU.out ?_
          refine txf 11 (sv tq) HOV.out HU.out ?_
          refine tx 12 (sv g3) HU.out ?_ (hy := by intro w'' hSw; go_simp; rw [if_neg (by omega)]; exact congrArg (fun v => Result.ok (Next.value v) w'') f3.out)
          refine tx 13 (sv (exprT x)) HU.out ?_ (hy := by intro w'' hSw; go_simp; rw [if_neg (by omega)]; exact congrArg (fun v => Result.ok (Next.value v) w'') f4.out)
          refine anyX_ready (rs := [1]) (by kernel_rfl) (by simp) ?_
          refine ReadyX.cons rfl (fun K hK => ?_) (ReadyX.nil)
          go_simp
          refine (texprs_any U [.int .i64 k4, sv t4, .int .i64 n4, .int .i64 l4, .int .i64 o4, .slice A1 n1 c1, .slice A2 n2 c2, .slice A3 n3 c3] x HSMX.out HUN.out HOKX.out (by have := HCN.out; omega) HUX.out).mono ?_
          rintro e U1 ⟨rfl, hbU⟩
          have HU1 := hid (HU.out.trans (hbU.mono (by omega)))
          clear hbU
          refine hK.out _ _ HU1.out ?_
          clear hK K
          try simp only [Act.put, List.getElem_toArray, List.getElem_cons_zero, List.getElem_cons_succ, List.setIfInBounds_toArray, List.set_cons_zero, List.set_cons_succ]
          refine tx 14 (.bool true) HU1.out ?_
          refine anyX_ready (rs := [15]) (by kernel_rfl) (by simp) ?_
          refine ReadyX.past rfl (by kernel_rfl) (fun K hK => ?_) (ReadyX.nil)
          go_simp
          refine hK.out _ _ ?_
          clear hK K
          try simp only [Act.put, List.getElem_toArray, List.getElem_cons_zero, List.getElem_cons_succ, List.setIfInBounds_toArray, List.set_cons_zero, List.set_cons_succ]
          refine anyX_done (by kernel_rfl) ?_ _
          go_wp2_with fail
          go_ret
          exact ⟨rfl, HEND.out.trans (HU1.out.mono (by have := HEND.out.size; omega))⟩
        · skip
          have hs0 : w'.drew.cell? ⟨w2.heap.size, i, none⟩ = some (.int .i64 (ri : Nat)) ∧ w'.drew.cell? ⟨w2.heap.size, k, none⟩ = some (.int .i64 (rk : Nat)) := ⟨r1, r2⟩
          have hleI : ¬ ((rk : Nat) : Int) ≤ ((ri : Nat) : Int) := by omega
          have hltI : ((ri : Nat) : Int) < ((rk : Nat) : Int) := by omega
          refine wp_region_held_drew (S := fun u => u.cell? ⟨w2.heap.size, i, none⟩ = some (.int .i64 (ri : Nat)) ∧ u.cell? ⟨w2.heap.size, k, none⟩ = some (.int .i64 (rk : Nat))) (by kernel_rfl) hs0 (fun _ => ?_)
          try simp only [Act.put, List.getElem_toArray, List.getElem_cons_zero, List.getElem_cons_succ, List.setIfInBounds_toArray, List.set_cons_zero, List.set_cons_succ]
          refine tk 0 (.slice (some ⟨w2.heap.size, 0, none⟩) 15 15) hs0 ?_
          refine tk 1 (.int .i64 (i : Nat)) hs0 ?_
          refine tk 2 (.pointer (some ⟨w2.heap.size, i, none⟩)) hs0 ?_
          refine tkf 3 (.int .i64 (ri : Nat)) (fun _ h => h.1) hs0 ?_
          refine tk 4 (.slice (some ⟨w2.heap.size, 0, none⟩) 15 15) hs0 ?_
          refine tk 5 (.int .i64 (k : Nat)) hs0 ?_
          refine tk 6 (.pointer (some ⟨w2.heap.size, k, none⟩)) hs0 ?_
          refine tkf 7 (.int .i64 (rk : Nat)) (fun _ h => h.2) hs0 ?_
          refine tk 8 (.bool false) hs0 ?_
          refine wpAnyH_done (by kernel_rfl) ?_ _
          clear hs0 r1 r2 y0 y1 y2 y3 yz
          go_wp2_with fail
          obtain ⟨g1, hg1⟩ : ∃ g1, [40, 120, 32] ++ ti = g1 := ⟨_, rfl⟩
          obtain ⟨g2, hg2⟩ : ∃ g2, g1 ++ [32, 40, 121, 32] = g2 := ⟨_, rfl⟩
          obtain ⟨g3, hg3⟩ : ∃ g3, g2 ++ tq = g3 := ⟨_, rfl⟩
          have hg4 : g3 ++ [32, 122, 41, 41] = exprT x := by
            rw [H3.out]
            unfold leftS
            rw [HRIE.out, HRKE.out, HTI.out, HTK.out, if_pos (by omega), ← hg3, ← hg2, ← hg1]
            simp
          have f1 := hid ((sv_append [40, 120, 32] ti).trans (congrArg sv hg1))
          have f2 := hid ((sv_append g1 [32, 40, 121, 32]).trans (congrArg sv hg2))
          have f3 := hid ((sv_append g2 tq).trans (congrArg sv hg3))
          have f4 := hid ((sv_append g3 [32, 122, 41, 41]).trans (congrArg sv hg4))
          have j1 : g1.length = 3 + ti.length := by rw [← hg1]; simp; omega
          have j2 : g2.length = g1.length + 4 := by rw [← hg2]; simp
          have j3 : g3.length = g2.length + tq.length := by rw [← hg3]; simp
          have HOU : Hid (∀ u, Below w'.heap.size w' u → u.cell? ⟨b6, o6 + i, none⟩ = some (sv ti)) := hid (fun u h => HOI.out u (HB.out.trans (h.mono hsw)))
          have HOV : Hid (∀ u, Below w'.heap.size w' u → u.cell? ⟨b6, o6 + k, none⟩ = some (sv tq)) := hid (fun u h => HOK.out u (HB.out.trans (h.mono hsw)))
          have PZ := hid (fun (u : World) (h : Below w'.heap.size w' u) => cells8 ((h.block ba (block_lt HA.out)).trans HA.out))
          clear hg1 hg2 hg3 hg4
          refine region_x (S := fun u => Below w'.heap.size w' u) (x := 15) (by kernel_rfl) ?_
          try simp only [Act.put, List.getElem_toArray, List.getElem_cons_zero, List.getElem_cons_succ, List.setIfInBounds_toArray, List.set_cons_zero, List.set_cons_succ]
          have hU0 : Below w'.heap.size w' w'.drew.drew := below_drawn w' 2
          have hUs : w'.drew.drew.heap.size = w'.heap.size := rfl
          have hUn : NoR w'.drew.drew w'.drew.drew.heap.size [.int .i64 k4, sv t4, .int .i64 n4, .int .i64 l4, .int .i64 o4, .slice A1 n1 c1, .slice A2 n2 c2, .slice A3 n3 c3] x := ((NoG.of HN.out (Nat.le_refl _)).bel (below_drawn w' 2)).all
          obtain ⟨U, hU⟩ : ∃ U, w'.drew.drew = U := ⟨_, rfl⟩
          rw [hU]
          rw [hU] at hU0 hUs hUn
          have HU := hid hU0
          have HUN := hid hUn
          have HUX := hid ((HX3.out.below HB.out).below hU0).t
          clear hU0 hUn hU
          refine txf 0 (.agg #[.int .i64 k4, sv t4, .int .i64 n4, .int .i64 l4, .int .i64 o4, .slice A1 n1 c1, .slice A2 n2 c2, .slice A3 n3 c3]) PZ.out HU.out ?_
          refine tx 2 (.slice (some ⟨b6, o6, none⟩) 15 c6) HU.out ?_
          refine tx 3 (.int .i64 (i : Nat)) HU.out ?_
          refine tx 4 (.pointer (some ⟨b6, o6 + i, none⟩)) HU.out ?_
          refine txf 5 (sv ti) HOU.out HU.out ?_
          refine tx 6 (sv g1) HU.out ?_ (hy := by intro w'' hSw; go_simp; rw [if_neg (by omega)]; exact congrArg (fun v => Result.ok (Next.value v) w'') f1.out)
          refine tx 7 (sv g2) HU.out ?_ (hy := by intro w'' hSw; go_simp; rw [if_neg (by omega)]; exact congrArg (fun v => Result.ok (Next.value v) w'') f2.out)
          refine tx 8 (.slice (some ⟨b6, o6, none⟩) 15 c6) HU.out ?_
          refine tx 9 (.int .i64 (k : Nat)) HU.out ?_
          refine tx 10 (.pointer (some ⟨b6, o6 + k, none⟩)) HU.out ?_
          refine txf 11 (sv tq) HOV.out HU.out ?_
          refine tx 12 (sv g3) HU.out ?_ (hy := by intro w'' hSw; go_simp; rw [if_neg (by omega)]; exact congrArg (fun v => Result.ok (Next.value v) w'') f3.out)
          refine tx 13 (sv (exprT x)) HU.out ?_ (hy := by intro w'' hSw; go_simp; rw [if_neg (by omega)]; exact congrArg (fun v => Result.ok (Next.value v) w'') f4.out)
          refine anyX_ready (rs := [1]) (by kernel_rfl) (by simp) ?_
          refine ReadyX.cons rfl (fun K hK => ?_) (ReadyX.nil)
          go_simp
          refine (texprs_any U [.int .i64 k4, sv t4, .int .i64 n4, .int .i64 l4, .int .i64 o4, .slice A1 n1 c1, .slice A2 n2 c2, .slice A3 n3 c3] x HSMX.out HUN.out HOKX.out (by have := HCN.out; omega) HUX.out).mono ?_
          rintro e U1 ⟨rfl, hbU⟩
          have HU1 := hid (HU.out.trans (hbU.mono (by omega)))
          clear hbU
          refine hK.out _ _ HU1.out ?_
          clear hK K
          try simp only [Act.put, List.getElem_toArray, List.getElem_cons_zero, List.getElem_cons_succ, List.setIfInBounds_toArray, List.set_cons_zero, List.set_cons_succ]
          refine tx 14 (.bool true) HU1.out ?_
          refine anyX_ready (rs := [15]) (by kernel_rfl) (by simp) ?_
          refine ReadyX.past rfl (by kernel_rfl) (fun K hK => ?_) (ReadyX.nil)
          go_simp
          refine hK.out _ _ ?_
          clear hK K
          try simp only [Act.put, List.getElem_toArray, List.getElem_cons_zero, List.getElem_cons_succ, List.setIfInBounds_toArray, List.set_cons_zero, List.set_cons_succ]
          refine anyX_done (by kernel_rfl) ?_ _
          go_wp2_with fail
          go_ret
          exact ⟨rfl, HEND.out.trans (HU1.out.mono (by have := HEND.out.size; omega))⟩
      · skip
        have hp : (((ri : Nat) : Int) == 2) = false := by simp; omega
        clear FIN hg p
        go_wp2_with fail
        by_cases hle : rk ≤ ri
        · skip
          have hs0 : w'.drew.cell? ⟨w2.heap.size, i, none⟩ = some (.int .i64 (ri : Nat)) ∧ w'.drew.cell? ⟨w2.heap.size, k, none⟩ = some (.int .i64 (rk : Nat)) := ⟨r1, r2⟩
          have hleI : ((rk : Nat) : Int) ≤ ((ri : Nat) : Int) := by omega
          refine wp_region_held_drew (S := fun u => u.cell? ⟨w2.heap.size, i, none⟩ = some (.int .i64 (ri : Nat)) ∧ u.cell? ⟨w2.heap.size, k, none⟩ = some (.int .i64 (rk : Nat))) (by kernel_rfl) hs0 (fun _ => ?_)
          try simp only [Act.put, List.getElem_toArray, List.getElem_cons_zero, List.getElem_cons_succ, List.setIfInBounds_toArray, List.set_cons_zero, List.set_cons_succ]
          refine tk 0 (.slice (some ⟨w2.heap.size, 0, none⟩) 15 15) hs0 ?_
          refine tk 1 (.int .i64 (i : Nat)) hs0 ?_
          refine tk 2 (.pointer (some ⟨w2.heap.size, i, none⟩)) hs0 ?_
          refine tkf 3 (.int .i64 (ri : Nat)) (fun _ h => h.1) hs0 ?_
          refine tk 4 (.slice (some ⟨w2.heap.size, 0, none⟩) 15 15) hs0 ?_
          refine tk 5 (.int .i64 (k : Nat)) hs0 ?_
          refine tk 6 (.pointer (some ⟨w2.heap.size, k, none⟩)) hs0 ?_
          refine tkf 7 (.int .i64 (rk : Nat)) (fun _ h => h.2) hs0 ?_
          refine tk 8 (.bool true) hs0 ?_
          refine wpAnyH_done (by kernel_rfl) ?_ _
          clear hs0 r1 r2 y0 y1 y2 y3 yz
          go_wp2_with fail
          obtain ⟨g1, hg1⟩ : ∃ g1, [40, 40, 120, 32] ++ ti = g1 := ⟨_, rfl⟩
          obtain ⟨g2, hg2⟩ : ∃ g2, g1 ++ [32, 121, 41, 32] = g2 := ⟨_, rfl⟩
          obtain ⟨g3, hg3⟩ : ∃ g3, g2 ++ tq = g3 := ⟨_, rfl⟩
          have hg4 : g3 ++ [32, 122, 41] = exprT x := by
            rw [H3.out]
            unfold leftS
            rw [HRIE.out, HRKE.out, HTI.out, HTK.out, if_neg (by omega), ← hg3, ← hg2, ← hg1]
            simp
          have f1 := hid ((sv_append [40, 40, 120, 32] ti).trans (congrArg sv hg1))
          have f2 := hid ((sv_append g1 [32, 121, 41, 32]).trans (congrArg sv hg2))
          have f3 := hid ((sv_append g2 tq).trans (congrArg sv hg3))
          have f4 := hid ((sv_append g3 [32, 122, 41]).trans (congrArg sv hg4))
          have j1 : g1.length = 4 + ti.length := by rw [← hg1]; simp; omega
          have j2 : g2.length = g1.length + 4 := by rw [← hg2]; simp
          have j3 : g3.length = g2.length + tq.length := by rw [← hg3]; simp
          have HOU : Hid (∀ u, Below w'.heap.size w' u → u.cell? ⟨b6, o6 + i, none⟩ = some (sv ti)) := hid (fun u h => HOI.out u (HB.out.trans (h.mono hsw)))
          have HOV : Hid (∀ u, Below w'.heap.size w' u → u.cell? ⟨b6, o6 + k, none⟩ = some (sv tq)) := hid (fun u h => HOK.out u (HB.out.trans (h.mono hsw)))
          have PZ := hid (fun (u : World) (h : Below w'.heap.size w' u) => cells8 ((h.block ba (block_lt HA.out)).trans HA.out))
          clear hg1 hg2 hg3 hg4
          refine region_x (S := fun u => Below w'.heap.size w' u) (x := 15) (by kernel_rfl) ?_
          try simp only [Act.put, List.getElem_toArray, List.getElem_cons_zero, List.getElem_cons_succ, List.setIfInBounds_toArray, List.set_cons_zero, List.set_cons_succ]
          have hU0 : Below w'.heap.size w' w'.drew.drew := below_drawn w' 2
          have hUs : w'.drew.drew.heap.size = w'.heap.size := rfl
          have hUn : NoR w'.drew.drew w'.drew.drew.heap.size [.int .i64 k4, sv t4, .int .i64 n4, .int .i64 l4, .int .i64 o4, .slice A1 n1 c1, .slice A2 n2 c2, .slice A3 n3 c3] x := ((NoG.of HN.out (Nat.le_refl _)).bel (below_drawn w' 2)).all
          obtain ⟨U, hU⟩ : ∃ U, w'.drew.drew = U := ⟨_, rfl⟩
          rw [hU]
          rw [hU] at hU0 hUs hUn
          have HU := hid hU0
          have HUN := hid hUn
          have HUX := hid ((HX3.out.below HB.out).below hU0).t
          clear hU0 hUn hU
          refine txf 0 (.agg #[.int .i64 k4, sv t4, .int .i64 n4, .int .i64 l4, .int .i64 o4, .slice A1 n1 c1, .slice A2 n2 c2, .slice A3 n3 c3]) PZ.out HU.out ?_
          refine tx 2 (.slice (some ⟨b6, o6, none⟩) 15 c6) HU.out ?_
          refine tx 3 (.int .i64 (i : Nat)) HU.out ?_
          refine tx 4 (.pointer (some ⟨b6, o6 + i, none⟩)) HU.out ?_
          refine txf 5 (sv ti) HOU.out HU.out ?_
          refine tx 6 (sv g1) HU.out ?_ (hy := by intro w'' hSw; go_simp; rw [if_neg (by omega)]; exact congrArg (fun v => Result.ok (Next.value v) w'') f1.out)
          refine tx 7 (sv g2) HU.out ?_ (hy := by intro w'' hSw; go_simp; rw [if_neg (by omega)]; exact congrArg (fun v => Result.ok (Next.value v) w'') f2.out)
          refine tx 8 (.slice (some ⟨b6, o6, none⟩) 15 c6) HU.out ?_
          refine tx 9 (.int .i64 (k : Nat)) HU.out ?_
          refine tx 10 (.pointer (some ⟨b6, o6 + k, none⟩)) HU.out ?_
          refine txf 11 (sv tq) HOV.out HU.out ?_
          refine tx 12 (sv g3) HU.out ?_ (hy := by intro w'' hSw; go_simp; rw [if_neg (by omega)]; exact congrArg (fun v => Result.ok (Next.value v) w'') f3.out)
          refine tx 13 (sv (exprT x)) HU.out ?_ (hy := by intro w'' hSw; go_simp; rw [if_neg (by omega)]; exact congrArg (fun v => Result.ok (Next.value v) w'') f4.out)
          refine anyX_ready (rs := [1]) (by kernel_rfl) (by simp) ?_
          refine ReadyX.cons rfl (fun K hK => ?_) (ReadyX.nil)
          go_simp
          refine (texprs_any U [.int .i64 k4, sv t4, .int .i64 n4, .int .i64 l4, .int .i64 o4, .slice A1 n1 c1, .slice A2 n2 c2, .slice A3 n3 c3] x HSMX.out HUN.out HOKX.out (by have := HCN.out; omega) HUX.out).mono ?_
          rintro e U1 ⟨rfl, hbU⟩
          have HU1 := hid (HU.out.trans (hbU.mono (by omega)))
          clear hbU
          refine hK.out _ _ HU1.out ?_
          clear hK K
          try simp only [Act.put, List.getElem_toArray, List.getElem_cons_zero, List.getElem_cons_succ, List.setIfInBounds_toArray, List.set_cons_zero, List.set_cons_succ]
          refine tx 14 (.bool true) HU1.out ?_
          refine anyX_ready (rs := [15]) (by kernel_rfl) (by simp) ?_
          refine ReadyX.past rfl (by kernel_rfl) (fun K hK => ?_) (ReadyX.nil)
          go_simp
          refine hK.out _ _ ?_
          clear hK K
          try simp only [Act.put, List.getElem_toArray, List.getElem_cons_zero, List.getElem_cons_succ, List.setIfInBounds_toArray, List.set_cons_zero, List.set_cons_succ]
          refine anyX_done (by kernel_rfl) ?_ _
          go_wp2_with fail
          go_ret
          exact ⟨rfl, HEND.out.trans (HU1.out.mono (by have := HEND.out.size; omega))⟩
        · skip
          have hs0 : w'.drew.cell? ⟨w2.heap.size, i, none⟩ = some (.int .i64 (ri : Nat)) ∧ w'.drew.cell? ⟨w2.heap.size, k, none⟩ = some (.int .i64 (rk : Nat)) := ⟨r1, r2⟩
          have hleI : ¬ ((rk : Nat) : Int) ≤ ((ri : Nat) : Int) := by omega
          have hltI : ((ri : Nat) : Int) < ((rk : Nat) : Int) := by omega
          refine wp_region_held_drew (S := fun u => u.cell? ⟨w2.heap.size, i, none⟩ = some (.int .i64 (ri : Nat)) ∧ u.cell? ⟨w2.heap.size, k, none⟩ = some (.int .i64 (rk : Nat))) (by kernel_rfl) hs0 (fun _ => ?_)
          try simp only [Act.put, List.getElem_toArray, List.getElem_cons_zero, List.getElem_cons_succ, List.setIfInBounds_toArray, List.set_cons_zero, List.set_cons_succ]
          refine tk 0 (.slice (some ⟨w2.heap.size, 0, none⟩) 15 15) hs0 ?_
          refine tk 1 (.int .i64 (i : Nat)) hs0 ?_
          refine tk 2 (.pointer (some ⟨w2.heap.size, i, none⟩)) hs0 ?_
          refine tkf 3 (.int .i64 (ri : Nat)) (fun _ h => h.1) hs0 ?_
          refine tk 4 (.slice (some ⟨w2.heap.size, 0, none⟩) 15 15) hs0 ?_
          refine tk 5 (.int .i64 (k : Nat)) hs0 ?_
          refine tk 6 (.pointer (some ⟨w2.heap.size, k, none⟩)) hs0 ?_
          refine tkf 7 (.int .i64 (rk : Nat)) (fun _ h => h.2) hs0 ?_
          refine tk 8 (.bool false) hs0 ?_
          refine wpAnyH_done (by kernel_rfl) ?_ _
          clear hs0 r1 r2 y0 y1 y2 y3 yz
          go_wp2_with fail
          obtain ⟨g1, hg1⟩ : ∃ g1, [40, 120, 32] ++ ti = g1 := ⟨_, rfl⟩
          obtain ⟨g2, hg2⟩ : ∃ g2, g1 ++ [32, 40, 121, 32] = g2 := ⟨_, rfl⟩
          obtain ⟨g3, hg3⟩ : ∃ g3, g2 ++ tq = g3 := ⟨_, rfl⟩
          have hg4 : g3 ++ [32, 122, 41, 41] = exprT x := by
            rw [H3.out]
            unfold leftS
            rw [HRIE.out, HRKE.out, HTI.out, HTK.out, if_pos (by omega), ← hg3, ← hg2, ← hg1]
            simp
          have f1 := hid ((sv_append [40, 120, 32] ti).trans (congrArg sv hg1))
          have f2 := hid ((sv_append g1 [32, 40, 121, 32]).trans (congrArg sv hg2))
          have f3 := hid ((sv_append g2 tq).trans (congrArg sv hg3))
          have f4 := hid ((sv_append g3 [32, 122, 41, 41]).trans (congrArg sv hg4))
          have j1 : g1.length = 3 + ti.length := by rw [← hg1]; simp; omega
          have j2 : g2.length = g1.length + 4 := by rw [← hg2]; simp
          have j3 : g3.length = g2.length + tq.length := by rw [← hg3]; simp
          have HOU : Hid (∀ u, Below w'.heap.size w' u → u.cell? ⟨b6, o6 + i, none⟩ = some (sv ti)) := hid (fun u h => HOI.out u (HB.out.trans (h.mono hsw)))
          have HOV : Hid (∀ u, Below w'.heap.size w' u → u.cell? ⟨b6, o6 + k, none⟩ = some (sv tq)) := hid (fun u h => HOK.out u (HB.out.trans (h.mono hsw)))
          have PZ := hid (fun (u : World) (h : Below w'.heap.size w' u) => cells8 ((h.block ba (block_lt HA.out)).trans HA.out))
          clear hg1 hg2 hg3 hg4
          refine region_x (S := fun u => Below w'.heap.size w' u) (x := 15) (by kernel_rfl) ?_
          try simp only [Act.put, List.getElem_toArray, List.getElem_cons_zero, List.getElem_cons_succ, List.setIfInBounds_toArray, List.set_cons_zero, List.set_cons_succ]
          have hU0 : Below w'.heap.size w' w'.drew.drew := below_drawn w' 2
          have hUs : w'.drew.drew.heap.size = w'.heap.size := rfl
          have hUn : NoR w'.drew.drew w'.drew.drew.heap.size [.int .i64 k4, sv t4, .int .i64 n4, .int .i64 l4, .int .i64 o4, .slice A1 n1 c1, .slice A2 n2 c2, .slice A3 n3 c3] x := ((NoG.of HN.out (Nat.le_refl _)).bel (below_drawn w' 2)).all
          obtain ⟨U, hU⟩ : ∃ U, w'.drew.drew = U := ⟨_, rfl⟩
          rw [hU]
          rw [hU] at hU0 hUs hUn
          have HU := hid hU0
          have HUN := hid hUn
          have HUX := hid ((HX3.out.below HB.out).below hU0).t
          clear hU0 hUn hU
          refine txf 0 (.agg #[.int .i64 k4, sv t4, .int .i64 n4, .int .i64 l4, .int .i64 o4, .slice A1 n1 c1, .slice A2 n2 c2, .slice A3 n3 c3]) PZ.out HU.out ?_
          refine tx 2 (.slice (some ⟨b6, o6, none⟩) 15 c6) HU.out ?_
          refine tx 3 (.int .i64 (i : Nat)) HU.out ?_
          refine tx 4 (.pointer (some ⟨b6, o6 + i, none⟩)) HU.out ?_
          refine txf 5 (sv ti) HOU.out HU.out ?_
          refine tx 6 (sv g1) HU.out ?_ (hy := by intro w'' hSw; go_simp; rw [if_neg (by omega)]; exact congrArg (fun v => Result.ok (Next.value v) w'') f1.out)
          refine tx 7 (sv g2) HU.out ?_ (hy := by intro w'' hSw; go_simp; rw [if_neg (by omega)]; exact congrArg (fun v => Result.ok (Next.value v) w'') f2.out)
          refine tx 8 (.slice (some ⟨b6, o6, none⟩) 15 c6) HU.out ?_
          refine tx 9 (.int .i64 (k : Nat)) HU.out ?_
          refine tx 10 (.pointer (some ⟨b6, o6 + k, none⟩)) HU.out ?_
          refine txf 11 (sv tq) HOV.out HU.out ?_
          refine tx 12 (sv g3) HU.out ?_ (hy := by intro w'' hSw; go_simp; rw [if_neg (by omega)]; exact congrArg (fun v => Result.ok (Next.value v) w'') f3.out)
          refine tx 13 (sv (exprT x)) HU.out ?_ (hy := by intro w'' hSw; go_simp; rw [if_neg (by omega)]; exact congrArg (fun v => Result.ok (Next.value v) w'') f4.out)
          refine anyX_ready (rs := [1]) (by kernel_rfl) (by simp) ?_
          refine ReadyX.cons rfl (fun K hK => ?_) (ReadyX.nil)
          go_simp
          refine (texprs_any U [.int .i64 k4, sv t4, .int .i64 n4, .int .i64 l4, .int .i64 o4, .slice A1 n1 c1, .slice A2 n2 c2, .slice A3 n3 c3] x HSMX.out HUN.out HOKX.out (by have := HCN.out; omega) HUX.out).mono ?_
          rintro e U1 ⟨rfl, hbU⟩
          have HU1 := hid (HU.out.trans (hbU.mono (by omega)))
          clear hbU
          refine hK.out _ _ HU1.out ?_
          clear hK K
          try simp only [Act.put, List.getElem_toArray, List.getElem_cons_zero, List.getElem_cons_succ, List.setIfInBounds_toArray, List.set_cons_zero, List.set_cons_succ]
          refine tx 14 (.bool true) HU1.out ?_
          refine anyX_ready (rs := [15]) (by kernel_rfl) (by simp) ?_
          refine ReadyX.past rfl (by kernel_rfl) (fun K hK => ?_) (ReadyX.nil)
          go_simp
          refine hK.out _ _ ?_
          clear hK K
          try simp only [Act.put, List.getElem_toArray, List.getElem_cons_zero, List.getElem_cons_succ, List.setIfInBounds_toArray, List.set_cons_zero, List.set_cons_succ]
          refine anyX_done (by kernel_rfl) ?_ _
          go_wp2_with fail
          go_ret
          exact ⟨rfl, HEND.out.trans (HU1.out.mono (by have := HEND.out.size; omega))⟩
  refine region_x (S := fun w' => Below W3.heap.size W3 w') (x := 18) (by kernel_rfl) ?_
  try simp only [Act.put, List.getElem_toArray, List.getElem_cons_zero, List.getElem_cons_succ, List.setIfInBounds_toArray, List.set_cons_zero, List.set_cons_succ]
  obtain ⟨V0, hV0⟩ : ∃ V0, W3.drew = V0 := ⟨_, rfl⟩
  rw [hV0]
  have hz0 : V0.heap.size ≤ W3.heap.size ∧ W3.heap.size ≤ V0.heap.size := by rw [← hV0]; exact ⟨Nat.le_refl _, Nat.le_refl _⟩
  have HS0 : Hid (Below W3.heap.size W3 V0) := hid (by rw [← hV0]; exact below_drawn W3 1)
  clear hV0
  refine tx 0 (.slice (some ⟨b6, o6, none⟩) 15 c6) HS0.out ?_
  refine tx 1 (.int .i64 (i : Nat)) HS0.out ?_
  refine tx 2 (.pointer (some ⟨b6, o6 + i, none⟩)) HS0.out ?_
  refine txf 3 (sv ti) HOI.out HS0.out ?_
  refine tx 4 (sv s1) HS0.out ?_ (hy := by intro w' hSw; go_simp; rw [if_neg (by omega)]; exact congrArg (fun v => Result.ok (Next.value v) w') E1.out)
  refine tx 5 (sv s2) HS0.out ?_ (hy := by intro w' hSw; go_simp; rw [if_neg (by omega)]; exact congrArg (fun v => Result.ok (Next.value v) w') E2.out)
  refine tx 6 (.slice (some ⟨b6, o6, none⟩) 15 c6) HS0.out ?_
  refine tx 7 (.int .i64 (k : Nat)) HS0.out ?_
  refine tx 8 (.pointer (some ⟨b6, o6 + k, none⟩)) HS0.out ?_
  refine txf 9 (sv tq) HOK.out HS0.out ?_
  refine tx 10 (sv s3) HS0.out ?_ (hy := by intro w' hSw; go_simp; rw [if_neg (by omega)]; exact congrArg (fun v => Result.ok (Next.value v) w') E3.out)
  refine tx 11 (sv s4) HS0.out ?_ (hy := by intro w' hSw; go_simp; rw [if_neg (by omega)]; exact congrArg (fun v => Result.ok (Next.value v) w') E4.out)
  refine anyX_ready (rs := [12, 16, 17]) (by kernel_rfl) (by simp) ?_
  refine ReadyX.cons rfl (fun K hK => ?_) (ReadyX.cons rfl (fun K hK => ?_) (ReadyX.cons rfl (fun K hK => ?_) (ReadyX.nil)))
  · skip
    go_simp
    rw [HS4.out]
    refine (tnod_any V0 (leftT i k) (HX3.out.below HS0.out)).mono ?_
    rintro e V1 ⟨hnV1, z1, rfl, hz1⟩
    rw [HXX.out] at hz1
    rw [HD.out, ← HS4.out]
    have hzc := hz1
    obtain ⟨k4, t4, n4, l4, o4, A1, n1, c1, A2, n2, c2, A3, n3, c3, rfl⟩ := hzc.shape'
    have hzV1 := hnV1.size
    have HN_1 := hid hz1.iv
    have HS_1 := hid (HS0.out.trans (hnV1.mono (by have := HS0.out.size; omega)))
    clear hnV1 hz1 hzc
    refine hK.out _ _ HS_1.out ?_
    clear hK K
    try simp only [Act.put, List.getElem_toArray, List.getElem_cons_zero, List.getElem_cons_succ, List.setIfInBounds_toArray, List.set_cons_zero, List.set_cons_succ]
    refine tt 13 (.tuple #[.agg #[.int .i64 k4, sv t4, .int .i64 n4, .int .i64 l4, .int .i64 o4, .slice A1 n1 c1, .slice A2 n2 c2, .slice A3 n3 c3], .agg #[.int .i64 0, .int .i64 (D.1 : Nat), .int .i64 (D.2.1 : Nat), .int .i64 D.2.2]]) (fun _ => HS_1.out) ?_
    refine tt 14 (.agg #[.int .i64 k4, sv t4, .int .i64 n4, .int .i64 l4, .int .i64 o4, .slice A1 n1 c1, .slice A2 n2 c2, .slice A3 n3 c3]) (fun _ => HS_1.out) ?_
    refine tt 15 (.agg #[.int .i64 0, .int .i64 (D.1 : Nat), .int .i64 (D.2.1 : Nat), .int .i64 D.2.2]) (fun _ => HS_1.out) ?_
    refine anyX_ready (rs := [16, 17]) (by kernel_rfl) (by simp) ?_
    refine ReadyX.cons rfl (fun K hK => ?_) (ReadyX.cons rfl (fun K hK => ?_) (ReadyX.nil))
    · skip
      obtain ⟨V2, hV2⟩ : ∃ V2, V1.alloc (.cells #[.int .i64 0, .string ⟨#[]⟩, .int .i64 0, .int .i64 0, .int .i64 0, .slice none 0 0, .slice none 0 0, .slice none 0 0] 49) = V2 := ⟨_, rfl⟩
      have hnV2 : Below V1.heap.size V1 V2 := by rw [← hV2]; exact new1 _ _
      have haV2 := at1 V1 (.cells #[.int .i64 0, .string ⟨#[]⟩, .int .i64 0, .int .i64 0, .int .i64 0, .slice none 0 0, .slice none 0 0, .slice none 0 0] 49)
      rw [hV2] at haV2
      have hzV2 : V2.heap.size ≤ V1.heap.size + 1 ∧ V1.heap.size + 1 ≤ V2.heap.size := by rw [← hV2]; simp
      go_simp
      try rw [hV2]
      have HBa_2 := hid haV2
      have HN_2 := hid (HN_1.out.bel hnV2)
      have HS_2 := hid (HS_1.out.trans (hnV2.mono (by have := HS_1.out.size; omega)))
      clear haV2 hnV2 hV2
      refine hK.out _ _ HS_2.out ?_
      clear hK K
      try simp only [Act.put, List.getElem_toArray, List.getElem_cons_zero, List.getElem_cons_succ, List.setIfInBounds_toArray, List.set_cons_zero, List.set_cons_succ]
      refine anyX_ready (rs := [17]) (by kernel_rfl) (by simp) ?_
      refine ReadyX.cons rfl (fun K hK => ?_) (ReadyX.nil)
      · skip
        obtain ⟨V3, hV3⟩ : ∃ V3, V2.alloc (.cells #[.int .i64 0, .int .i64 0, .int .i64 0, .int .i64 0] 55) = V3 := ⟨_, rfl⟩
        have hnV3 : Below V2.heap.size V2 V3 := by rw [← hV3]; exact new1 _ _
        have haV3 := at1 V2 (.cells #[.int .i64 0, .int .i64 0, .int .i64 0, .int .i64 0] 55)
        rw [hV3] at haV3
        have hzV3 : V3.heap.size ≤ V2.heap.size + 1 ∧ V2.heap.size + 1 ≤ V3.heap.size := by rw [← hV3]; simp
        go_simp
        try rw [hV3]
        have HBd_3 := hid haV3
        have HBa_3 := hid ((hnV3.block (V1.heap.size) (by omega)).trans HBa_2.out)
        have HN_3 := hid (HN_2.out.bel hnV3)
        have HS_3 := hid (HS_2.out.trans (hnV3.mono (by have := HS_2.out.size; omega)))
        clear haV3 hnV3 hV3
        refine hK.out _ _ HS_3.out ?_
        clear hK K
        try simp only [Act.put, List.getElem_toArray, List.getElem_cons_zero, List.getElem_cons_succ, List.setIfInBounds_toArray, List.set_cons_zero, List.set_cons_succ]
        have hsz := HS_3.out.size
        have hF := fin_world (e0 := .int .i64 0) (e1 := .int .i64 (D.1 : Nat)) (e2 := .int .i64 (D.2.1 : Nat)) (e3 := .int .i64 D.2.2) HS_3.out HBa_3.out HBd_3.out (by omega) (by omega) (by omega) (HN_3.out.mono (fun g _ h => by constructor <;> omega))
        have HF := hid hF
        have hM := put8_turn V3 (V1.heap.size) (.int .i64 k4) (sv t4) (.int .i64 n4) (.int .i64 l4) (.int .i64 o4) (.slice A1 n1 c1) (.slice A2 n2 c2) (.slice A3 n3 c3)
        have HDM := hid (block_turn HBd_3.out hM (by omega))
        have HSM := hid (HS_3.out.trans (hM.below (by omega) (fun k hk e => by omega)))
        obtain ⟨u0, u1, u2, u3, u4, u5, u6, u7, uz⟩ := cells8 HBa_3.out
        clear hF hM
        refine anyX_ready (rs := [18]) (by kernel_rfl) (by simp) ?_
        refine ReadyX.cons rfl (fun K hK => ?_) (ReadyX.nil)
        go_simp
        refine hK.out _ _ HSM.out ?_
        clear hK K
        try simp only [Act.put, List.getElem_toArray, List.getElem_cons_zero, List.getElem_cons_succ, List.setIfInBounds_toArray, List.set_cons_zero, List.set_cons_succ]
        obtain ⟨y0, y1, y2, y3, yz⟩ := cells4 HDM.out
        refine anyX_ready (rs := [19]) (by kernel_rfl) (by simp) ?_
        refine ReadyX.past rfl (by kernel_rfl) (fun K hK => ?_) (ReadyX.nil)
        go_simp
        refine hK.out _ _ ?_
        clear hK K
        try simp only [Act.put, List.getElem_toArray, List.getElem_cons_zero, List.getElem_cons_succ, List.setIfInBounds_toArray, List.set_cons_zero, List.set_cons_succ]
        refine anyX_done (by kernel_rfl) ?_ _
        exact ⟨_, _, _, _, _, _, _, _, _, _, _, _, _, _, _, _, rfl, HF.out.1, HF.out.2.1, HF.out.2.2.1, HF.out.2.2.2⟩
    · skip
      obtain ⟨V4, hV4⟩ : ∃ V4, V1.alloc (.cells #[.int .i64 0, .int .i64 0, .int .i64 0, .int .i64 0] 55) = V4 := ⟨_, rfl⟩
      have hnV4 : Below V1.heap.size V1 V4 := by rw [← hV4]; exact new1 _ _
      have haV4 := at1 V1 (.cells #[.int .i64 0, .int .i64 0, .int .i64 0, .int .i64 0] 55)
      rw [hV4] at haV4
      have hzV4 : V4.heap.size ≤ V1.heap.size + 1 ∧ V1.heap.size + 1 ≤ V4.heap.size := by rw [← hV4]; simp
      go_simp
      try rw [hV4]
      have HBd_4 := hid haV4
      have HN_4 := hid (HN_1.out.bel hnV4)
      have HS_4 := hid (HS_1.out.trans (hnV4.mono (by have := HS_1.out.size; omega)))
      clear haV4 hnV4 hV4
      refine hK.out _ _ HS_4.out ?_
      clear hK K
      try simp only [Act.put, List.getElem_toArray, List.getElem_cons_zero, List.getElem_cons_succ, List.setIfInBounds_toArray, List.set_cons_zero, List.set_cons_succ]
      refine anyX_ready (rs := [16]) (by kernel_rfl) (by simp) ?_
      refine ReadyX.cons rfl (fun K hK => ?_) (ReadyX.nil)
      · skip
        obtain ⟨V5, hV5⟩ : ∃ V5, V4.alloc (.cells #[.int .i64 0, .string ⟨#[]⟩, .int .i64 0, .int .i64 0, .int .i64 0, .slice none 0 0, .slice none 0 0, .slice none 0 0] 49) = V5 := ⟨_, rfl⟩
        have hnV5 : Below V4.heap.size V4 V5 := by rw [← hV5]; exact new1 _ _
        have haV5 := at1 V4 (.cells #[.int .i64 0, .string ⟨#[]⟩, .int .i64 0, .int .i64 0, .int .i64 0, .slice none 0 0, .slice none 0 0, .slice none 0 0] 49)
        rw [hV5] at haV5
        have hzV5 : V5.heap.size ≤ V4.heap.size + 1 ∧ V4.heap.size + 1 ≤ V5.heap.size := by rw [← hV5]; simp
        go_simp
        try rw [hV5]
        have HBa_5 := hid haV5
        have HBd_5 := hid ((hnV5.block (V1.heap.size) (by omega)).trans HBd_4.out)
        have HN_5 := hid (HN_4.out.bel hnV5)
        have HS_5 := hid (HS_4.out.trans (hnV5.mono (by have := HS_4.out.size; omega)))
        clear haV5 hnV5 hV5
        refine hK.out _ _ HS_5.out ?_
        clear hK K
        try simp only [Act.put, List.getElem_toArray, List.getElem_cons_zero, List.getElem_cons_succ, List.setIfInBounds_toArray, List.set_cons_zero, List.set_cons_succ]
        have hsz := HS_5.out.size
        have hF := fin_world (e0 := .int .i64 0) (e1 := .int .i64 (D.1 : Nat)) (e2 := .int .i64 (D.2.1 : Nat)) (e3 := .int .i64 D.2.2) HS_5.out HBa_5.out HBd_5.out (by omega) (by omega) (by omega) (HN_5.out.mono (fun g _ h => by constructor <;> omega))
        have HF := hid hF
        have hM := put8_turn V5 (V4.heap.size) (.int .i64 k4) (sv t4) (.int .i64 n4) (.int .i64 l4) (.int .i64 o4) (.slice A1 n1 c1) (.slice A2 n2 c2) (.slice A3 n3 c3)
        have HDM := hid (block_turn HBd_5.out hM (by omega))
        have HSM := hid (HS_5.out.trans (hM.below (by omega) (fun k hk e => by omega)))
        obtain ⟨u0, u1, u2, u3, u4, u5, u6, u7, uz⟩ := cells8 HBa_5.out
        clear hF hM
        refine anyX_ready (rs := [18]) (by kernel_rfl) (by simp) ?_
        refine ReadyX.cons rfl (fun K hK => ?_) (ReadyX.nil)
        go_simp
        refine hK.out _ _ HSM.out ?_
        clear hK K
        try simp only [Act.put, List.getElem_toArray, List.getElem_cons_zero, List.getElem_cons_succ, List.setIfInBounds_toArray, List.set_cons_zero, List.set_cons_succ]
        obtain ⟨y0, y1, y2, y3, yz⟩ := cells4 HDM.out
        refine anyX_ready (rs := [19]) (by kernel_rfl) (by simp) ?_
        refine ReadyX.past rfl (by kernel_rfl) (fun K hK => ?_) (ReadyX.nil)
        go_simp
        refine hK.out _ _ ?_
        clear hK K
        try simp only [Act.put, List.getElem_toArray, List.getElem_cons_zero, List.getElem_cons_succ, List.setIfInBounds_toArray, List.set_cons_zero, List.set_cons_succ]
        refine anyX_done (by kernel_rfl) ?_ _
        exact ⟨_, _, _, _, _, _, _, _, _, _, _, _, _, _, _, _, rfl, HF.out.1, HF.out.2.1, HF.out.2.2.1, HF.out.2.2.2⟩
  · skip
    obtain ⟨V6, hV6⟩ : ∃ V6, V0.alloc (.cells #[.int .i64 0, .string ⟨#[]⟩, .int .i64 0, .int .i64 0, .int .i64 0, .slice none 0 0, .slice none 0 0, .slice none 0 0] 49) = V6 := ⟨_, rfl⟩
    have hnV6 : Below V0.heap.size V0 V6 := by rw [← hV6]; exact new1 _ _
    have haV6 := at1 V0 (.cells #[.int .i64 0, .string ⟨#[]⟩, .int .i64 0, .int .i64 0, .int .i64 0, .slice none 0 0, .slice none 0 0, .slice none 0 0] 49)
    rw [hV6] at haV6
    have hzV6 : V6.heap.size ≤ V0.heap.size + 1 ∧ V0.heap.size + 1 ≤ V6.heap.size := by rw [← hV6]; simp
    go_simp
    try rw [hV6]
    have HBa_6 := hid haV6
    have HS_6 := hid (HS0.out.trans (hnV6.mono (by have := HS0.out.size; omega)))
    clear haV6 hnV6 hV6
    refine hK.out _ _ HS_6.out ?_
    clear hK K
    try simp only [Act.put, List.getElem_toArray, List.getElem_cons_zero, List.getElem_cons_succ, List.setIfInBounds_toArray, List.set_cons_zero, List.set_cons_succ]
    refine anyX_ready (rs := [12, 17]) (by kernel_rfl) (by simp) ?_
    refine ReadyX.cons rfl (fun K hK => ?_) (ReadyX.cons rfl (fun K hK => ?_) (ReadyX.nil))
    · skip
      go_simp
      rw [HS4.out]
      refine (tnod_any V6 (leftT i k) (HX3.out.below HS_6.out)).mono ?_
      rintro e V7 ⟨hnV7, z7, rfl, hz7⟩
      rw [HXX.out] at hz7
      rw [HD.out, ← HS4.out]
      have hzc := hz7
      obtain ⟨k4, t4, n4, l4, o4, A1, n1, c1, A2, n2, c2, A3, n3, c3, rfl⟩ := hzc.shape'
      have hzV7 := hnV7.size
      have HN_7 := hid hz7.iv
      have HBa_7 := hid ((hnV7.block (V0.heap.size) (by omega)).trans HBa_6.out)
      have HS_7 := hid (HS_6.out.trans (hnV7.mono (by have := HS_6.out.size; omega)))
      clear hnV7 hz7 hzc
      refine hK.out _ _ HS_7.out ?_
      clear hK K
      try simp only [Act.put, List.getElem_toArray, List.getElem_cons_zero, List.getElem_cons_succ, List.setIfInBounds_toArray, List.set_cons_zero, List.set_cons_succ]
      refine tt 13 (.tuple #[.agg #[.int .i64 k4, sv t4, .int .i64 n4, .int .i64 l4, .int .i64 o4, .slice A1 n1 c1, .slice A2 n2 c2, .slice A3 n3 c3], .agg #[.int .i64 0, .int .i64 (D.1 : Nat), .int .i64 (D.2.1 : Nat), .int .i64 D.2.2]]) (fun _ => HS_7.out) ?_
      refine tt 14 (.agg #[.int .i64 k4, sv t4, .int .i64 n4, .int .i64 l4, .int .i64 o4, .slice A1 n1 c1, .slice A2 n2 c2, .slice A3 n3 c3]) (fun _ => HS_7.out) ?_
      refine tt 15 (.agg #[.int .i64 0, .int .i64 (D.1 : Nat), .int .i64 (D.2.1 : Nat), .int .i64 D.2.2]) (fun _ => HS_7.out) ?_
      refine anyX_ready (rs := [17]) (by kernel_rfl) (by simp) ?_
      refine ReadyX.cons rfl (fun K hK => ?_) (ReadyX.nil)
      · skip
        obtain ⟨V8, hV8⟩ : ∃ V8, V7.alloc (.cells #[.int .i64 0, .int .i64 0, .int .i64 0, .int .i64 0] 55) = V8 := ⟨_, rfl⟩
        have hnV8 : Below V7.heap.size V7 V8 := by rw [← hV8]; exact new1 _ _
        have haV8 := at1 V7 (.cells #[.int .i64 0, .int .i64 0, .int .i64 0, .int .i64 0] 55)
        rw [hV8] at haV8
        have hzV8 : V8.heap.size ≤ V7.heap.size + 1 ∧ V7.heap.size + 1 ≤ V8.heap.size := by rw [← hV8]; simp
        go_simp
        try rw [hV8]
        have HBd_8 := hid haV8
        have HBa_8 := hid ((hnV8.block (V0.heap.size) (by omega)).trans HBa_7.out)
        have HN_8 := hid (HN_7.out.bel hnV8)
        have HS_8 := hid (HS_7.out.trans (hnV8.mono (by have := HS_7.out.size; omega)))
        clear haV8 hnV8 hV8
        refine hK.out _ _ HS_8.out ?_
        clear hK K
        try simp only [Act.put, List.getElem_toArray, List.getElem_cons_zero, List.getElem_cons_succ, List.setIfInBounds_toArray, List.set_cons_zero, List.set_cons_succ]
        have hsz := HS_8.out.size
        have hF := fin_world (e0 := .int .i64 0) (e1 := .int .i64 (D.1 : Nat)) (e2 := .int .i64 (D.2.1 : Nat)) (e3 := .int .i64 D.2.2) HS_8.out HBa_8.out HBd_8.out (by omega) (by omega) (by omega) (HN_8.out.mono (fun g _ h => by constructor <;> omega))
        have HF := hid hF
        have hM := put8_turn V8 (V0.heap.size) (.int .i64 k4) (sv t4) (.int .i64 n4) (.int .i64 l4) (.int .i64 o4) (.slice A1 n1 c1) (.slice A2 n2 c2) (.slice A3 n3 c3)
        have HDM := hid (block_turn HBd_8.out hM (by omega))
        have HSM := hid (HS_8.out.trans (hM.below (by omega) (fun k hk e => by omega)))
        obtain ⟨u0, u1, u2, u3, u4, u5, u6, u7, uz⟩ := cells8 HBa_8.out
        clear hF hM
        refine anyX_ready (rs := [18]) (by kernel_rfl) (by simp) ?_
        refine ReadyX.cons rfl (fun K hK => ?_) (ReadyX.nil)
        go_simp
        refine hK.out _ _ HSM.out ?_
        clear hK K
        try simp only [Act.put, List.getElem_toArray, List.getElem_cons_zero, List.getElem_cons_succ, List.setIfInBounds_toArray, List.set_cons_zero, List.set_cons_succ]
        obtain ⟨y0, y1, y2, y3, yz⟩ := cells4 HDM.out
        refine anyX_ready (rs := [19]) (by kernel_rfl) (by simp) ?_
        refine ReadyX.past rfl (by kernel_rfl) (fun K hK => ?_) (ReadyX.nil)
        go_simp
        refine hK.out _ _ ?_
        clear hK K
        try simp only [Act.put, List.getElem_toArray, List.getElem_cons_zero, List.getElem_cons_succ, List.setIfInBounds_toArray, List.set_cons_zero, List.set_cons_succ]
        refine anyX_done (by kernel_rfl) ?_ _
        exact ⟨_, _, _, _, _, _, _, _, _, _, _, _, _, _, _, _, rfl, HF.out.1, HF.out.2.1, HF.out.2.2.1, HF.out.2.2.2⟩
    · skip
      obtain ⟨V9, hV9⟩ : ∃ V9, V6.alloc (.cells #[.int .i64 0, .int .i64 0, .int .i64 0, .int .i64 0] 55) = V9 := ⟨_, rfl⟩
      have hnV9 : Below V6.heap.size V6 V9 := by rw [← hV9]; exact new1 _ _
      have haV9 := at1 V6 (.cells #[.int .i64 0, .int .i64 0, .int .i64 0, .int .i64 0] 55)
      rw [hV9] at haV9
      have hzV9 : V9.heap.size ≤ V6.heap.size + 1 ∧ V6.heap.size + 1 ≤ V9.heap.size := by rw [← hV9]; simp
      go_simp
      try rw [hV9]
      have HBd_9 := hid haV9
      have HBa_9 := hid ((hnV9.block (V0.heap.size) (by omega)).trans HBa_6.out)
      have HS_9 := hid (HS_6.out.trans (hnV9.mono (by have := HS_6.out.size; omega)))
      clear haV9 hnV9 hV9
      refine hK.out _ _ HS_9.out ?_
      clear hK K
      try simp only [Act.put, List.getElem_toArray, List.getElem_cons_zero, List.getElem_cons_succ, List.setIfInBounds_toArray, List.set_cons_zero, List.set_cons_succ]
      refine anyX_ready (rs := [12]) (by kernel_rfl) (by simp) ?_
      refine ReadyX.cons rfl (fun K hK => ?_) (ReadyX.nil)
      · skip
        go_simp
        rw [HS4.out]
        refine (tnod_any V9 (leftT i k) (HX3.out.below HS_9.out)).mono ?_
        rintro e V10 ⟨hnV10, z10, rfl, hz10⟩
        rw [HXX.out] at hz10
        rw [HD.out, ← HS4.out]
        have hzc := hz10
        obtain ⟨k4, t4, n4, l4, o4, A1, n1, c1, A2, n2, c2, A3, n3, c3, rfl⟩ := hzc.shape'
        have hzV10 := hnV10.size
        have HN_10 := hid hz10.iv
        have HBa_10 := hid ((hnV10.block (V0.heap.size) (by omega)).trans HBa_9.out)
        have HBd_10 := hid ((hnV10.block (V6.heap.size) (by omega)).trans HBd_9.out)
        have HS_10 := hid (HS_9.out.trans (hnV10.mono (by have := HS_9.out.size; omega)))
        clear hnV10 hz10 hzc
        refine hK.out _ _ HS_10.out ?_
        clear hK K
        try simp only [Act.put, List.getElem_toArray, List.getElem_cons_zero, List.getElem_cons_succ, List.setIfInBounds_toArray, List.set_cons_zero, List.set_cons_succ]
        refine tt 13 (.tuple #[.agg #[.int .i64 k4, sv t4, .int .i64 n4, .int .i64 l4, .int .i64 o4, .slice A1 n1 c1, .slice A2 n2 c2, .slice A3 n3 c3], .agg #[.int .i64 0, .int .i64 (D.1 : Nat), .int .i64 (D.2.1 : Nat), .int .i64 D.2.2]]) (fun _ => HS_10.out) ?_
        refine tt 14 (.agg #[.int .i64 k4, sv t4, .int .i64 n4, .int .i64 l4, .int .i64 o4, .slice A1 n1 c1, .slice A2 n2 c2, .slice A3 n3 c3]) (fun _ => HS_10.out) ?_
        refine tt 15 (.agg #[.int .i64 0, .int .i64 (D.1 : Nat), .int .i64 (D.2.1 : Nat), .int .i64 D.2.2]) (fun _ => HS_10.out) ?_
        have hsz := HS_10.out.size
        have hF := fin_world (e0 := .int .i64 0) (e1 := .int .i64 (D.1 : Nat)) (e2 := .int .i64 (D.2.1 : Nat)) (e3 := .int .i64 D.2.2) HS_10.out HBa_10.out HBd_10.out (by omega) (by omega) (by omega) (HN_10.out.mono (fun g _ h => by constructor <;> omega))
        have HF := hid hF
        have hM := put8_turn V10 (V0.heap.size) (.int .i64 k4) (sv t4) (.int .i64 n4) (.int .i64 l4) (.int .i64 o4) (.slice A1 n1 c1) (.slice A2 n2 c2) (.slice A3 n3 c3)
        have HDM := hid (block_turn HBd_10.out hM (by omega))
        have HSM := hid (HS_10.out.trans (hM.below (by omega) (fun k hk e => by omega)))
        obtain ⟨u0, u1, u2, u3, u4, u5, u6, u7, uz⟩ := cells8 HBa_10.out
        clear hF hM
        refine anyX_ready (rs := [18]) (by kernel_rfl) (by simp) ?_
        refine ReadyX.cons rfl (fun K hK => ?_) (ReadyX.nil)
        go_simp
        refine hK.out _ _ HSM.out ?_
        clear hK K
        try simp only [Act.put, List.getElem_toArray, List.getElem_cons_zero, List.getElem_cons_succ, List.setIfInBounds_toArray, List.set_cons_zero, List.set_cons_succ]
        obtain ⟨y0, y1, y2, y3, yz⟩ := cells4 HDM.out
        refine anyX_ready (rs := [19]) (by kernel_rfl) (by simp) ?_
        refine ReadyX.past rfl (by kernel_rfl) (fun K hK => ?_) (ReadyX.nil)
        go_simp
        refine hK.out _ _ ?_
        clear hK K
        try simp only [Act.put, List.getElem_toArray, List.getElem_cons_zero, List.getElem_cons_succ, List.setIfInBounds_toArray, List.set_cons_zero, List.set_cons_succ]
        refine anyX_done (by kernel_rfl) ?_ _
        exact ⟨_, _, _, _, _, _, _, _, _, _, _, _, _, _, _, _, rfl, HF.out.1, HF.out.2.1, HF.out.2.2.1, HF.out.2.2.2⟩
  · skip
    obtain ⟨V11, hV11⟩ : ∃ V11, V0.alloc (.cells #[.int .i64 0, .int .i64 0, .int .i64 0, .int .i64 0] 55) = V11 := ⟨_, rfl⟩
    have hnV11 : Below V0.heap.size V0 V11 := by rw [← hV11]; exact new1 _ _
    have haV11 := at1 V0 (.cells #[.int .i64 0, .int .i64 0, .int .i64 0, .int .i64 0] 55)
    rw [hV11] at haV11
    have hzV11 : V11.heap.size ≤ V0.heap.size + 1 ∧ V0.heap.size + 1 ≤ V11.heap.size := by rw [← hV11]; simp
    go_simp
    try rw [hV11]
    have HBd_11 := hid haV11
    have HS_11 := hid (HS0.out.trans (hnV11.mono (by have := HS0.out.size; omega)))
    clear haV11 hnV11 hV11
    refine hK.out _ _ HS_11.out ?_
    clear hK K
    try simp only [Act.put, List.getElem_toArray, List.getElem_cons_zero, List.getElem_cons_succ, List.setIfInBounds_toArray, List.set_cons_zero, List.set_cons_succ]
    refine anyX_ready (rs := [12, 16]) (by kernel_rfl) (by simp) ?_
    refine ReadyX.cons rfl (fun K hK => ?_) (ReadyX.cons rfl (fun K hK => ?_) (ReadyX.nil))
    · skip
      go_simp
      rw [HS4.out]
      refine (tnod_any V11 (leftT i k) (HX3.out.below HS_11.out)).mono ?_
      rintro e V12 ⟨hnV12, z12, rfl, hz12⟩
      rw [HXX.out] at hz12
      rw [HD.out, ← HS4.out]
      have hzc := hz12
      obtain ⟨k4, t4, n4, l4, o4, A1, n1, c1, A2, n2, c2, A3, n3, c3, rfl⟩ := hzc.shape'
      have hzV12 := hnV12.size
      have HN_12 := hid hz12.iv
      have HBd_12 := hid ((hnV12.block (V0.heap.size) (by omega)).trans HBd_11.out)
      have HS_12 := hid (HS_11.out.trans (hnV12.mono (by have := HS_11.out.size; omega)))
      clear hnV12 hz12 hzc
      refine hK.out _ _ HS_12.out ?_
      clear hK K
      try simp only [Act.put, List.getElem_toArray, List.getElem_cons_zero, List.getElem_cons_succ, List.setIfInBounds_toArray, List.set_cons_zero, List.set_cons_succ]
      refine tt 13 (.tuple #[.agg #[.int .i64 k4, sv t4, .int .i64 n4, .int .i64 l4, .int .i64 o4, .slice A1 n1 c1, .slice A2 n2 c2, .slice A3 n3 c3], .agg #[.int .i64 0, .int .i64 (D.1 : Nat), .int .i64 (D.2.1 : Nat), .int .i64 D.2.2]]) (fun _ => HS_12.out) ?_
      refine tt 14 (.agg #[.int .i64 k4, sv t4, .int .i64 n4, .int .i64 l4, .int .i64 o4, .slice A1 n1 c1, .slice A2 n2 c2, .slice A3 n3 c3]) (fun _ => HS_12.out) ?_
      refine tt 15 (.agg #[.int .i64 0, .int .i64 (D.1 : Nat), .int .i64 (D.2.1 : Nat), .int .i64 D.2.2]) (fun _ => HS_12.out) ?_
      refine anyX_ready (rs := [16]) (by kernel_rfl) (by simp) ?_
      refine ReadyX.cons rfl (fun K hK => ?_) (ReadyX.nil)
      · skip
        obtain ⟨V13, hV13⟩ : ∃ V13, V12.alloc (.cells #[.int .i64 0, .string ⟨#[]⟩, .int .i64 0, .int .i64 0, .int .i64 0, .slice none 0 0, .slice none 0 0, .slice none 0 0] 49) = V13 := ⟨_, rfl⟩
        have hnV13 : Below V12.heap.size V12 V13 := by rw [← hV13]; exact new1 _ _
        have haV13 := at1 V12 (.cells #[.int .i64 0, .string ⟨#[]⟩, .int .i64 0, .int .i64 0, .int .i64 0, .slice none 0 0, .slice none 0 0, .slice none 0 0] 49)
        rw [hV13] at haV13
        have hzV13 : V13.heap.size ≤ V12.heap.size + 1 ∧ V12.heap.size + 1 ≤ V13.heap.size := by rw [← hV13]; simp
        go_simp
        try rw [hV13]
        have HBa_13 := hid haV13
        have HBd_13 := hid ((hnV13.block (V0.heap.size) (by omega)).trans HBd_12.out)
        have HN_13 := hid (HN_12.out.bel hnV13)
        have HS_13 := hid (HS_12.out.trans (hnV13.mono (by have := HS_12.out.size; omega)))
        clear haV13 hnV13 hV13
        refine hK.out _ _ HS_13.out ?_
        clear hK K
        try simp only [Act.put, List.getElem_toArray, List.getElem_cons_zero, List.getElem_cons_succ, List.setIfInBounds_toArray, List.set_cons_zero, List.set_cons_succ]
        have hsz := HS_13.out.size
        have hF := fin_world (e0 := .int .i64 0) (e1 := .int .i64 (D.1 : Nat)) (e2 := .int .i64 (D.2.1 : Nat)) (e3 := .int .i64 D.2.2) HS_13.out HBa_13.out HBd_13.out (by omega) (by omega) (by omega) (HN_13.out.mono (fun g _ h => by constructor <;> omega))
        have HF := hid hF
        have hM := put8_turn V13 (V12.heap.size) (.int .i64 k4) (sv t4) (.int .i64 n4) (.int .i64 l4) (.int .i64 o4) (.slice A1 n1 c1) (.slice A2 n2 c2) (.slice A3 n3 c3)
        have HDM := hid (block_turn HBd_13.out hM (by omega))
        have HSM := hid (HS_13.out.trans (hM.below (by omega) (fun k hk e => by omega)))
        obtain ⟨u0, u1, u2, u3, u4, u5, u6, u7, uz⟩ := cells8 HBa_13.out
        clear hF hM
        refine anyX_ready (rs := [18]) (by kernel_rfl) (by simp) ?_
        refine ReadyX.cons rfl (fun K hK => ?_) (ReadyX.nil)
        go_simp
        refine hK.out _ _ HSM.out ?_
        clear hK K
        try simp only [Act.put, List.getElem_toArray, List.getElem_cons_zero, List.getElem_cons_succ, List.setIfInBounds_toArray, List.set_cons_zero, List.set_cons_succ]
        obtain ⟨y0, y1, y2, y3, yz⟩ := cells4 HDM.out
        refine anyX_ready (rs := [19]) (by kernel_rfl) (by simp) ?_
        refine ReadyX.past rfl (by kernel_rfl) (fun K hK => ?_) (ReadyX.nil)
        go_simp
        refine hK.out _ _ ?_
        clear hK K
        try simp only [Act.put, List.getElem_toArray, List.getElem_cons_zero, List.getElem_cons_succ, List.setIfInBounds_toArray, List.set_cons_zero, List.set_cons_succ]
        refine anyX_done (by kernel_rfl) ?_ _
        exact ⟨_, _, _, _, _, _, _, _, _, _, _, _, _, _, _, _, rfl, HF.out.1, HF.out.2.1, HF.out.2.2.1, HF.out.2.2.2⟩
    · skip
      obtain ⟨V14, hV14⟩ : ∃ V14, V11.alloc (.cells #[.int .i64 0, .string ⟨#[]⟩, .int .i64 0, .int .i64 0, .int .i64 0, .slice none 0 0, .slice none 0 0, .slice none 0 0] 49) = V14 := ⟨_, rfl⟩
      have hnV14 : Below V11.heap.size V11 V14 := by rw [← hV14]; exact new1 _ _
      have haV14 := at1 V11 (.cells #[.int .i64 0, .string ⟨#[]⟩, .int .i64 0, .int .i64 0, .int .i64 0, .slice none 0 0, .slice none 0 0, .slice none 0 0] 49)
      rw [hV14] at haV14
      have hzV14 : V14.heap.size ≤ V11.heap.size + 1 ∧ V11.heap.size + 1 ≤ V14.heap.size := by rw [← hV14]; simp
      go_simp
      try rw [hV14]
      have HBa_14 := hid haV14
      have HBd_14 := hid ((hnV14.block (V0.heap.size) (by omega)).trans HBd_11.out)
      have HS_14 := hid (HS_11.out.trans (hnV14.mono (by have := HS_11.out.size; omega)))
      clear haV14 hnV14 hV14
      refine hK.out _ _ HS_14.out ?_
      clear hK K
      try simp only [Act.put, List.getElem_toArray, List.getElem_cons_zero, List.getElem_cons_succ, List.setIfInBounds_toArray, List.set_cons_zero, List.set_cons_succ]
      refine anyX_ready (rs := [12]) (by kernel_rfl) (by simp) ?_
      refine ReadyX.cons rfl (fun K hK => ?_) (ReadyX.nil)
      · skip
        go_simp
        rw [HS4.out]
        refine (tnod_any V14 (leftT i k) (HX3.out.below HS_14.out)).mono ?_
        rintro e V15 ⟨hnV15, z15, rfl, hz15⟩
        rw [HXX.out] at hz15
        rw [HD.out, ← HS4.out]
        have hzc := hz15
        obtain ⟨k4, t4, n4, l4, o4, A1, n1, c1, A2, n2, c2, A3, n3, c3, rfl⟩ := hzc.shape'
        have hzV15 := hnV15.size
        have HN_15 := hid hz15.iv
        have HBa_15 := hid ((hnV15.block (V11.heap.size) (by omega)).trans HBa_14.out)
        have HBd_15 := hid ((hnV15.block (V0.heap.size) (by omega)).trans HBd_14.out)
        have HS_15 := hid (HS_14.out.trans (hnV15.mono (by have := HS_14.out.size; omega)))
        clear hnV15 hz15 hzc
        refine hK.out _ _ HS_15.out ?_
        clear hK K
        try simp only [Act.put, List.getElem_toArray, List.getElem_cons_zero, List.getElem_cons_succ, List.setIfInBounds_toArray, List.set_cons_zero, List.set_cons_succ]
        refine tt 13 (.tuple #[.agg #[.int .i64 k4, sv t4, .int .i64 n4, .int .i64 l4, .int .i64 o4, .slice A1 n1 c1, .slice A2 n2 c2, .slice A3 n3 c3], .agg #[.int .i64 0, .int .i64 (D.1 : Nat), .int .i64 (D.2.1 : Nat), .int .i64 D.2.2]]) (fun _ => HS_15.out) ?_
        refine tt 14 (.agg #[.int .i64 k4, sv t4, .int .i64 n4, .int .i64 l4, .int .i64 o4, .slice A1 n1 c1, .slice A2 n2 c2, .slice A3 n3 c3]) (fun _ => HS_15.out) ?_
        refine tt 15 (.agg #[.int .i64 0, .int .i64 (D.1 : Nat), .int .i64 (D.2.1 : Nat), .int .i64 D.2.2]) (fun _ => HS_15.out) ?_
        have hsz := HS_15.out.size
        have hF := fin_world (e0 := .int .i64 0) (e1 := .int .i64 (D.1 : Nat)) (e2 := .int .i64 (D.2.1 : Nat)) (e3 := .int .i64 D.2.2) HS_15.out HBa_15.out HBd_15.out (by omega) (by omega) (by omega) (HN_15.out.mono (fun g _ h => by constructor <;> omega))
        have HF := hid hF
        have hM := put8_turn V15 (V11.heap.size) (.int .i64 k4) (sv t4) (.int .i64 n4) (.int .i64 l4) (.int .i64 o4) (.slice A1 n1 c1) (.slice A2 n2 c2) (.slice A3 n3 c3)
        have HDM := hid (block_turn HBd_15.out hM (by omega))
        have HSM := hid (HS_15.out.trans (hM.below (by omega) (fun k hk e => by omega)))
        obtain ⟨u0, u1, u2, u3, u4, u5, u6, u7, uz⟩ := cells8 HBa_15.out
        clear hF hM
        refine anyX_ready (rs := [18]) (by kernel_rfl) (by simp) ?_
        refine ReadyX.cons rfl (fun K hK => ?_) (ReadyX.nil)
        go_simp
        refine hK.out _ _ HSM.out ?_
        clear hK K
        try simp only [Act.put, List.getElem_toArray, List.getElem_cons_zero, List.getElem_cons_succ, List.setIfInBounds_toArray, List.set_cons_zero, List.set_cons_succ]
        obtain ⟨y0, y1, y2, y3, yz⟩ := cells4 HDM.out
        refine anyX_ready (rs := [19]) (by kernel_rfl) (by simp) ?_
        refine ReadyX.past rfl (by kernel_rfl) (fun K hK => ?_) (ReadyX.nil)
        go_simp
        refine hK.out _ _ ?_
        clear hK K
        try simp only [Act.put, List.getElem_toArray, List.getElem_cons_zero, List.getElem_cons_succ, List.setIfInBounds_toArray, List.set_cons_zero, List.set_cons_succ]
        refine anyX_done (by kernel_rfl) ?_ _
        exact ⟨_, _, _, _, _, _, _, _, _, _, _, _, _, _, _, _, rfl, HF.out.1, HF.out.2.1, HF.out.2.2.1, HF.out.2.2.2⟩
end Go.Proofs.YtmbppnbekkbibaaGreatDoor
