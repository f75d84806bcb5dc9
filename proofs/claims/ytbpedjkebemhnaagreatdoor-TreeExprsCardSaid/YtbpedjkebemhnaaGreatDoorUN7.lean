/- An expression as text: simple kinds. -/
import Derived.Test.YtbpedjkebemhnaaGreatDoorUN
set_option linter.unusedVariables false
namespace Go.Proofs.YtbpedjkebemhnaaGreatDoor
open Go.RowKit

set_option maxRecDepth 100000 in
set_option maxHeartbeats 8000000 in
theorem expr_simple (k : Int) (hk : k = 0 ∨ k = 1 ∨ k = 2 ∨ k = 3 ∨ k = 4 ∨ k = 18 ∨ k = 19) (text : Bt) (n li co : Int) (ts : List TyD) (ns : List Bt) (ks : List NoD) (ih : ∀ y ∈ ks, ExC y) : ExC (.mk k text n li co ts ns ks) := by
  intro w z m hr hok hnd hc hX
  have hlen := expr_len _ m hnd
  obtain ⟨q, rfl, hk20, hown, hns, hts, hkk⟩ := node_open hnd
  rw [own_kids, Bool.and_eq_true, Bool.and_eq_true, Bool.and_eq_true, Bool.and_eq_true, decide_eq_true_eq, decide_eq_true_eq, decide_eq_true_eq, decide_eq_true_eq] at hown
  obtain ⟨⟨⟨⟨hn0, hn1⟩, htx⟩, hlo, hhi⟩, hkn, hkd⟩ := hown
  have htl := text_len htx
  rw [okN] at hok
  obtain ⟨ok1, ok2, ok3, ok4, ok5, ok6, ok7, ok8⟩ := hok
  obtain ⟨A1, c1, A2, c2, A3, c3, xt, xk, rfl, s1, r1, s2, s3, r3⟩ := hr.parts
  have l1 := (t_sl_len s1).2
  have l2 := (t_sl_len s2).2
  have l3 := (t_sl_len s3).2
  rw [exprS] at hlen ⊢
  rw [cntN] at hc hlen
  have hcT : cntTs ts ≤ 100000 := by omega
  have hcK : cntNs ks ≤ 100000 := by omega
  have hdc : ks.length ≤ 100000 := Nat.le_trans (cntNs_len ks) hcK
  obtain ⟨S, hS⟩ : ∃ S, exprSs ks = S := ⟨_, rfl⟩
  have hSL0 : S.length = ks.length := by rw [← hS, exprSs_length]
  have HSG : Hid (∀ (i : Nat) (h : i < ks.length) (h2 : i < S.length), S[i] = exprS ks[i]) := hid (by
    intro i h h2
    subst hS
    simp [exprSs_map])
  rw [hS] at hlen ⊢
  have HKK := hid (And.intro s3 r3)
  have HR := hid hr
  have HTT := hid (And.intro s1 r1)
  have HSS := hid s2
  have HIH := hid ih
  have HOK := hid (okNs_mem.1 ok8)
  have HNK := hid hkk
  have HCK := hid hcK
  have HCT := hid hcT
  have HTS := hid hts
  have HNS := hid hns
  have HX := hid hX
  have hn64 := ok3
  clear hr s1 r1 s2 s3 r3 ih ok1 ok2 ok3 ok4 ok5 ok6 ok7 ok8 hkk hts hns hX hS hnd hk20
  obtain ⟨a, hA⟩ : ∃ a, ts.length = a := ⟨_, rfl⟩
  obtain ⟨b, hB⟩ : ∃ b, ns.length = b := ⟨_, rfl⟩
  obtain ⟨d, hD⟩ : ∃ d, ks.length = d := ⟨_, rfl⟩
  rw [hA] at l1 HTT hlo hhi
  rw [hB] at l2 HSS hkn hkd
  rw [hD] at l3 HKK hkd hdc hSL0
  rw [hA, hB, hD] at HR
  rw [hA, hB, hD]
  have HA := hid hA
  have HBN := hid hB
  have HD := hid hD
  have HSL := hid hSL0
  clear hA hB hD
  have hk0 : (hasD k).kids = 0 := by rcases hk with rfl | rfl | rfl | rfl | rfl | rfl | rfl <;> rfl
  have hd0 : d = 0 := by
    rw [hk0] at hkd
    unfold kidsOf at hkd
    rw [if_neg (by decide)] at hkd
    omega
  have h2 : k = 2 → n = 0 ∨ n = 1 := by
    intro h
    subst h
    have h5 : (hasD 2).most = 1 := rfl
    omega
  have HT : Hid (nodeS k text n ts ns S = simpleS k text n ts) := hid (by rcases hk with rfl | rfl | rfl | rfl | rfl | rfl | rfl <;> rfl)
  have HKK0 := hid hk
  have H2 := hid h2
  have HTL := hid htl
  have HN64 := hid hn64
  have q7 : (k == 7) = false := by rw [beq_eq_false_iff_ne]; rcases hk with rfl | rfl | rfl | rfl | rfl | rfl | rfl <;> decide
  have q9 : (k == 9) = false := by rw [beq_eq_false_iff_ne]; rcases hk with rfl | rfl | rfl | rfl | rfl | rfl | rfl <;> decide
  have q10 : (k == 10) = false := by rw [beq_eq_false_iff_ne]; rcases hk with rfl | rfl | rfl | rfl | rfl | rfl | rfl <;> decide
  have q8 : (k == 8) = false := by rw [beq_eq_false_iff_ne]; rcases hk with rfl | rfl | rfl | rfl | rfl | rfl | rfl <;> decide
  have q17 : (k == 17) = false := by rw [beq_eq_false_iff_ne]; rcases hk with rfl | rfl | rfl | rfl | rfl | rfl | rfl <;> decide
  have q5 : (k == 5) = false := by rw [beq_eq_false_iff_ne]; rcases hk with rfl | rfl | rfl | rfl | rfl | rfl | rfl <;> decide
  have q6 : (k == 6) = false := by rw [beq_eq_false_iff_ne]; rcases hk with rfl | rfl | rfl | rfl | rfl | rfl | rfl <;> decide
  have q11 : (k == 11) = false := by rw [beq_eq_false_iff_ne]; rcases hk with rfl | rfl | rfl | rfl | rfl | rfl | rfl <;> decide
  have q12 : (k == 12) = false := by rw [beq_eq_false_iff_ne]; rcases hk with rfl | rfl | rfl | rfl | rfl | rfl | rfl <;> decide
  have q13 : (k == 13) = false := by rw [beq_eq_false_iff_ne]; rcases hk with rfl | rfl | rfl | rfl | rfl | rfl | rfl <;> decide
  have q14 : (k == 14) = false := by rw [beq_eq_false_iff_ne]; rcases hk with rfl | rfl | rfl | rfl | rfl | rfl | rfl <;> decide
  have q15 : (k == 15) = false := by rw [beq_eq_false_iff_ne]; rcases hk with rfl | rfl | rfl | rfl | rfl | rfl | rfl <;> decide
  have q16 : (k == 16) = false := by rw [beq_eq_false_iff_ne]; rcases hk with rfl | rfl | rfl | rfl | rfl | rfl | rfl <;> decide
  subst hd0
  clear hk hk0 hkd hkn h2 htx hlo hhi hn0 hn1 hn64 HKK HIH HOK HNK HCK HSG
  obtain ⟨OB, hOB⟩ : ∃ OB, Obj.cells #[.int .i64 k, sv text, .int .i64 n, .int .i64 li, .int .i64 co, .slice A1 a c1, .slice A2 b c2, .slice A3 0 c3] 26 (0, 0) = OB := ⟨_, rfl⟩
  obtain ⟨W, hW⟩ : ∃ W, (w.alloc (.cells #[.int .i64 k, sv text, .int .i64 n, .int .i64 li, .int .i64 co, .slice A1 a c1, .slice A2 b c2, .slice A3 0 c3] 26)).alloc (.cells #[.slice none 0 0] 23) = W := ⟨_, rfl⟩
  have HST0 : Hid (ExAt w W OB (.slice none 0 0) (S.take 0)) := hid (by
    rw [← hW, ← hOB]
    exact ⟨(two_new w _ _).2, OwnS.nil _ _ _, (two_new w _ _).1, ((Below.refl _ _).alloc (Nat.le_refl _) _).alloc (by simp) _⟩)
  have HOB := hid hOB
  have HWE := hid hW
  clear hW hOB
  go_enter Tryz.func33, Tryz.ntmps33
  go_wp2_with fail
  have hW := HWE.out
  rw [hW]
  clear hW
  go_loopw [10] (fun v10 wr => v10 = .int .i64 0 ∧ wr = W) (fun _ _ => 0)
  case atStart => exact ⟨rfl, rfl⟩
  case round =>
    obtain ⟨rfl, rfl⟩ := hrel
    have hat := HST0.out
    have hbr := hat.below
    obtain ⟨g0, g1, g2, g3, g4, g5, g6, g7⟩ := t_row8 (hat.node.trans (congrArg some HOB.out.symm))
    have HC := hid (simple_any wr _ k text n li co ts ns ks ((HR.out.keep hbr).more hbr.size) HKK0.out HN64.out H2.out HTL.out HTS.out HCT.out (HX.out.below hbr))
    have HB := hid hbr
    clear hat hbr
    go_wp2_with fail
    refine HC.out.mono ?_
    rintro e w2 ⟨rfl, hb⟩
    go_wp2_with fail
    go_ret
    exact ⟨by rw [HT.out]; rfl, HB.out.trans (hb.mono HB.out.size)⟩
end Go.Proofs.YtbpedjkebemhnaaGreatDoor
