/- BytesCuts, walked. -/
import Derived.Test.YtpnggkkfoipfhaaCS
set_option linter.unusedVariables false
namespace Go.Proofs.Ytpnggkkfoipfhaa
open Go.RowKit

set_option maxRecDepth 100000 in
set_option maxHeartbeats 2000000 in
theorem bytesCuts_any (x : List Value) (c : CodeD) (cut : Int) (vm : Value) (m : Bt) (w : World) (hr : CodeR w w.heap.size x c) (hok : CodeOk c) (hcut : In64 cut) (hm : Bs w w.heap.size vm m) (hlen : (codeE c).length + 100 ≤ 140737488355000) :
    Calls Try.prog 7 #[.agg x.toArray, .int .i64 cut, vm] w fun e w' => e = .returned (.bool true) ∧ Below w.heap.size w w' := by
  have hr0 := hr
  obtain ⟨A1, c1, A2, c2, A3, c3, A4, c4, A5, c5, xh, xc, xp, rfl, s1, s2, s3, q3, s4, q4, s5, q5⟩ := code_parts hr
  obtain ⟨mn, hmn⟩ : ∃ mn, c.main = mn := ⟨_, rfl⟩
  obtain ⟨mg, hmg⟩ : ∃ mg, c.merge = mg := ⟨_, rfl⟩
  rw [hmn, hmg] at hr0 ⊢
  clear hr hmn hmg s1 s2 s3 s4 s5 q3 q4 q5
  generalize c.ints.length = n1 at *
  generalize c.strs.length = n2 at *
  generalize c.shapes.length = n3 at *
  generalize c.cos.length = n4 at *
  generalize c.procs.length = n5 at *
  have hz1 := heap_alloc_new w (.cells #[.slice A1 n1 c1, .slice A2 n2 c2, .slice A3 n3 c3, .slice A4 n4 c4, .slice A5 n5 c5, .int .i64 mn, .bool mg] 28)
  obtain ⟨W1, hW1⟩ : ∃ W1, W1 = w.alloc (.cells #[.slice A1 n1 c1, .slice A2 n2 c2, .slice A3 n3 c3, .slice A4 n4 c4, .slice A5 n5 c5, .int .i64 mn, .bool mg] 28) := ⟨_, rfl⟩
  have hb1 : Below w.heap.size w W1 := by rw [hW1]; exact (Below.refl _ _).alloc (Nat.le_refl _) _
  rw [← hW1] at hz1
  have HWE := hid hW1
  have HB1 := hid hb1
  have HZ1 := hid hz1
  have HX1 := hid (hr0.to hb1 hb1.size)
  have HOK := hid hok
  have HLEN := hid hlen
  have HA := hid (awake_any W1)
  rw [hW1] at HA
  have hrow : ∀ wz : World, Below W1.heap.size W1 wz → wz.heap[w.heap.size]? = some (.cells #[.slice A1 n1 c1, .slice A2 n2 c2, .slice A3 n3 c3, .slice A4 n4 c4, .slice A5 n5 c5, .int .i64 mn, .bool mg] 28 (0, 0)) := fun wz h => (h.block _ (block_lt HZ1.out)).trans HZ1.out
  have HROW := hid hrow
  clear hr0 hz1 hb1 hW1 hok hrow hlen
  have HVM := hid hm
  obtain ⟨Am, cm, rfl, hmn, hmc, _⟩ := hm.open_
  unfold maxLen at hmc
  unfold In64 at hcut
  clear hm
  go_enter Try.func7, Try.ntmps7
  go_wp2_with fail
  refine HA.out.mono ?_
  rintro e w2 ⟨rfl, hb2⟩
  rw [← HWE.out] at hb2
  obtain ⟨g0, g1, g2, g3, g4, g5, g6⟩ := code_row (HROW.out w2 hb2)
  have HS := hid (sized_any w2 _ c 40 (HX1.out.to hb2 hb2.size) (by omega))
  have HB2 := hid hb2
  clear hb2 HA
  go_wp2_with fail
  refine HS.out.mono ?_
  rintro e w3 ⟨b, rfl, hsz, hb3⟩
  have HSZ := hid hsz
  have HB3 := hid (HB2.out.trans (hb3.mono HB2.out.size))
  clear hsz hb3 HS HB2 g0 g1 g2 g3 g4 g5 g6
  cases b with
  | false =>
    go_wp2_with fail
    go_ret
    exact ⟨rfl, HB1.out.trans (HB3.out.mono HB1.out.size)⟩
  | true =>
    have HCO := hid (fun x hx => ((HSZ.out rfl).co.1 x hx).1)
    clear HSZ
    by_cases e0 : (100 : Int) < (m.length : Int)
    · have j0 : decide ((100 : Int) < (m.length : Int)) = true := by simpa using e0
      go_wp2_with fail
      go_ret
      exact ⟨rfl, HB1.out.trans (HB3.out.mono HB1.out.size)⟩
    have j0 : decide ((100 : Int) < (m.length : Int)) = false := by simpa using e0
    obtain ⟨g0, g1, g2, g3, g4, g5, g6⟩ := code_row (HROW.out w3 HB3.out)
    have HE := hid (encode_any w3 _ c (HX1.out.to HB3.out HB3.out.size) HOK.out HLEN.out)
    go_wp2_with fail
    refine HE.out.mono ?_
    rintro e w4 ⟨v4, rfl, hown4, hb4⟩
    have hbs4 := hown4.bs
    have HBS4 := hid hbs4
    obtain ⟨A, cp, rfl, hn, hc, _⟩ := hbs4.open_
    unfold maxLen at hc
    have HB4 := hid (HB1.out.trans ((HB3.out.trans (hb4.mono HB3.out.size)).mono HB1.out.size))
    clear hown4 hb4 hbs4 HE g0 g1 g2 g3 g4 g5 g6 j0
    obtain ⟨L, hL⟩ : ∃ L, (codeE c).length = L := ⟨_, rfl⟩
    have HL := hid hL
    rw [hL] at hn ⊢
    rw [hL] at HBS4
    clear hL
    by_cases e1 : (4000 : Int) < (L : Int)
    · have j1 : decide ((4000 : Int) < (L : Int)) = true := by simpa using e1
      go_wp2_with fail
      go_ret
      exact ⟨rfl, HB4.out⟩
    have j1 : decide ((4000 : Int) < (L : Int)) = false := by simpa using e1
    by_cases e2 : cut < 0
    · have j2 : decide (cut < 0) = true := by simpa using e2
      go_wp2_with fail
      go_ret
      exact ⟨rfl, HB4.out⟩
    have j2 : decide (cut < 0) = false := by simpa using e2
    by_cases e3 : (L : Int) ≤ cut
    · have j3 : decide ((L : Int) ≤ cut) = true := by simpa using e3
      go_wp2_with fail
      go_ret
      exact ⟨rfl, HB4.out⟩
    have j3 : decide ((L : Int) ≤ cut) = false := by simpa using e3
    obtain ⟨k, rfl⟩ := Int.eq_ofNat_of_zero_le (by omega : 0 ≤ cut)
    have hkl : k < L := by omega
    have hrun := fun w => run_upto A L cp k (by omega) w
    have hD := decode_any _ ((codeE c).take k) w4 (HBS4.out.upto_ (by omega : k ≤ L))
    have h20 : decE ((codeE c).take k) = 20 := dec_none (whole_cut HOK.out HCO.out (by rw [HL.out]; exact hkl)) (by rw [List.length_take, HL.out]; omega)
    rw [h20] at hD
    have HD := hid hD
    clear hD h20
    go_wp2_with fail
    clear j1 j2 j3
    refine HD.out.mono ?_
    rintro e w5 ⟨hb5, z, rfl, hz⟩
    obtain ⟨B1, B2, B3, B4, B5, N1, N2, N3, N4, N5, C1, C2, C3, C4, C5, rfl⟩ := hz.shape
    generalize (decC ((codeE c).take k)).main = mn2 at *
    generalize (decC ((codeE c).take k)).merge = mg2 at *
    have hb6 : Below w5.heap.size w5 (w5.alloc (.cells #[.slice B1 N1 C1, .slice B2 N2 C2, .slice B3 N3 C3, .slice B4 N4 C4, .slice B5 N5 C5, .int .i64 mn2, .bool mg2] 28)) := (Below.refl _ _).alloc (Nat.le_refl _) _
    have hb5w : Below w.heap.size w w5 := HB4.out.trans (hb5.mono HB4.out.size)
    have HS6 := hid hb6.size
    have HB6 := hid (hb5w.trans (hb6.mono hb5w.size))
    have HV6 := hid (HBS4.out.below (hb5.trans (hb6.mono hb5.size)))
    have HS5 := hid hb5w.size
    have HN6 := hid (OwnB.nil (w5.alloc (.cells #[.slice B1 N1 C1, .slice B2 N2 C2, .slice B3 N3 C3, .slice B4 N4 C4, .slice B5 N5 C5, .int .i64 mn2, .bool mg2] 28)) w5.heap.size 5)
    have HLM : Hid (([] : Bt).length + (codeE c).length ≤ 140737488355328) := hid (by rw [HL.out]; simp; omega)
    have HLM2 : Hid ((codeE c).length + m.length ≤ 140737488355328) := hid (by rw [HL.out]; omega)
    have HE0 := hid (show (m.length : Int) ≤ 100 ∧ (L : Int) ≤ 4000 by omega)
    clear hb5 hz HD hrun hb6 hb5w e0 e1 e2 e3 hcut
    obtain ⟨lm, hlm⟩ : ∃ lm, codeE c ++ m = lm := ⟨_, rfl⟩
    have HLQ := hid hlm
    clear hlm
    go_wp2_with (at_builtin; go_must (first | (refine wpList_appB rfl (.const (.slice none 0 0)) (.tmp 52) _ rfl w5.heap.size el_byte _ _ rfl rfl HN6.out HV6.out HLM.out HS6.out (fun v7 w7 hown7 hg7 hbk7 => ?_); rw [List.nil_append] at hown7; have hb7 := below_appB HB6.out HN6.out hg7 HS5.out HB6.out.size; have HS7 := hid (Nat.le_trans HS6.out hg7.size); have HV7 := hid (HVM.out.below hb7); have HO7 := hid hown7; have HB7 := hid hb7; clear hg7 hbk7 hown7 hb7) | (refine wpList_appB rfl (.tmp 53) (.tmp 54) _ rfl w5.heap.size el_byte _ _ rfl rfl HO7.out HV7.out HLM2.out HS7.out (fun v8 w8 hown8 hg8 hbk8 => ?_); rw [HLQ.out] at hown8; have hb8 := below_appB HB7.out HO7.out hg8 HS5.out HB7.out.size; have HB8 := hid hb8; have hbs8 := hown8.bs; have HBS8 := hid hbs8; obtain ⟨A8, cp8, rfl, hn8, hc8, _⟩ := hbs8.open_; unfold maxLen at hc8; have HD := hid (decode_any _ _ w8 HBS8.out); clear hg8 hbk8 hb8 hown8 hbs8)))
    refine HD.out.mono ?_
    rintro e w9 ⟨hb9, z, rfl, hz⟩
    obtain ⟨B1, B2, B3, B4, B5, N1, N2, N3, N4, N5, C1, C2, C3, C4, C5, rfl⟩ := hz.shape
    generalize (decC lm).main = mn3 at *
    generalize (decC lm).merge = mg3 at *
    have HB9 := hid (HB8.out.trans (hb9.mono HB8.out.size))
    clear hb9 hz HD
    cases m with
    | nil =>
      generalize decE lm = E
      have j5 : (([] : Bt).length : Int) = 0 := rfl
      go_wp2_with fail
      go_ret
      exact ⟨rfl, HB9.out.alloc HB9.out.size _⟩
    | cons y m =>
      have h20 : decE lm = 20 := by
        rw [← HLQ.out]
        exact dec_none (whole_more HOK.out HCO.out (by simp)) (by rw [List.length_append, HL.out]; have := HE0.out; omega)
      rw [h20]
      have j5 : ((((y :: m : Bt).length : Nat) : Int) == 0) = false := by simp; omega
      go_wp2_with fail
      go_ret
      exact ⟨rfl, HB9.out.alloc HB9.out.size _⟩
end Go.Proofs.Ytpnggkkfoipfhaa
