/- BytesBack, walked. -/
import Derived.Test.YtpnggkkfoipfhaaCQ
import Derived.Test.YtpnggkkfoipfhaaCK
set_option linter.unusedVariables false
namespace Go.Proofs.Ytpnggkkfoipfhaa
open Go.RowKit

theorem flat_bound {α : Type} {e : α → Bt} {K : Nat} : ∀ {l : List α}, (∀ x ∈ l, (e x).length ≤ K) → (l.flatMap e).length ≤ l.length * K
  | [], _ => by simp
  | x :: l, h => by
    rw [List.flatMap_cons, List.length_append, List.length_cons, Nat.succ_mul]
    have := h x (List.mem_cons_self ..)
    have := flat_bound (l := l) fun y hy => h y (List.mem_cons_of_mem _ hy)
    omega
theorem list_bound {α : Type} {e : α → Bt} {K N : Nat} {l : List α} (h : ∀ x ∈ l, (e x).length ≤ K) (hn : l.length ≤ N) : (listE e l).length ≤ 10 + N * K := by
  unfold listE
  have h1 := (putL_some (l.length : Int)).2
  have h2 := flat_bound h
  have h3 := Nat.mul_le_mul_right K hn
  rw [List.length_append]; omega
theorem text_bound {s : Bt} {N : Nat} (h : s.length ≤ N) : (textE s).length ≤ 10 + N := by
  unfold textE
  have h1 := (putL_some (s.length : Int)).2
  rw [List.length_append]; omega
mutual
theorem co_bound : ∀ (c : CoD), SmallCo c → ShortCo c → (coE c).length ≤ coN c * 240060
  | .mk t n m f u, hs, hh => by
    rw [SmallCo] at hs
    rw [ShortCo] at hh
    obtain ⟨s1, s2, s3, s4, s5⟩ := hs
    obtain ⟨h1, h2, h3, h4⟩ := hh
    rw [coE_eq, coN]
    have a1 := list_bound (e := putL) (K := 10) (N := 1000) (l := t) (fun x _ => (putL_some x).2) s1
    have a2 := list_bound (e := needE) (K := 120) (N := 1000) (l := n) (fun x hx => by
      unfold needE
      have b1 := text_bound (h1 x hx)
      have b2 := (putL_some x.2).2
      rw [List.length_append]; omega) s2
    have a3 := list_bound (e := textE) (K := 110) (N := 1000) (l := m) (fun x hx => text_bound (h2 x hx)) s3
    have a4 := cos_bound f s4 h3
    have a5 := cos_bound u s5 h4
    have p1 := (putL_some (f.length : Int)).2
    have p2 := (putL_some (u.length : Int)).2
    rw [← cosE_list, ← cosE_list]
    simp only [List.length_append]
    omega
theorem cos_bound : ∀ (l : List CoD), SmallCos l → ShortCos l → (cosE l).length ≤ cosN l * 240060
  | [], _, _ => by simp [cosE]
  | c :: l, hs, hh => by
    rw [SmallCos] at hs
    rw [ShortCos] at hh
    rw [cosE, cosN, List.length_append]
    have a1 := co_bound c hs.1 hh.1
    have a2 := cos_bound l hs.2 hh.2
    omega
end
theorem code_bound {most : Nat} {c : CodeD} (h : SizedOk most c) (hs : ∀ x ∈ c.cos, ShortCo x) : (codeE c).length + 100 ≤ 140737488355000 := by
  unfold codeE
  have p1 := (putL_some (if c.merge then 1 else 0)).2
  have p2 := (putL_some c.main).2
  have p3 := (putL_some (c.cos.length : Int)).2
  have a1 := list_bound (e := putL) (K := 10) (N := 1000) (l := c.ints) (fun x _ => (putL_some x).2) h.ints
  have a2 := list_bound (e := textE) (K := 5010) (N := 100) (l := c.strs) (fun x hx => text_bound (h.str x hx)) h.strs
  have a3 := list_bound (e := listE textE) (K := 4010) (N := 100) (l := c.shapes) (fun x hx => list_bound (e := textE) (K := 40) (N := 100) (fun y hy => text_bound ((h.shape x hx).2 y hy)) (h.shape x hx).1) h.shapes
  have a4 := cos_bound c.cos (smallCos_mem.2 fun x hx => (h.co.1 x hx).2) (shortCos_mem.2 hs)
  have a5 := Nat.mul_le_mul_right 240060 h.co.2
  have a6 := list_bound (e := procE) (K := 40030) (N := 100) (l := c.procs) (fun x hx => by
    unfold procE
    have b1 := (putL_some x.caps).2
    have b2 := (putL_some x.regs).2
    have b3 := list_bound (e := instrE) (K := 40) (N := 1000) (l := x.code) (fun y _ => by
      unfold instrE
      have c1 := (putL_some y.1).2
      have c2 := (putL_some y.2.1).2
      have c3 := (putL_some y.2.2.1).2
      have c4 := (putL_some y.2.2.2).2
      simp only [List.length_append]; omega) (h.proc x hx)
    simp only [List.length_append]; omega) h.procs
  simp only [List.length_append]
  omega
theorem dec_back {c : CodeD} (h : CodeOk c) (hd : ∀ x ∈ c.cos, coH x ≤ 40) (hl : (codeE c).length ≤ 1048576) : decE (codeE c) = 0 ∧ decC (codeE c) = c := by
  constructor
  · unfold decE
    rw [if_neg (by omega), whole_back h hd]
    rfl
  · unfold decC
    rw [if_neg (by omega), whole_back h hd]
    rfl

set_option maxRecDepth 100000 in
set_option maxHeartbeats 8000000 in
theorem bytesBack_any (x : List Value) (c : CodeD) (w : World) (hr : CodeR w w.heap.size x c) (hok : CodeOk c) :
    Calls Try.prog 5 #[.agg x.toArray] w fun e w' => e = .returned (.bool true) ∧ Below w.heap.size w w' := by
  have hr0 := hr
  obtain ⟨A1, c1, A2, c2, A3, c3, A4, c4, A5, c5, xh, xc, xp, rfl, s1, s2, s3, q3, s4, q4, s5, q5⟩ := code_parts hr
  have l4 := (sl_len s4).2
  obtain ⟨mn, hmn⟩ : ∃ mn, c.main = mn := ⟨_, rfl⟩
  obtain ⟨mg, hmg⟩ : ∃ mg, c.merge = mg := ⟨_, rfl⟩
  rw [hmn, hmg] at hr0 ⊢
  clear hr hmn hmg
  generalize c.ints.length = n1 at *
  generalize c.strs.length = n2 at *
  generalize c.shapes.length = n3 at *
  generalize c.procs.length = n5 at *
  have hz1 := heap_alloc_new w (.cells #[.slice A1 n1 c1, .slice A2 n2 c2, .slice A3 n3 c3, .slice A4 c.cos.length c4, .slice A5 n5 c5, .int .i64 mn, .bool mg] 28)
  obtain ⟨W1, hW1⟩ : ∃ W1, W1 = w.alloc (.cells #[.slice A1 n1 c1, .slice A2 n2 c2, .slice A3 n3 c3, .slice A4 c.cos.length c4, .slice A5 n5 c5, .int .i64 mn, .bool mg] 28) := ⟨_, rfl⟩
  have hb1 : Below w.heap.size w W1 := by rw [hW1]; exact (Below.refl _ _).alloc (Nat.le_refl _) _
  rw [← hW1] at hz1
  have HWE := hid hW1
  have HB1 := hid hb1
  have HBS := hid hb1.size
  have HZ1 := hid hz1
  have HX1 := hid (hr0.to hb1 hb1.size)
  have H3 : Hid (Sl W1 w.heap.size 5 (.slice A4 c.cos.length c4) xc) := hid (Sl.below s4 hb1)
  have R3 := hid (q4.keep hb1)
  have HOK := hid hok
  have HA := hid (awake_any W1)
  rw [hW1] at HA
  have hrow : ∀ wz : World, Below W1.heap.size W1 wz → wz.heap[w.heap.size]? = some (.cells #[.slice A1 n1 c1, .slice A2 n2 c2, .slice A3 n3 c3, .slice A4 c.cos.length c4, .slice A5 n5 c5, .int .i64 mn, .bool mg] 28 (0, 0)) := fun wz h => (h.block _ (block_lt HZ1.out)).trans HZ1.out
  have HROW := hid hrow
  clear hr0 s1 s2 s3 s4 s5 q3 q4 q5 hz1 hb1 hW1 hok hrow
  go_enter Try.func5, Try.ntmps5
  go_wp2_with fail
  refine HA.out.mono ?_
  rintro e w2 ⟨rfl, hb2⟩
  rw [← HWE.out] at hb2
  obtain ⟨g0, g1, g2, g3, g4, g5, g6⟩ := code_row (HROW.out w2 hb2)
  have HS := hid (sized_any w2 _ c 40 (HX1.out.to hb2 hb2.size) (by omega))
  have HB2 := hid hb2
  clear hb2 HA
  go_wp2_with fail
  refine HS.out.mono ?_
  rintro e w3 ⟨b, rfl, hsz, hb3⟩
  have HSZ := hid hsz
  have HB3 := hid (HB2.out.trans (hb3.mono HB2.out.size))
  clear hsz hb3 HS HB2 g0 g1 g2 g3 g4 g5 g6
  cases b with
  | false =>
    go_wp2_with fail
    go_ret
    exact ⟨rfl, HB1.out.trans (HB3.out.mono HB1.out.size)⟩
  | true =>
    have HSO := hid (HSZ.out rfl)
    clear HSZ
    go_wp2_with fail
    go_loopw [5] (fun v5 wr => ∃ k : Nat, v5 = .int .i64 k ∧ k ≤ c.cos.length ∧ (∀ x ∈ c.cos.take k, ShortCo x) ∧ Below W1.heap.size W1 wr) (fun v5 _ => c.cos.length - (intOf v5).toNat)
    case atStart => exact ⟨0, rfl, by omega, by simp, HB3.out⟩
    case round =>
      obtain ⟨k, rfl, hk, hinv, hbr⟩ := hrel
      have p0 := (code_row (HROW.out wr hbr)).2.2.2.1
      have HINV := hid hinv
      clear hinv
      by_cases hlt : k < c.cos.length
      · have hlt0 := hlt
        obtain ⟨b1, o1, rfl, hc1⟩ := sl_in H3.out hlt (by omega)
        have hr1 := R3.out.at k hlt
        obtain ⟨P11, m11, q11, P12, m12, q12, P13, m13, q13, P14, m14, q14, P15, m15, q15, hv1⟩ := hr1.slices
        rw [hv1] at hr1
        have d10 : W1.cell? ⟨b1, o1 + k * 5, none⟩ = some (.slice P11 m11 q11) := by have := hc1 0 _ (part_get hv1 (by omega : 0 < 5)); simpa [Nat.add_assoc] using this
        have d11 : W1.cell? ⟨b1, o1 + k * 5 + 1, none⟩ = some (.slice P12 m12 q12) := by have := hc1 1 _ (part_get hv1 (by omega : 1 < 5)); simpa [Nat.add_assoc] using this
        have d12 : W1.cell? ⟨b1, o1 + k * 5 + 2, none⟩ = some (.slice P13 m13 q13) := by have := hc1 2 _ (part_get hv1 (by omega : 2 < 5)); simpa [Nat.add_assoc] using this
        have d13 : W1.cell? ⟨b1, o1 + k * 5 + 3, none⟩ = some (.slice P14 m14 q14) := by have := hc1 3 _ (part_get hv1 (by omega : 3 < 5)); simpa [Nat.add_assoc] using this
        have d14 : W1.cell? ⟨b1, o1 + k * 5 + 4, none⟩ = some (.slice P15 m15 q15) := by have := hc1 4 _ (part_get hv1 (by omega : 4 < 5)); simpa [Nat.add_assoc] using this
        have z0 := keep_cell hbr d10
        have z1 := keep_cell hbr d11
        have z2 := keep_cell hbr d12
        have z3 := keep_cell hbr d13
        have z4 := keep_cell hbr d14
        have HP := hid (names_any c.cos[k] wr _ (hr1.far HBS.out hbr))
        have FIN : Hid (ShortCo c.cos[k] → ∀ x ∈ c.cos.take (k + 1), ShortCo x) := hid (fun h => take_all (P := ShortCo) hlt HINV.out h)
        generalize c.cos[k] = X at *
        have HBR0 := hid hbr
        clear hc1 hv1 hr1 d10 d11 d12 d13 d14 hbr
        go_wp2_with fail
        refine HP.out.mono ?_
        rintro e w5 ⟨r, rfl, hd5, hb5⟩
        have HD5 := hid hd5
        have HBR := hid (HBR0.out.trans (hb5.mono HBR0.out.size))
        clear hd5 hb5 z0 z1 z2 z3 z4 p0
        cases r with
        | false =>
          go_wp2_with fail
          go_ret
          exact ⟨rfl, HB1.out.trans (HBR.out.mono HB1.out.size)⟩
        | true =>
          go_wp2_with fail
          go_roundw
          case rel => exact ⟨k + 1, rfl, by omega, FIN.out (HD5.out (by first | trivial | rfl)), HBR.out⟩
          case measure => simp [intOf]; omega
      · obtain rfl : k = c.cos.length := by omega
        rw [List.take_length] at HINV
        have HLEN := hid (code_bound HSO.out HINV.out)
        obtain ⟨g0, g1, g2, g3, g4, g5, g6⟩ := code_row (HROW.out wr hbr)
        have HE := hid (encode_any wr _ c (HX1.out.to hbr hbr.size) HOK.out HLEN.out)
        have HBR := hid hbr
        clear hbr p0
        go_wp2_with fail
        refine HE.out.mono ?_
        rintro e w4 ⟨v4, rfl, hown4, hb4⟩
        have hbs4 := hown4.bs
        have HBS4 := hid hbs4
        obtain ⟨A, cp, rfl, hn, hc, _⟩ := hbs4.open_
        unfold maxLen at hc
        have HB4 := hid (HBR.out.trans (hb4.mono HBR.out.size))
        clear hown4 hb4 hbs4 HE g0 g1 g2 g3 g4 g5 g6
        by_cases e0 : (1048576 : Int) < ((codeE c).length : Int)
        · have j0 : decide ((1048576 : Int) < ((codeE c).length : Int)) = true := by simpa using e0
          go_wp2_with fail
          go_ret
          exact ⟨rfl, HB1.out.trans (HB4.out.mono HB1.out.size)⟩
        have j0 : decide ((1048576 : Int) < ((codeE c).length : Int)) = false := by simpa using e0
        have hdec := dec_back HOK.out (fun x hx => (HSO.out.co.1 x hx).1) (by omega)
        have hD := decode_any _ (codeE c) w4 HBS4.out
        rw [hdec.1, hdec.2] at hD
        have HD := hid hD
        clear hD hdec e0
        go_wp2_with fail
        clear j0
        refine HD.out.mono ?_
        rintro e w5 ⟨hb5, z, rfl, hz⟩
        obtain ⟨B1, B2, B3, B4, B5, N1, N2, N3, N4, N5, C1, C2, C3, C4, C5, rfl⟩ := hz.shape
        generalize c.main = mn2 at *
        generalize c.merge = mg2 at *
        have hb45 : Below W1.heap.size W1 w5 := HB4.out.trans (hb5.mono HB4.out.size)
        obtain ⟨W6, hW6⟩ : ∃ W6, w5.alloc (.cells #[.slice B1 N1 C1, .slice B2 N2 C2, .slice B3 N3 C3, .slice B4 N4 C4, .slice B5 N5 C5, .int .i64 mn2, .bool mg2] 28) = W6 := ⟨_, rfl⟩
        have hb56 : Below w5.heap.size w5 W6 := by rw [← hW6]; exact (Below.refl _ _).alloc (Nat.le_refl _) _
        have hb6 : Below W1.heap.size W1 W6 := hb45.trans (hb56.mono hb45.size)
        have hnew : W6.heap[w5.heap.size]? = some (.cells #[.slice B1 N1 C1, .slice B2 N2 C2, .slice B3 N3 C3, .slice B4 N4 C4, .slice B5 N5 C5, .int .i64 mn2, .bool mg2] 28 (0, 0)) := by rw [← hW6]; exact heap_alloc_new w5 _
        have HCS := hid (codes_same c W6 _ _ (HX1.out.to hb6 hb6.size) (hz.to hb56 hb56.size))
        rw [← hW6] at HCS
        obtain ⟨g0, g1, g2, g3, g4, g5, g6⟩ := code_row (HROW.out w5 hb45)
        have hwlt : w.heap.size < w5.heap.size := block_lt (HROW.out w5 hb45)
        have HB6 := hid hb6
        have HW6 := hid hW6
        clear hb5 hz hb45 hb56 hb6 hnew hW6
        go_wp2_with fail
        refine HCS.out.mono ?_
        rintro e w7 ⟨rfl, hb7⟩
        rw [HW6.out] at hb7
        have HB7 := hid (HB6.out.trans (hb7.mono HB6.out.size))
        clear hb7 g0 g1 g2 g3 g4 g5 g6 hwlt
        go_wp2_with fail
        go_ret
        exact ⟨rfl, HB1.out.trans (HB7.out.mono HB1.out.size)⟩
end Go.Proofs.Ytpnggkkfoipfhaa
