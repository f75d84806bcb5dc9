/- BytesDecodes, walked. -/
import Derived.Test.YtpnggkkfoipfhaaCX
set_option linter.unusedVariables false
namespace Go.Proofs.Ytpnggkkfoipfhaa
open Go.RowKit

set_option maxRecDepth 100000 in
set_option maxHeartbeats 4000000 in
theorem bytesDecodes_any (v : Value) (l : Bt) (w : World) (hv : Bs w w.heap.size v l) :
    Calls Try.prog 4 #[v] w fun e w' => e = .returned (.bool true) ∧ Below w.heap.size w w' := by
  have HV := hid hv
  obtain ⟨A, c, rfl, hn, hc, _⟩ := hv.open_
  unfold maxLen at hc
  clear hv
  go_enter Try.func4, Try.ntmps4
  go_wp2_with fail
  refine (awake_any w).mono ?_
  rintro e w1 ⟨rfl, hb1⟩
  have HB1 := hid hb1
  clear hb1
  by_cases hlong : (1048586 : Int) < (l.length : Int)
  · have hg : decide ((1048586 : Int) < (l.length : Int)) = true := by simpa using hlong
    go_wp2_with fail
    go_ret
    exact ⟨rfl, HB1.out⟩
  have hg : decide ((1048586 : Int) < (l.length : Int)) = false := by simpa using hlong
  have HN1 := hid (OwnB.nil w1 w1.heap.size 5)
  have HV1 := hid (HV.out.below HB1.out)
  have HLM : Hid (([] : Bt).length + l.length ≤ 140737488355328) := hid (by simp; omega)
  clear hlong
  go_wp2_with (at_builtin; go_must (refine wpList_appB rfl (.const (.slice none 0 0)) (.tmp 15) _ rfl w1.heap.size el_byte _ _ rfl rfl HN1.out HV1.out HLM.out (Nat.le_refl _) (fun v2 w2 hown2 hg2 hbk2 => ?_)); rw [List.nil_append] at hown2; have hb2 := below_appB HB1.out HN1.out hg2 HB1.out.size HB1.out.size; have HB2 := hid hb2; have hbs2 := hown2.bs; have HBS2 := hid hbs2; obtain ⟨A2, c2, rfl, hn2, hc2, _⟩ := hbs2.open_; unfold maxLen at hc2; have HD := hid (decode_any _ l w2 HBS2.out); clear hown2 hg2 hbk2 hb2 hbs2)
  clear hg
  refine HD.out.mono ?_
  rintro e w3 ⟨hb3, z, rfl, hz⟩
  obtain ⟨A3, A4, A5, A6, A7, n3, n4, n5, n6, n7, c3, c4, c5, c6, c7, rfl⟩ := hz.shape
  obtain ⟨C, hC⟩ : ∃ C, decC l = C := ⟨_, rfl⟩
  obtain ⟨E, hE⟩ : ∃ E, decE l = E := ⟨_, rfl⟩
  rw [hC] at hz ⊢
  rw [hE]
  obtain ⟨mn, hmn⟩ : ∃ mn, C.main = mn := ⟨_, rfl⟩
  obtain ⟨mg, hmg⟩ : ∃ mg, C.merge = mg := ⟨_, rfl⟩
  rw [hmn, hmg] at hz ⊢
  obtain ⟨W4, hW4⟩ : ∃ W4, w3.alloc (.cells #[.slice A3 n3 c3, .slice A4 n4 c4, .slice A5 n5 c5, .slice A6 n6 c6, .slice A7 n7 c7, .int .i64 mn, .bool mg] 28) = W4 := ⟨_, rfl⟩
  have hb23 : Below w.heap.size w w3 := HB2.out.trans (hb3.mono HB2.out.size)
  have hb34 : Below w3.heap.size w3 W4 := by rw [← hW4]; exact (Below.refl _ _).alloc (Nat.le_refl _) _
  have hb4 : Below w.heap.size w W4 := hb23.trans (hb34.mono hb23.size)
  have hx4 : W4.heap[w3.heap.size]? = some (.cells #[.slice A3 n3 c3, .slice A4 n4 c4, .slice A5 n5 c5, .slice A6 n6 c6, .slice A7 n7 c7, .int .i64 mn, .bool mg] 28 (0, 0)) := by rw [← hW4]; exact heap_alloc_new w3 _
  have HD2 := hid (rdecode_any _ l W4 ((HV.out.below hb4).more hb4.size))
  rw [hC, hE, ← hW4] at HD2
  have HZ4 := hid (hz.to hb34 hb34.size)
  have HX4 := hid hx4
  have HB4 := hid hb4
  have HBS4 := hid ((HBS2.out.below (hb3.trans (hb34.mono hb3.size))).more (Nat.le_trans hb3.size hb34.size))
  have HW4 := hid hW4
  clear hb3 hz hC hE hmn hmg hb23 hb34 hb4 hx4 hW4 HD
  go_wp2_with fail
  refine HD2.out.mono ?_
  rintro e w5 ⟨hb5, z, rfl, hz⟩
  rw [HW4.out] at hb5
  obtain ⟨B3, B4, B5, B6, B7, m3, m4, m5, m6, m7, d3, d4, d5, d6, d7, rfl⟩ := hz.shape
  generalize C.main = mn2 at *
  generalize C.merge = mg2 at *
  obtain ⟨W6, hW6⟩ : ∃ W6, w5.alloc (.cells #[.slice B3 m3 d3, .slice B4 m4 d4, .slice B5 m5 d5, .slice B6 m6 d6, .slice B7 m7 d7, .int .i64 mn2, .bool mg2] 28) = W6 := ⟨_, rfl⟩
  have hb56 : Below w5.heap.size w5 W6 := by rw [← hW6]; exact (Below.refl _ _).alloc (Nat.le_refl _) _
  have hb46 : Below W4.heap.size W4 W6 := hb5.trans (hb56.mono hb5.size)
  have HCS := hid (codes_same C W6 _ _ (HZ4.out.to hb46 hb46.size) (hz.to hb56 hb56.size))
  rw [← hW6] at HCS
  have hx5 := (hb5.block _ (block_lt HX4.out)).trans HX4.out
  obtain ⟨g0, g1, g2, g3, g4, g5, g6⟩ := code_row hx5
  have hwlt : w3.heap.size < w5.heap.size := block_lt hx5
  have HB6 := hid (HB4.out.trans (hb46.mono HB4.out.size))
  have HBS6 := hid ((HBS4.out.below hb46).more hb46.size)
  have HW6 := hid hW6
  clear hb5 hz hb56 hb46 hx5 hW6 HD2
  go_wp2_with fail
  refine HCS.out.mono ?_
  rintro e w7 ⟨rfl, hb7⟩
  rw [HW6.out] at hb7
  have HB7 := hid (HB6.out.trans (hb7.mono HB6.out.size))
  have hr1 := run_string_of (P := Try.prog) (HBS6.out.below hb7) 31 5 9 Try.underlying31 Try.underlying5 Try.underlying9
  have hr2 := run_string_of (P := Try.prog) (HV.out.below HB7.out) 31 5 9 Try.underlying31 Try.underlying5 Try.underlying9
  clear hb7 g0 g1 g2 g3 g4 g5 g6 hwlt
  go_wp2_with fail
  go_ret
  exact ⟨rfl, HB7.out⟩
end Go.Proofs.Ytpnggkkfoipfhaa
