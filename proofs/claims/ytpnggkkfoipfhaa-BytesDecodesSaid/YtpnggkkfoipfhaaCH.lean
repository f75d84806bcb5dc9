/- The law's first helper: awake. -/
import Derived.Test.YtpnggkkfoipfhaaCG
import Derived.Test.YtpnggkkfoipfhaaBT
set_option linter.unusedVariables false
namespace Go.Proofs.Ytpnggkkfoipfhaa
open Go.RowKit

theorem CodeR.shape {w : World} {B : Nat} {z : List Value} {c : CodeD} (h : CodeR w B z c) : ∃ (A1 A2 A3 A4 A5 : Option Addr) (n1 n2 n3 n4 n5 c1 c2 c3 c4 c5 : Nat), z = [.slice A1 n1 c1, .slice A2 n2 c2, .slice A3 n3 c3, .slice A4 n4 c4, .slice A5 n5 c5, .int .i64 c.main, .bool c.merge] := by
  obtain ⟨vi, vs, vh, vc, vp, xh, xc, xp, rfl, s1, s2, s3, s4, s5, s6, s7, s8⟩ := h
  obtain ⟨A1, n1, c1, rfl⟩ := sl_shape s1
  obtain ⟨A2, n2, c2, rfl⟩ := sl_shape s2
  obtain ⟨A3, n3, c3, rfl⟩ := sl_shape s3
  obtain ⟨A4, n4, c4, rfl⟩ := sl_shape s5
  obtain ⟨A5, n5, c5, rfl⟩ := sl_shape s7
  exact ⟨A1, A2, A3, A4, A5, n1, n2, n3, n4, n5, c1, c2, c3, c4, c5, rfl⟩
theorem noCode_bytes : codeE noCode = [0, 0, 0, 0, 0, 0, 0] := by decide
theorem noCode_ok : CodeOk noCode := by
  refine ⟨⟨?_, ?_⟩, ⟨?_, ?_⟩, ⟨?_, ?_⟩, ⟨?_, ?_⟩, ⟨?_, ?_⟩, ?_⟩ <;> first | (intro x hx; cases hx) | (unfold In64; simp [noCode])
theorem dec_seven : decE [0, 0, 0, 0, 0, 0, 0] = 0 ∧ decC [0, 0, 0, 0, 0, 0, 0] = noCode := by
  have h := whole_back noCode_ok (by intro x hx; cases hx)
  rw [noCode_bytes] at h
  unfold decE decC
  rw [h]
  exact ⟨rfl, rfl⟩
theorem dec_six : decE [0, 0, 0, 0, 0, 0] = 20 := by
  have h := whole_cut noCode_ok (by intro x hx; cases hx) (k := 6) (by rw [noCode_bytes]; decide)
  rw [noCode_bytes] at h
  unfold decE
  have h6 : List.take 6 ([0, 0, 0, 0, 0, 0, 0] : Bt) = [0, 0, 0, 0, 0, 0] := rfl
  rw [h6] at h
  rw [h]
  rfl
theorem bs_new2 (w : World) (o : Obj) (l : Bt) (t : TypeId) (hn : l.length ≤ maxLen) : Bs ((w.alloc o).alloc (.cells (bv l).toArray t)) ((w.alloc o).alloc (.cells (bv l).toArray t)).heap.size (.slice (some ⟨w.heap.size + 1, 0, none⟩) l.length l.length) l := by
  have hs : (w.alloc o).heap.size = w.heap.size + 1 := by simp
  have h := sl_new (w.alloc o) (bv l).toArray t 1 l.length (by simp [bv]) hn
  rw [hs] at h
  have hs2 : ((w.alloc o).alloc (.cells (bv l).toArray t)).heap.size = w.heap.size + 1 + 1 := by simp
  rw [hs2]
  unfold Bs
  simpa using h

set_option maxRecDepth 100000 in
set_option maxHeartbeats 4000000 in
theorem awake_any (w : World) : Calls Try.prog 8 #[] w fun e w' => e = .returned (.bool true) ∧ Below w.heap.size w w' := by
  have HE := hid (encode_any w _ noCode (noCode_reads w w.heap.size) noCode_ok (by rw [noCode_bytes]; decide))
  go_enter Try.func8, Try.ntmps8
  go_wp2_with fail
  refine HE.out.mono ?_
  rintro e w1 ⟨v1, rfl, ho1, hb1⟩
  rw [noCode_bytes] at ho1
  have HD := hid (decode_any v1 _ w1 ho1.bs)
  have HO1 := hid ho1.bs
  have hvs : ∃ A n c, v1 = .slice A n c := sl_shape ho1.bs
  obtain ⟨A1, n1, c1, rfl⟩ := hvs
  clear ho1 HE
  go_wp2_with fail
  refine HD.out.mono ?_
  rintro e w2 ⟨hb2, z, rfl, hz⟩
  rw [dec_seven.1]
  obtain ⟨B1, B2, B3, B4, B5, m1, m2, m3, m4, m5, k1, k2, k3, k4, k5, rfl⟩ := hz.shape
  clear hz HD
  go_wp2_with fail
  refine (decode_any _ [0, 0, 0, 0, 0, 0] _ (bs_new2 w2 _ [0, 0, 0, 0, 0, 0] 5 (by decide))).mono ?_
  rintro e w3 ⟨hb3, z, rfl, hz⟩
  rw [dec_six]
  obtain ⟨C1, C2, C3, C4, C5, q1, q2, q3, q4, q5, j1, j2, j3, j4, j5, rfl⟩ := hz.shape
  have hb13 : Below w1.heap.size w1 w3 := (hb2.trans ((((Below.refl w1.heap.size w2).alloc hb2.size _).alloc (by have := hb2.size; simp; omega) _))).trans (hb3.mono (by have := hb2.size; simp; omega))
  have HB13 := hid hb13
  generalize (decC [0, 0, 0, 0, 0, 0]).main = M1 at *
  generalize (decC [0, 0, 0, 0, 0, 0]).merge = M2 at *
  have hb14 : Below w1.heap.size w1 (w3.alloc (.cells #[.slice C1 q1 j1, .slice C2 q2 j2, .slice C3 q3 j3, .slice C4 q4 j4, .slice C5 q5 j5, .int .i64 M1, .bool M2] 28)) := hb13.alloc hb13.size _
  have hst := run_string_of (P := Try.prog) (Bs.below HO1.out hb14) 31 5 9 Try.underlying31 Try.underlying5 Try.underlying9
  have HB14 := hid hb14
  clear hz hb3 hb13 hb14
  go_wp2_with fail
  go_ret
  exact ⟨rfl, hb1.trans (HB14.out.mono hb1.size)⟩
end Go.Proofs.Ytpnggkkfoipfhaa
