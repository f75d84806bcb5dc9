/- The contract of the laws' first question: the chapter's examples hold. -/
import Derived.Test.YtfgfafojmjbmbaaDoorWE
import Derived.Test.YtfgfafojmjbmbaaDoorWF
import Derived.Test.YtfgfafojmjbmbaaDoorWH
set_option linter.unusedVariables false
namespace Go.Proofs.YtfgfafojmjbmbaaDoor
open Go.RowKit

theorem b1 : binV 3 (-7) 2 = (-3, 0) := by decide +kernel
theorem b2 : binV 4 (-7) 2 = (-1, 0) := by decide +kernel
theorem b3 : binV 3 1 0 = (0, 23) := by decide +kernel
theorem b4 : binV 5 1 65 = (2, 0) := by decide +kernel
theorem b5 : binV 6 (-8) 1 = (-4, 0) := by decide +kernel
theorem f1 : fitV 255 8 = -1 := by decide +kernel
theorem f2 : fitV 128 8 = -128 := by decide +kernel
theorem p1 : putL (-1) = [1] := by decide +kernel
theorem p2 : putL 64 = [128, 1] := by decide +kernel
theorem q1 : parseV [48, 48, 55] = (0, false) := parse_zero (by decide)
theorem q2 : parseV [48] = (0, true) := by
  have h := parse_end (l := [48]) (by decide) (by decide) (by decide)
  rw [h]
  have e : valFrom 0 [48] = 0 := by rw [valFrom_cons, valFrom_nil]; rfl
  rw [e]; rfl
theorem s1 : Lib.itoa (-5) = [45, 53] := by
  have h := Lib.itoa_neg 5 (by decide)
  rw [Lib.decDigits_one (by decide)] at h
  exact h

theorem bin_b (op a b : Int) (w : World) :
    Calls Tryd.prog 15 #[.int .i64 op, .int .i64 a, .int .i64 b] w fun e w' => e = .returned (.tuple #[.int .i64 (binV op a b).1, .int .i64 (binV op a b).2]) ∧ Below w.heap.size w w' :=
  (bin_any op a b w).mono fun _ _ ⟨h, n, hw⟩ => ⟨h, hw ▸ below_drawn w n⟩
theorem refbin_b (op a b : Int) (w : World) :
    Calls Tryd.prog 16 #[.int .i64 op, .int .i64 a, .int .i64 b] w fun e w' => e = .returned (.tuple #[.int .i64 (binV op a b).1, .int .i64 (binV op a b).2]) ∧ Below w.heap.size w w' :=
  (refbin_any op a b w).mono fun _ _ ⟨h, n, hw⟩ => ⟨h, hw ▸ below_drawn w n⟩

set_option maxRecDepth 100000 in
set_option maxHeartbeats 2000000 in
theorem awake_any (w : World) (hL : LaidW w) :
    Calls Tryd.prog 14 #[] w fun e w' => e = .returned (.bool true) ∧ Below w.heap.size w w' := by
  have b1 := b1
  have b2 := b2
  have b3 := b3
  have b4 := b4
  have b5 := b5
  have f1 := f1
  have f2 := f2
  have p1 := p1
  have p2 := p2
  have s1 := s1
  have q1 := q1
  have q2 := q2
  go_enter Tryd.func14, Tryd.ntmps14
  go_wp2_with fail
  refine (bin_b _ _ _ _).mono ?_
  rintro e w1 ⟨rfl, hb1⟩
  go_wp2_with fail
  refine (bin_b _ _ _ _).mono ?_
  rintro e w2 ⟨rfl, hb2⟩
  go_wp2_with fail
  refine (bin_b _ _ _ _).mono ?_
  rintro e w3 ⟨rfl, hb3⟩
  go_wp2_with fail
  refine (bin_b _ _ _ _).mono ?_
  rintro e w4 ⟨rfl, hb4⟩
  go_wp2_with fail
  refine (bin_b _ _ _ _).mono ?_
  rintro e w5 ⟨rfl, hb5⟩
  have HB5 := hid (bthen hb1 (bthen hb2 (bthen hb3 (bthen hb4 hb5))))
  clear hb1 hb2 hb3 hb4 hb5
  have hL5 := hL.below HB5.out
  go_wp2_with fail
  refine (parse_any _ _ (by decide) hL5).mono ?_
  rintro e w6 ⟨rfl, hb6⟩
  have hL6 := hL5.below hb6
  go_wp2_with fail
  refine (parse_any _ _ (by decide) hL6).mono ?_
  rintro e w7 ⟨rfl, hb7⟩
  have hL7 := hL6.below hb7
  have HB7 := hid (bthen HB5.out (bthen hb6 hb7))
  clear hb6 hb7 hL6 hL5 HB5
  go_wp2_with fail
  refine (fit_any _ _ _ (by unfold In64; decide)).mono ?_
  rintro e w' ⟨rfl, rfl⟩
  go_wp2_with fail
  refine (fit_any _ _ _ (by unfold In64; decide)).mono ?_
  rintro e w' ⟨rfl, rfl⟩
  go_wp2_with fail
  refine (put_any _ [] _ _ (by unfold In64; decide) (Sl.nil _ _ _) (by decide)).mono ?_
  rintro e w8 ⟨v8, rfl, hown8, hb8⟩
  have hc8 := run_string_of (P := Tryd.prog) hown8.bs 34 5 9 Tryd.underlying34 Tryd.underlying5 Tryd.underlying9
  have HB8 := hid (bthen HB7.out hb8)
  have hL8 := hL7.below hb8
  clear hown8 hb8 hL7 HB7
  go_wp2_with fail
  refine (put_any _ [] _ _ (by unfold In64; decide) (Sl.nil _ _ _) (by decide)).mono ?_
  rintro e w9 ⟨v9, rfl, hown9, hb9⟩
  have hc9 := run_string_of (P := Tryd.prog) hown9.bs 34 5 9 Tryd.underlying34 Tryd.underlying5 Tryd.underlying9
  have HB9 := hid (bthen HB8.out hb9)
  have hL9 := hL8.below hb9
  clear hown9 hb9 hL8 HB8 hc8
  go_wp2_with fail
  refine (show_any _ _ (by unfold In64; decide) hL9).mono ?_
  rintro e w10 ⟨rfl, hb10⟩
  have HB10 := hid (bthen HB9.out hb10)
  clear hb10 hL9 HB9 hc9
  go_wp2_with fail
  go_ret
  exact ⟨rfl, HB10.out⟩
end Go.Proofs.YtfgfafojmjbmbaaDoor
