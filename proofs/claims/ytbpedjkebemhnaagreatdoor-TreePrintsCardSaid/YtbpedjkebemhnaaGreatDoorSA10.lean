/- YE, YH, MA, ShelfB, YF -/
import Derived.Test.YtbpedjkebemhnaaGreatDoorSA07
import Derived.Test.YtbpedjkebemhnaaGreatDoorSA08
import Derived.Test.YtbpedjkebemhnaaGreatDoorSA09
import Derived.Test.YtbpedjkebemhnaaGreatDoorSA01
import Derived.Lib.AppendStr
import Derived.Shelf.Strings.Builder1
import Derived.Shelf.Strings.Builder2
import Derived.Shelf.Strings.OnBuilder
import Derived.Shelf.Small.Bits
import Derived.Shelf.Small.Strs
import Derived.Shelf.Strings.BuilderF
import Derived.Shelf.Strings.BuilderK
import Derived.Shelf.Strconv.Atoi
import Derived.Shelf.Strconv.Itoa0
import Derived.Shelf.Strconv.Itoa1
import Derived.Shelf.LaysM
import Derived.Shelf.Strconv.Itoa2
import Derived.Shelf.Strconv.Itoa3
import Derived.Shelf.Strconv.AtoiErrFast
import Derived.Shelf.Strconv.ParseIntEmpty
import Derived.Shelf.Strconv.AtoiFail
import Derived.Shelf.Strconv.Clone
import Derived.Shelf.Strconv.SyntaxError
import Derived.Shelf.LaysC
import Derived.Shelf.Strconv.ToError
import Derived.Shelf.Strconv.Lower
import Derived.Shelf.Strconv.ParseUint10
import Derived.Shelf.Strconv.ParseUint10Empty
import Derived.Shelf.Strconv.ParseUint10Any
import Derived.Shelf.Strconv.ParseInt10
import Derived.Shelf.Strconv.AtoiLong
import Derived.Shelf.Strconv.AtoiInnerAll
import Derived.Shelf.Strconv.RangeError
import Derived.Shelf.Strconv.ToErrorRange
import Derived.Shelf.Strconv.AtoiAll
import Derived.Shelf.Strconv.ErrVarAll
import Derived.Shelf.Strings.Search1
import Derived.Shelf.Strings.Search2
import Derived.Shelf.Strings.Search3
import Derived.Shelf.Strings.Count
import Derived.Shelf.Strings.Shaped
import Derived.Shelf.GgClosure.StringsIndexFunc
import Derived.Shelf.Strings.Split
import Derived.Shelf.Strings.Fields
import Derived.Shelf.Strings.SplitShaped
import Derived.Shelf.Unicode.Latin
import Derived.Shelf.Unicode.Is16White
import Derived.Shelf.Unicode.IsSpaceAny
import Derived.Shelf.Unicode.Is16WhiteD
import Derived.Shelf.Unicode.IsSpaceAnyD
import Derived.Shelf.Strings.FieldsAny
import Derived.Shelf.Strings.FieldsFuncAny
import Derived.Shelf.Unicode.Is16Any
import Derived.Shelf.Unicode.Is32Any
import Derived.Shelf.Unicode.ExclAny
import Derived.Shelf.Slices.Turned
import Derived.Test.YtbpedjkebemhnaaGreatDoorProg
import Derived.Test.YtbpedjkebemhnaaGreatDoorSA03
import Derived.Test.YtbpedjkebemhnaaGreatDoorSA06
set_option linter.unusedSimpArgs false
set_option linter.unusedVariables false
section
/- May a function be printed: tree.decl. -/
set_option linter.unusedVariables false
namespace Go.Proofs.YtbpedjkebemhnaaGreatDoor
open Go.RowKit

theorem t_row15 {w : World} {b : Nat} {x0 x1 x2 x3 x4 x5 x6 x7 x8 x9 x10 x11 x12 x13 x14 : Value} {T : TypeId} (h : w.heap[b]? = some (.cells #[x0, x1, x2, x3, x4, x5, x6, x7, x8, x9, x10, x11, x12, x13, x14] T (0, 0))) :
    w.cell? ⟨b, 0, none⟩ = some x0 ∧ w.cell? ⟨b, 1, none⟩ = some x1 ∧ w.cell? ⟨b, 2, none⟩ = some x2 ∧ w.cell? ⟨b, 3, none⟩ = some x3 ∧ w.cell? ⟨b, 4, none⟩ = some x4 ∧ w.cell? ⟨b, 5, none⟩ = some x5 ∧ w.cell? ⟨b, 6, none⟩ = some x6 ∧ w.cell? ⟨b, 7, none⟩ = some x7 ∧ w.cell? ⟨b, 8, none⟩ = some x8 ∧ w.cell? ⟨b, 9, none⟩ = some x9 ∧ w.cell? ⟨b, 10, none⟩ = some x10 ∧ w.cell? ⟨b, 11, none⟩ = some x11 ∧ w.cell? ⟨b, 12, none⟩ = some x12 ∧ w.cell? ⟨b, 13, none⟩ = some x13 ∧ w.cell? ⟨b, 14, none⟩ = some x14 :=
  ⟨(cell_of_row _ _ _ _ _ _ h).trans rfl, (cell_of_row _ _ _ _ _ _ h).trans rfl, (cell_of_row _ _ _ _ _ _ h).trans rfl, (cell_of_row _ _ _ _ _ _ h).trans rfl, (cell_of_row _ _ _ _ _ _ h).trans rfl, (cell_of_row _ _ _ _ _ _ h).trans rfl, (cell_of_row _ _ _ _ _ _ h).trans rfl, (cell_of_row _ _ _ _ _ _ h).trans rfl, (cell_of_row _ _ _ _ _ _ h).trans rfl, (cell_of_row _ _ _ _ _ _ h).trans rfl, (cell_of_row _ _ _ _ _ _ h).trans rfl, (cell_of_row _ _ _ _ _ _ h).trans rfl, (cell_of_row _ _ _ _ _ _ h).trans rfl, (cell_of_row _ _ _ _ _ _ h).trans rfl, (cell_of_row _ _ _ _ _ _ h).trans rfl⟩
theorem ty_one {w : World} {B : Nat} {x : List Value} {t : TyD} (h : TyR w B x t) : ∀ u ∈ x, u.oneCell' = true := by
  obtain ⟨k, s, A1, n1, c1, A2, n2, c2, rfl⟩ := h.shape
  intro u hu
  simp only [List.mem_cons, List.not_mem_nil, or_false] at hu
  rcases hu with rfl | rfl | rfl | rfl <;> rfl
theorem tys_one {w : World} {B : Nat} : ∀ {x : List Value} {l : List TyD}, TysR w B x l → ∀ u ∈ x, u.oneCell' = true
  | _, _, .nil => by simp
  | _, _, .cons h1 h2 => fun u hu => by
    rcases List.mem_append.1 hu with hu | hu
    · exact ty_one h1 u hu
    · exact tys_one h2 u hu
theorem tys_snoc {w : World} {B : Nat} {y : List Value} {t : TyD} (ht : TyR w B y t) : ∀ {x : List Value} {l : List TyD}, TysR w B x l → TysR w B (x ++ y) (l ++ [t])
  | _, _, .nil => by have := TysR.cons ht .nil; simpa using this
  | _, _, .cons h1 h2 => by rw [List.append_assoc, List.cons_append]; exact .cons h1 (tys_snoc ht h2)
set_option maxRecDepth 100000 in
theorem decl1_any (w : World) (z : List Value) (t : TyD) (hr : TyR w w.heap.size z t) (hok : okT t) (hX : LaidT w) :
    Calls Tryz.prog 96 #[.agg z.toArray] w fun e w' => e = .returned (.bool (!writtenB 16 t)) ∧ Below w.heap.size w w' := by
  have hr0 := hr
  obtain ⟨k, s, A1, n1, c1, A2, n2, c2, rfl⟩ := hr.shape
  have hb1 : Below w.heap.size w (w.alloc (.cells #[.int .i64 k, .string s, .slice A1 n1 c1, .slice A2 n2 c2] 32)) := (Below.refl _ _).alloc (Nat.le_refl _) _
  have HI := hid (written_all 16 (by omega) _ _ t (hr0.far (Nat.le_refl _) hb1) hok (hX.below hb1))
  have HB := hid hb1
  clear hr hr0 hX hb1 hok
  generalize writtenB 16 t = b at *
  go_enter Tryz.func96, Tryz.ntmps96
  go_wp2_with fail
  refine HI.out.mono ?_
  rintro e w2 ⟨rfl, hb⟩
  go_wp2_with fail
  go_ret
  exact ⟨rfl, HB.out.trans (hb.mono HB.out.size)⟩
theorem any_not {α : Type} (p : α → Bool) (l : List α) : (l.any fun x => !p x) = !l.all p := by
  induction l with
  | nil => rfl
  | cons x l ih => rw [List.any_cons, List.all_cons, ih]; cases p x <;> simp
set_option maxRecDepth 100000 in
set_option maxHeartbeats 8000000 in
theorem tdecl_any (d : DeD) (w : World) (z : List Value) (hr : DeR w w.heap.size z d) (hok : okD d) (hX : LaidT w) (hv : d.vars.length ≤ 100000) (hcn : cntN d.body ≤ 100000) :
    Calls Tryz.prog 45 #[.agg z.toArray] w fun e w' => e = .returned (.bool (declB d)) ∧ Below w.heap.size w w' := by
  obtain ⟨A1, c1, A2, c2, k, s, n, l, c, A3, n3, c3, A4, n4, c4, A5, n5, c5, xv, xt, rfl, s1, r1, s2, r2, r3⟩ := hr.parts
  obtain ⟨ok1, ok2, ok3, ok4, ok5, ok6, ok7⟩ := hok
  have hres : declB d = (nameL d.name && nameL d.param && d.types.length == 2 && nodeB 25 d.body && d.vars.all (fun v => nameL v.name) && d.types.all (writtenB 16) && d.vars.all (fun v => writtenB 16 v.bound)) := rfl
  obtain ⟨res, hre⟩ : ∃ res, declB d = res := ⟨_, rfl⟩
  rw [hre] at hres ⊢
  have HRES := hid hres
  clear hres hre hr
  have l1 := (t_sl_len s1).2
  have l2 := (t_sl_len s2).2
  obtain ⟨nm, hnm⟩ : ∃ x, d.name = x := ⟨_, rfl⟩
  obtain ⟨pm, hpm⟩ : ∃ x, d.param = x := ⟨_, rfl⟩
  obtain ⟨ex, hex⟩ : ∃ x, d.exp = x := ⟨_, rfl⟩
  obtain ⟨dl, hdl⟩ : ∃ x, d.line = x := ⟨_, rfl⟩
  obtain ⟨dc, hdc⟩ : ∃ x, d.col = x := ⟨_, rfl⟩
  obtain ⟨vs, hvs⟩ : ∃ x, d.vars = x := ⟨_, rfl⟩
  obtain ⟨ts, hts⟩ : ∃ x, d.types = x := ⟨_, rfl⟩
  obtain ⟨bd, hbd⟩ : ∃ x, d.body = x := ⟨_, rfl⟩
  rw [hnm, hpm, hts, hbd, hvs] at HRES
  rw [hnm] at ok1
  rw [hpm] at ok3
  rw [hvs] at s1 r1 l1 hv ok2
  rw [hts] at s2 r2 l2 ok4
  rw [hbd] at r3 ok5 hcn
  rw [hnm, hpm, hex, hdl, hdc, hvs, hts]
  clear hnm hpm hex hdl hdc hvs hts hbd ok6 ok7
  clear d
  obtain ⟨a, hA⟩ : ∃ a, vs.length = a := ⟨_, rfl⟩
  obtain ⟨b, hB⟩ : ∃ b, ts.length = b := ⟨_, rfl⟩
  rw [hA] at s1 l1 hv ⊢
  rw [hB] at s2 l2 HRES ⊢
  have HA := hid hA
  have HBL := hid hB
  clear hA hB
  obtain ⟨W, hW⟩ : ∃ W, w.alloc (.cells #[sv nm, .bool ex, .slice A1 a c1, sv pm, .slice A2 b c2, .int .i64 k, .string s, .int .i64 n, .int .i64 l, .int .i64 c, .slice A3 n3 c3, .slice A4 n4 c4, .slice A5 n5 c5, .int .i64 dl, .int .i64 dc] 65) = W := ⟨_, rfl⟩
  have hb1 : Below w.heap.size w W := by rw [← hW]; exact (Below.refl _ _).alloc (Nat.le_refl _) _
  have HBX : Hid (W.heap[w.heap.size]? = some (.cells #[sv nm, .bool ex, .slice A1 a c1, sv pm, .slice A2 b c2, .int .i64 k, .string s, .int .i64 n, .int .i64 l, .int .i64 c, .slice A3 n3 c3, .slice A4 n4 c4, .slice A5 n5 c5, .int .i64 dl, .int .i64 dc] 65 (0, 0))) := hid (by rw [← hW]; exact heap_alloc_new w _)
  have HX := hid (fun (w1 : World) (h : Below W.heap.size W w1) => (hX.below hb1).below h)
  have HN := hid (fun (w1 : World) (h : Below W.heap.size W w1) => name_all w1 nm (HX.out w1 h) ok1)
  have HP := hid (fun (w1 : World) (h : Below W.heap.size W w1) => name_all w1 pm (HX.out w1 h) ok3)
  have HD := hid (fun (w1 : World) (h : Below W.heap.size W w1) => node_all 25 (by omega) w1 _ bd (r3.far (Nat.le_refl _) (hb1.trans (h.mono hb1.size))) ok5 (HX.out w1 h))
  have HV := hid (And.intro (Sl.more (Sl.below s1 hb1) hb1.size) (r1.imp fun _ _ h => (h.keep hb1).more hb1.size))
  have HT := hid (And.intro (Sl.more (Sl.below s2 hb1) hb1.size) ((r2.keep hb1).more hb1.size))
  have HOV := hid ok2
  have HOT := hid ok4
  have HB1 := hid hb1
  have HWE := hid hW
  clear s1 r1 s2 r2 r3 ok1 ok2 ok3 ok4 ok5 hX hb1 hW hcn
  generalize nameL nm = b1 at *
  generalize nameL pm = b2 at *
  generalize nodeB 25 bd = b4 at *
  have hW := HWE.out
  obtain ⟨g0, g1, g2, g3, g4, g5, g6, g7, g8, g9, g10, g11, g12, g13, g14⟩ := t_row15 HBX.out
  go_enter Tryz.func45, Tryz.ntmps45
  go_wp2_with fail
  clear hW
  clear g0 g1 g2 g3 g4 g5 g6 g7 g8 g9 g10 g11 g12 g13 g14
  refine (HN.out _ (Below.refl _ _)).mono ?_
  rintro e w2 ⟨rfl, hb⟩
  have HB2 := hid hb
  clear hb
  obtain ⟨g0, g1, g2, g3, g4, g5, g6, g7, g8, g9, g10, g11, g12, g13, g14⟩ := t_row15 ((HB2.out.block _ (block_lt HBX.out)).trans HBX.out)
  cases b1 with
  | false =>
    have HF : Hid (res = false) := hid (by rw [HRES.out]; rfl)
    go_wp2_with fail
    go_ret
    exact ⟨by rw [HF.out]; rfl, HB1.out.trans (HB2.out.mono HB1.out.size)⟩
  | true =>
  go_wp2_with fail
  refine (HP.out _ HB2.out).mono ?_
  rintro e w3 ⟨rfl, hb⟩
  have HB3 := hid (HB2.out.trans (hb.mono HB2.out.size))
  clear hb g0 g1 g2 g3 g4 g5 g6 g7 g8 g9 g10 g11 g12 g13 g14
  obtain ⟨g0, g1, g2, g3, g4, g5, g6, g7, g8, g9, g10, g11, g12, g13, g14⟩ := t_row15 ((HB3.out.block _ (block_lt HBX.out)).trans HBX.out)
  cases b2 with
  | false =>
    have HF : Hid (res = false) := hid (by rw [HRES.out]; simp)
    go_wp2_with fail
    go_ret
    exact ⟨by rw [HF.out]; rfl, HB1.out.trans (HB3.out.mono HB1.out.size)⟩
  | true =>
  by_cases h2 : b = 2
  case neg =>
    have HF : Hid (res = false) := hid (by rw [HRES.out, beq_eq_false_iff_ne.mpr h2]; simp)
    have q2 : ((b : Int) != 2) = true := by rw [bne_iff_ne]; omega
    clear h2
    go_wp2_with fail
    go_ret
    exact ⟨by rw [HF.out]; rfl, HB1.out.trans (HB3.out.mono HB1.out.size)⟩
  subst h2
  go_wp2_with fail
  refine (HD.out _ HB3.out).mono ?_
  rintro e w4 ⟨rfl, hb⟩
  have HB4 := hid (HB3.out.trans (hb.mono HB3.out.size))
  clear hb g0 g1 g2 g3 g4 g5 g6 g7 g8 g9 g10 g11 g12 g13 g14
  obtain ⟨g0, g1, g2, g3, g4, g5, g6, g7, g8, g9, g10, g11, g12, g13, g14⟩ := t_row15 ((HB4.out.block _ (block_lt HBX.out)).trans HBX.out)
  cases b4 with
  | false =>
    have HF : Hid (res = false) := hid (by rw [HRES.out]; simp)
    go_wp2_with fail
    go_ret
    exact ⟨by rw [HF.out]; rfl, HB1.out.trans (HB4.out.mono HB1.out.size)⟩
  | true =>
  have HRR : Hid (res = (vs.all (fun v => nameL v.name) && (ts ++ vs.map VaD.bound).all (writtenB 16))) := hid (by rw [HRES.out, List.all_append, List.all_map]; simp [Bool.and_assoc]; rfl)
  go_wp2_with fail
  refine (clone_types w4 _ xt 2 (Sl.more (Sl.below HT.out.1 HB4.out) HB4.out.size) (by have := HT.out.2.length; rw [HBL.out] at this; exact this) (by omega) (tys_one HT.out.2)).mono ?_
  rintro e w5 ⟨v0, n0, rfl, hown, hb⟩
  have HB5 := hid (HB4.out.trans (hb.mono HB4.out.size))
  have HOWN := hid (own_base hown HB4.out.size)
  clear hb hown g0 g1 g2 g3 g4 g5 g6 g7 g8 g9 g10 g11 g12 g13 g14
  obtain ⟨g0, g1, g2, g3, g4, g5, g6, g7, g8, g9, g10, g11, g12, g13, g14⟩ := t_row15 ((HB5.out.block _ (block_lt HBX.out)).trans HBX.out)
  obtain ⟨Av, nv, cv, rfl⟩ := own_shape0 HOWN.out
  go_wp2_with fail
  clear g0 g1 g2 g3 g4 g5 g6 g7 g8 g9 g10 g11 g12 g13 g14
  go_loopw [3, 34] (fun v3 v34 wr => ∃ (i m : Nat) (xs : List Value), v34 = .int .i64 i ∧ i ≤ a ∧ wr.ownsRow W.heap.size 32 4 v3 m xs ∧ TysR wr W.heap.size xs (ts ++ (vs.take i).map VaD.bound) ∧ (vs.take i).all (fun v => nameL v.name) = true ∧ Below W.heap.size W wr) (fun v3 v34 _ => a - (intOf v34).toNat)
  case atStart => exact ⟨0, _, xt, rfl, by omega, HOWN.out, by simpa using HT.out.2.keep HB5.out, rfl, HB5.out⟩
  case round =>
    obtain ⟨i, m, xs, rfl, hi, hown, htr, hall, hbr⟩ := hrel
    have HOW := hid hown
    have HTR := hid htr
    have HAL := hid hall
    have HBR := hid hbr
    obtain ⟨Aw, nw, cw, rfl⟩ := own_shape0 hown
    clear hown htr hall
    by_cases hlt : i < a
    · have hil : i < vs.length := by rw [HA.out]; exact hlt
      obtain ⟨b2, o2, kk, ss, A6, n6, c6, A7, n7, c7, hA6, hr1, hkk, d0, e0, e1, e2, e3⟩ := var_at (Sl.more (Sl.below HV.out.1 hbr) hbr.size) (HV.out.2.imp fun _ _ h => (h.keep hbr).more hbr.size) hil HA.out.symm
      obtain ⟨wA, hwA⟩ : ∃ wA, wr.alloc (.cells #[sv vs[i].name, .int .i64 kk, .string ss, .slice A6 n6 c6, .slice A7 n7 c7] 67) = wA := ⟨_, rfl⟩
      have hbA : Below wr.heap.size wr wA := by rw [← hwA]; exact (Below.refl _ _).alloc (Nat.le_refl _) _
      have HSA : Hid (wA.heap[wr.heap.size]? = some (.cells #[sv vs[i].name, .int .i64 kk, .string ss, .slice A6 n6 c6, .slice A7 n7 c7] 67 (0, 0))) := hid (by rw [← hwA]; exact heap_alloc_new wr _)
      have HNI := hid (name_all wA vs[i].name (HX.out wA (hbr.trans (hbA.mono hbr.size))) (HOV.out _ (List.getElem_mem hil)).1)
      have HR1 : Hid (TyR W W.heap.size [.int .i64 kk, .string ss, .slice A6 n6 c6, .slice A7 n7 c7] vs[i].bound) := hid (by
        obtain ⟨b9, o9, k9, s9, A8, n8, c8, A9, n9, c9, hA9, hr9, hk9, x0, x1, x2, x3, x4⟩ := var_at HV.out.1 HV.out.2 hil HA.out.symm
        rw [hA6] at hA9
        injection hA9 with hA9
        injection hA9 with hb9 ho9
        subst hb9 ho9
        have hlb : b2 < W.heap.size := World.block_lt_of_cell? W _ x0
        have f1 := e0.symm.trans ((hbr.cell (p := ⟨b2, o2 + i * 5 + 1, none⟩) hlb).trans x1)
        have f2 := e1.symm.trans ((hbr.cell (p := ⟨b2, o2 + i * 5 + 2, none⟩) hlb).trans x2)
        have f3 := e2.symm.trans ((hbr.cell (p := ⟨b2, o2 + i * 5 + 3, none⟩) hlb).trans x3)
        have f4 := e3.symm.trans ((hbr.cell (p := ⟨b2, o2 + i * 5 + 4, none⟩) hlb).trans x4)
        injection f1 with f1
        injection f2 with f2
        injection f3 with f3
        injection f4 with f4
        rw [f1, f2, f3, f4]
        exact hr9)
      have HBA := hid hbA
      have HST := hid (t_take hil)
      have HALX : Hid (nameL vs[i].name = false → vs.all (fun v => nameL v.name) = false) := hid (fun hq => by
        cases h : vs.all (fun v => nameL v.name) with
        | false => rfl
        | true => rw [List.all_eq_true] at h; rw [h _ (List.getElem_mem hil)] at hq; cases hq)
      have HALY : Hid (nameL vs[i].name = true → (vs.take (i + 1)).all (fun v => nameL v.name) = true) := hid (fun hq => by
        rw [HST.out, List.all_append, HAL.out]
        simp [hq])
      have hq0 : ∃ q, nameL vs[i].name = q := ⟨_, rfl⟩
      obtain ⟨q, hq⟩ := hq0
      rw [hq] at HNI
      have HQ := hid hq
      have HWA := hid hwA
      generalize vs[i].name = X at *
      clear hr1 hkk hbA hbr hq
      subst hA6
      obtain ⟨f0, f1, f2, f3, f4⟩ := t_row5 HSA.out
      go_wp2_with fail
      clear hwA d0 e0 e1 e2 e3 f0 f1 f2 f3 f4
      refine HNI.out.mono ?_
      rintro e w6 ⟨rfl, hb⟩
      obtain ⟨u0, u1, u2, u3, u4⟩ := t_row5 ((hb.block _ (block_lt HSA.out)).trans HSA.out)
      have HB6 := hid (HBR.out.trans ((HBA.out.trans (hb.mono HBA.out.size)).mono HBR.out.size))
      have hbw : Below wr.heap.size wr w6 := HBA.out.trans (hb.mono HBA.out.size)
      have HO6 := hid (own_below HOW.out hbw)
      have HBW := hid (hbw.mono HBR.out.size)
      clear hb hbw
      cases q with
      | false =>
        have HF : Hid (res = false) := hid (by rw [HRR.out, HALX.out HQ.out]; rfl)
        go_wp2_with fail
        go_ret
        exact ⟨by rw [HF.out]; rfl, HB1.out.trans (HB6.out.mono HB1.out.size)⟩
      | true =>
        have hm : m * 4 ≤ 800008 := by
          have h5 := HTR.out.length
          rw [List.length_append, List.length_map, List.length_take, HBL.out] at h5
          have h6 := HOW.out.1
          omega
        have hxl : xs.length = m * 4 := HOW.out.1
        go_wp2_with (at_builtin; go_must (refine wpList_app rfl (.tmp 42) (.tmp 45) _ rfl W.heap.size el_type _ _ rfl rfl (HO6.out.alloc _) (sl_new w6 #[.int .i64 kk, .string ss, .slice A6 n6 c6, .slice A7 n7 c7] 32 4 1 rfl (by decide)) (ty_one HR1.out) (by unfold maxLen; simp; omega) (by simp; omega) (le_alloc HB6.out.size _) (fun v7 w7 n7' hown7 hg7 hbk7 => ?_)); obtain ⟨Ax, nx, cx, rfl⟩ := own_shape0 hown7; have HO7 := hid hown7; have HB7 := hid (below_app (HB6.out.alloc HB6.out.size _) (HO6.out.alloc _) hg7 (Nat.le_refl _) (le_alloc HB6.out.size _)); have HB8 := hid (below_app (HBW.out.alloc HB6.out.size _) (HO6.out.alloc _) hg7 (Nat.le_refl _) (le_alloc HB6.out.size _)); clear hown7 hg7 hbk7)
        go_roundw
        case rel =>
          refine ⟨i + 1, _, _, rfl, by omega, HO7.out, ?_, ?_, HB7.out⟩
          · rw [HST.out, List.map_append, ← List.append_assoc]
            exact tys_snoc (HR1.out.keep HB7.out) ((HTR.out.keep HB8.out))
          · exact HALY.out HQ.out
        case measure => simp [intOf]; omega
    · obtain rfl : i = a := by omega
      have hfull : vs.take i = vs := List.take_of_length_le (by rw [HA.out]; omega)
      have HC := hid (contains_types 96 (fun _ _ => by kernel_rfl) #[] (fun t => !writtenB 16 t) _ (ts ++ vs.map VaD.bound) xs wr (Sl.of_own HOW.out) (by have := HTR.out; rw [hfull] at this; exact this.more HBR.out.size) (fun y hy w1 z hb hz => by
        have hok : okT y := by
          rcases List.mem_append.1 hy with hy | hy
          · exact HOT.out y hy
          · obtain ⟨v, hv, rfl⟩ := List.mem_map.1 hy
            exact (HOV.out v hv).2
        exact decl1_any w1 z y hz hok (HX.out w1 (HBR.out.trans (hb.mono HBR.out.size)))))
      rw [any_not] at HC
      have HR9 : Hid (res = (ts ++ vs.map VaD.bound).all (writtenB 16)) := hid (by
        have h := HAL.out
        rw [hfull] at h
        rw [HRR.out, h, Bool.true_and])
      generalize (ts ++ vs.map VaD.bound).all (writtenB 16) = q at *
      clear hbr hlt hfull
      go_wp2_with fail
      refine HC.out.mono ?_
      rintro e w6 ⟨rfl, hb⟩
      go_wp2_with fail
      go_ret
      refine ⟨by rw [HR9.out]; simp, HB1.out.trans ((HBR.out.trans (hb.mono HBR.out.size)).mono HB1.out.size)⟩
theorem may1_any (d : DeD) (w : World) (z : List Value) (hr : DeR w w.heap.size z d) (hok : okD d) (hX : LaidT w) (hv : d.vars.length ≤ 100000) (hcn : cntN d.body ≤ 100000) :
    Calls Tryz.prog 44 #[.agg z.toArray] w fun e w' => e = .returned (.bool (!declB d)) ∧ Below w.heap.size w w' := by
  have hr0 := hr
  obtain ⟨A1, c1, A2, c2, k, s, n, l, c, A3, n3, c3, A4, n4, c4, A5, n5, c5, xv, xt, hz, _⟩ := hr.parts
  obtain ⟨W, hW⟩ : ∃ W, w.alloc (.cells z.toArray 65) = W := ⟨_, rfl⟩
  have hb1 : Below w.heap.size w W := by rw [← hW]; exact (Below.refl _ _).alloc (Nat.le_refl _) _
  have HI := hid (tdecl_any d W z (hr0.far (Nat.le_refl _) hb1) hok (hX.below hb1) hv hcn)
  have hbx : W.heap[w.heap.size]? = some (.cells z.toArray 65 (0, 0)) := by rw [← hW]; exact heap_alloc_new w _
  subst hz
  obtain ⟨g0, g1, g2, g3, g4, g5, g6, g7, g8, g9, g10, g11, g12, g13, g14⟩ := t_row15 hbx
  have HB := hid hb1
  clear hr hr0 hX hb1 hok hv hcn hbx
  generalize declB d = b at *
  generalize d.name = nm at *
  generalize d.exp = ex at *
  generalize d.param = pm at *
  generalize d.vars.length = a1 at *
  generalize d.types.length = a2 at *
  generalize d.line = dl at *
  generalize d.col = dc at *
  have HWE := hid hW
  go_enter Tryz.func44, Tryz.ntmps44
  go_wp2_with fail
  refine HI.out.mono ?_
  rintro e w2 ⟨rfl, hb⟩
  go_wp2_with fail
  go_ret
  exact ⟨rfl, HB.out.trans (hb.mono HB.out.size)⟩
end Go.Proofs.YtbpedjkebemhnaaGreatDoor
end
section
/- May a module be printed: tree.May. -/
set_option linter.unusedVariables false
namespace Go.Proofs.YtbpedjkebemhnaaGreatDoor
open Go.RowKit

/-- A module of not too many of anything. -/
structure SmM (m : MoD) : Prop where
  imps : m.imps.length ≤ 100
  decls : m.decls.length ≤ 100
  names : ∀ i ∈ m.imps, i.names.length ≤ 100
  vars : ∀ d ∈ m.decls, d.vars.length ≤ 100
  types : ∀ d ∈ m.decls, d.types.length ≤ 100
  bounds : ∀ d ∈ m.decls, ∀ v ∈ d.vars, cntT v.bound ≤ 100000
  sorts : ∀ d ∈ m.decls, cntTs d.types ≤ 100000
  body : ∀ d ∈ m.decls, cntN d.body ≤ 100000
/-- An import in a list: its cells. -/
theorem imp_at {w : World} {B : Nat} {A : Option Addr} {n c : Nat} {xs : List Value} {l : List ImD} (hs : Sl w B 4 (.slice A n c) xs) (hr : TRow (ImR w B) 4 xs l) {i : Nat} (hi : i < l.length) (hn : n = l.length) :
    ∃ b o A1 c1, A = some ⟨b, o, none⟩ ∧ Ss w B (.slice A1 l[i].names.length c1) l[i].names ∧ w.cell? ⟨b, o + i * 4, none⟩ = some (sv l[i].from_) ∧ w.cell? ⟨b, o + i * 4 + 1, none⟩ = some (.slice A1 l[i].names.length c1) ∧ w.cell? ⟨b, o + i * 4 + 2, none⟩ = some (.int .i64 l[i].line) ∧ w.cell? ⟨b, o + i * 4 + 3, none⟩ = some (.int .i64 l[i].col) := by
  obtain ⟨b, o, z, hA, hb, ⟨vn, rfl, hv⟩, hc⟩ := row_at hs hr (by omega) hi hn
  obtain ⟨A1, c1, rfl⟩ := t_sl_exact hv (by omega) (m := l[i].names.length) (by rw [svs_length]; omega)
  exact ⟨b, o, A1, c1, hA, hv, by simpa using hc 0 _ rfl, hc 1 _ rfl, hc 2 _ rfl, hc 3 _ rfl⟩
theorem t_row2 {w : World} {b : Nat} {x0 x1 : Value} {T : TypeId} (h : w.heap[b]? = some (.cells #[x0, x1] T (0, 0))) : w.cell? ⟨b, 0, none⟩ = some x0 ∧ w.cell? ⟨b, 1, none⟩ = some x1 :=
  ⟨(cell_of_row _ _ _ _ _ _ h).trans rfl, (cell_of_row _ _ _ _ _ _ h).trans rfl⟩
theorem impB_eq (i : ImD) : impB i = (nameL i.from_ && decide (0 < i.names.length) && i.names.all nameL) := by
  unfold impB
  cases i.names with
  | nil => rfl
  | cons x l => simp
set_option maxRecDepth 100000 in
set_option maxHeartbeats 8000000 in
theorem tmay_any (m : MoD) (w : World) (z : List Value) (hr : MoR w w.heap.size z m) (hok : okM m) (hX : LaidT w) (hS : SmM m) :
    Calls Tryz.prog 21 #[.agg z.toArray] w fun e w' => e = .returned (.bool (mayB m)) ∧ Below w.heap.size w w' := by
  obtain ⟨A1, c1, A2, c2, xi, xd, rfl, s1, r1, s2, r2⟩ := hr.parts
  have hres : mayB m = (m.imps.all impB && m.decls.all declB) := rfl
  obtain ⟨res, hre⟩ : ∃ res, mayB m = res := ⟨_, rfl⟩
  rw [hre] at hres ⊢
  have HRES := hid hres
  clear hres hre hr
  have l1 := (t_sl_len s1).2
  have l2 := (t_sl_len s2).2
  obtain ⟨W, hW⟩ : ∃ W, w.alloc (.cells #[.slice A1 m.imps.length c1, .slice A2 m.decls.length c2] 39) = W := ⟨_, rfl⟩
  have hb1 : Below w.heap.size w W := by rw [← hW]; exact (Below.refl _ _).alloc (Nat.le_refl _) _
  have HBX : Hid (W.heap[w.heap.size]? = some (.cells #[.slice A1 m.imps.length c1, .slice A2 m.decls.length c2] 39 (0, 0))) := hid (by rw [← hW]; exact heap_alloc_new w _)
  have HX := hid (fun (w1 : World) (h : Below W.heap.size W w1) => (hX.below hb1).below h)
  have HI := hid (And.intro (Sl.more (Sl.below s1 hb1) hb1.size) (r1.imp fun _ _ h => (h.keep hb1).more hb1.size))
  have HC := hid (fun (w1 : World) (h : Below W.heap.size W w1) => contains_decls 44 (fun _ _ => by kernel_rfl) #[] (fun d => !declB d) _ m.decls xd w1 (Sl.more (Sl.below s2 (hb1.trans (h.mono hb1.size))) (hb1.trans (h.mono hb1.size)).size) (r2.imp fun _ _ h2 => (h2.keep (hb1.trans (h.mono hb1.size))).more (hb1.trans (h.mono hb1.size)).size) (fun y hy w2 z2 hb hz => may1_any y w2 z2 hz (hok.2 y hy) (HX.out w2 (h.trans (hb.mono h.size))) (by have := hS.vars y hy; omega) (hS.body y hy)))
  have HOI := hid hok.1
  have HB1 := hid hb1
  have HWE := hid hW
  obtain ⟨is, his⟩ : ∃ x, m.imps = x := ⟨_, rfl⟩
  obtain ⟨a, hA⟩ : ∃ a, is.length = a := ⟨_, rfl⟩
  rw [any_not] at HC
  rw [his] at HI HRES HOI l1
  rw [his, hA] at HBX hW
  rw [hA] at HI l1
  rw [his, hA]
  have HA := hid hA
  generalize m.decls.all declB = q at *
  generalize m.decls.length = d at *
  clear s1 r1 s2 r2 hX hok hS hb1 his hA HWE
  clear m
  obtain ⟨g0, g1⟩ := t_row2 HBX.out
  go_enter Tryz.func21, Tryz.ntmps21
  go_wp2_with fail
  clear g0 g1
  go_loopw [8] (fun v8 wr => ∃ i : Nat, v8 = .int .i64 i ∧ i ≤ a ∧ (is.take i).all impB = true ∧ Below W.heap.size W wr) (fun v8 _ => a - (intOf v8).toNat)
  case atStart => exact ⟨0, rfl, by omega, rfl, Below.refl _ _⟩
  case round =>
    obtain ⟨i, rfl, hi, hall, hbr⟩ := hrel
    have HAL := hid hall
    have HBR := hid hbr
    clear hall
    by_cases hlt : i < a
    · have hil : i < is.length := by rw [HA.out]; exact hlt
      obtain ⟨b2, o2, A6, c6, hA6, hn6, d0, d1, d2, d3⟩ := imp_at (Sl.more (Sl.below HI.out.1 hbr) hbr.size) (HI.out.2.imp fun _ _ h => (h.keep hbr).more hbr.size) hil HA.out.symm
      obtain ⟨wA, hwA⟩ : ∃ wA, wr.alloc (.cells #[sv is[i].from_, .slice A6 is[i].names.length c6, .int .i64 is[i].line, .int .i64 is[i].col] 62) = wA := ⟨_, rfl⟩
      have hbA : Below wr.heap.size wr wA := by rw [← hwA]; exact (Below.refl _ _).alloc (Nat.le_refl _) _
      have HSA : Hid (wA.heap[wr.heap.size]? = some (.cells #[sv is[i].from_, .slice A6 is[i].names.length c6, .int .i64 is[i].line, .int .i64 is[i].col] 62 (0, 0))) := hid (by rw [← hwA]; exact heap_alloc_new wr _)
      have hoi := HOI.out _ (List.getElem_mem hil)
      have HN := hid (name_all wA is[i].from_ (HX.out wA (hbr.trans (hbA.mono hbr.size))) hoi.1)
      have HNS := hid (fun (w1 : World) (h : Below wA.heap.size wA w1) => tnamed_any _ is[i].names w1 (Ss.more (Ss.below hn6 (hbA.trans (h.mono hbA.size))) (hbA.trans (h.mono hbA.size)).size) hoi.2.1 (HX.out w1 (hbr.trans ((hbA.trans (h.mono hbA.size)).mono hbr.size))))
      have HBA := hid hbA
      have hst := t_take hil
      have hl6 := (t_sl_len hn6).2
      have HYES : Hid (impB is[i] = true → (is.take (i + 1)).all impB = true) := hid (fun h => by rw [hst, List.all_append, HAL.out]; simp [h])
      have HNO : Hid (impB is[i] = false → is.all impB = false) := hid (fun hq => by
        cases h : is.all impB with
        | false => rfl
        | true => rw [List.all_eq_true] at h; rw [h _ (List.getElem_mem hil)] at hq; cases hq)
      have himp := impB_eq is[i]
      rw [himp] at HYES HNO
      generalize nameL is[i].from_ = q1 at *
      generalize is[i].names.all nameL = q2 at *
      generalize is[i].names.length = k at *
      generalize is[i].from_ = X at *
      generalize is[i].line = li at *
      generalize is[i].col = co at *
      clear hoi hbA hbr hn6 hst himp
      subst hA6
      obtain ⟨f0, f1, f2, f3⟩ := t_row4 HSA.out
      go_wp2_with fail
      clear hwA d0 d1 d2 d3 f0 f1 f2 f3
      refine HN.out.mono ?_
      rintro e w6 ⟨rfl, hb⟩
      have HB6 := hid hb
      have HR6 := hid (HBR.out.trans ((HBA.out.trans (hb.mono HBA.out.size)).mono HBR.out.size))
      obtain ⟨f0, f1, f2, f3⟩ := t_row4 ((hb.block _ (block_lt HSA.out)).trans HSA.out)
      clear hb
      cases q1 with
      | false =>
        have HF : Hid (res = false) := hid (by rw [HRES.out, HNO.out rfl]; rfl)
        go_wp2_with fail
        go_ret
        exact ⟨by rw [HF.out]; rfl, HB1.out.trans (HR6.out.mono HB1.out.size)⟩
      | true =>
        by_cases hk : k = 0
        · have gk : ((k : Int) == 0) = true := by rw [beq_iff_eq]; omega
          have HF : Hid (res = false) := hid (by rw [HRES.out, HNO.out (by rw [hk]; rfl)]; rfl)
          clear hk
          go_wp2_with fail
          go_ret
          exact ⟨by rw [HF.out]; rfl, HB1.out.trans (HR6.out.mono HB1.out.size)⟩
        · have gk : ((k : Int) == 0) = false := by rw [beq_eq_false_iff_ne]; omega
          have HK : Hid (decide (0 < k) = true) := hid (decide_eq_true (by omega))
          clear hk
          go_wp2_with fail
          refine (HNS.out _ HB6.out).mono ?_
          rintro e w7 ⟨rfl, hb⟩
          have HR7 := hid (HR6.out.trans (hb.mono HR6.out.size))
          clear hb f0 f1 f2 f3
          cases q2 with
          | false =>
            have HF : Hid (res = false) := hid (by rw [HRES.out, HNO.out (by simp)]; rfl)
            go_wp2_with fail
            go_ret
            exact ⟨by rw [HF.out]; rfl, HB1.out.trans (HR7.out.mono HB1.out.size)⟩
          | true =>
            have HT := hid (HYES.out (by rw [HK.out]; rfl))
            go_wp2_with fail
            go_roundw
            case rel => exact ⟨i + 1, rfl, by omega, HT.out, HR7.out⟩
            case measure => simp [intOf]; omega
    · obtain rfl : i = a := by omega
      have HR9 : Hid (res = q) := hid (by
        have h := HAL.out
        rw [List.take_of_length_le (by rw [HA.out]; omega)] at h
        rw [HRES.out, h, Bool.true_and])
      obtain ⟨g0, g1⟩ := t_row2 ((hbr.block _ (block_lt HBX.out)).trans HBX.out)
      clear hbr hlt
      go_wp2_with fail
      refine (HC.out _ HBR.out).mono ?_
      rintro e w6 ⟨rfl, hb⟩
      go_wp2_with fail
      go_ret
      refine ⟨by rw [HR9.out]; simp, HB1.out.trans ((HBR.out.trans (hb.mono HBR.out.size)).mono HB1.out.size)⟩
end Go.Proofs.YtbpedjkebemhnaaGreatDoor
end
section
/- append of a text's bytes, onto bytes of the call's own. -/
set_option linter.unusedVariables false
namespace Go.Proofs.YtbpedjkebemhnaaGreatDoor
open Go.RowKit

theorem run_app_str {P : Program} (w : World) (base : Nat) (t u ty e : TypeId) (hE : ElemIs P t e (.int .u8 0) 1 1) (hu : P.underlying u = some .string)
    (v : Value) (n : Nat) (xs : List Value) (hown : w.ownsRow base e 1 v n xs) (s : ByteArray) (h63 : n + s.size ≤ maxLen) (hbytes : n + s.size ≤ 140737488355328) (hbase : base ≤ w.heap.size) :
    ∃ v' w', (Builtin.append_ #[t, u] ty #[v, .string s]).run P w = .ok v' w' ∧ w'.ownsRow base e 1 v' (n + s.size) (xs ++ Go.Lib.strCells s) ∧ w.grownBy w' v.ownBlock ∧ (v'.ownBlock = v.ownBlock ∨ v'.ownBlock = some w.heap.size) := by
  obtain ⟨ht, hinfo, _, _⟩ := hE
  obtain ⟨i, hi, hz, hsize, hby⟩ := info_parts hinfo
  obtain ⟨v', w', hr, h2, h3, h4⟩ := Go.Lib.run_append_own_string (P := P) w base t u ty e i ht hu hi hz hsize hby v n xs hown s h63 hbytes hbase
  refine ⟨v', w', hr, h2, h3, ?_⟩
  have hxl : xs.length = n := by simpa using hown.1
  unfold maxLen at h63
  rcases hown.2 with ⟨rfl, rfl⟩ | ⟨g, cap, cur, rfl, hbg, hg, hnc, hcm, hcs, htake⟩
  · by_cases hm : s.size = 0
    · exact .inl (by rw [h4.2 ⟨rfl, hm⟩])
    · have hr2 := run_append_nil_string (P := P) w t u ty e i (.int .u8 0) ht hu hi hz s (by omega) (by omega) (by rw [hby]; omega)
      rw [hr2] at hr
      injection hr with hr1 _
      subst hr1
      exact .inr rfl
  · by_cases hroom : n + s.size ≤ cap
    · have hcs' : cur.size = cap := by simpa using hcs
      have hr2 := Go.Lib.run_append_room_string (P := P) w t u ty e i ht hu hi hsize g n cap cur hg s hroom (by omega)
      rw [hr2] at hr
      injection hr with hr1 _
      subst hr1
      exact .inl rfl
    · have holds : ∀ j u, xs[j]? = some u → w.cell? ((⟨g, 0, none⟩ : Addr).add j) = some u := hown.cells (g := g) rfl
      have hr2 := Go.Lib.run_append_grow_string (P := P) w t u ty e i (.int .u8 0) ht hu hi hz ⟨g, 0, none⟩ n cap xs (by rw [hsize]; simpa using hxl) holds s (by omega) (by omega) (by rw [hby]; exact growslice_fits (by omega) (by omega))
      rw [hr2] at hr
      injection hr with hr1 _
      subst hr1
      exact .inr rfl
theorem wpList_appT {P : Program} {w : World} {ops : Array Oper} {rest : List Oper} {o : Oper} {a : Act} {Q : Exit → Act → World → Prop} (hgd : o.guard = none) (sl x : Operand) (t u : TypeId)
    (ho : o.op = .call { callee := .builtin .append, args := #[sl, x], argTypes := #[t, u] }) (base : Nat) {e : TypeId} (hE : ElemIs P t e (.int .u8 0) 1 1) (hu : P.underlying u = some .string)
    (v : Value) (l m : Bt) (hs : a.eval sl = v) (hown : OwnB w base e v l) (hx : a.eval x = sv m) (hlen : l.length + m.length ≤ 140737488355328) (hbase : base ≤ w.heap.size)
    (h : ∀ v' w', OwnB w' base e v' (l ++ m) → w.grownBy w' v.ownBlock → (v'.ownBlock = v.ownBlock ∨ v'.ownBlock = some w.heap.size) → wpList P ops Q rest (a.put o.dst v') w') : wpList P ops Q (o :: rest) a w := by
  refine wpList_plain hgd fun K hK => ?_
  obtain ⟨n, hown⟩ := hown
  have hn : n = l.length := by have := hown.1; rw [bv_length] at this; omega
  subst hn
  have hsz : (ByteArray.mk m.toArray).size = m.length := by
    have h : (ByteArray.mk m.toArray).data.toList.length = (ByteArray.mk m.toArray).size := Array.length_toList
    rw [← h]
  obtain ⟨v', w', hr, h2, h3, h4⟩ := run_app_str (P := P) w base t u o.type e hE hu v l.length (bv l) hown ⟨m.toArray⟩ (by rw [hsz]; unfold maxLen; omega) (by rw [hsz]; omega) hbase
  have hcs : Go.Lib.strCells ⟨m.toArray⟩ = bv m := rfl
  rw [hcs, ← bv_append] at h2
  unfold Oper.wp execOp
  simp only [ho, resolve, invoke, builtin, Sem.run_bind, Sem.run_pure, Result.andThen_ok, List.map_toArray, List.map_cons, List.map_nil, hs, hx, sv, hr]
  exact hK _ _ (h v' w' ⟨_, h2⟩ h3 h4)
end Go.Proofs.YtbpedjkebemhnaaGreatDoor
end
section
/- The contracts of library functions that this seat reaches, each an application of a theorem of the library at this translation. -/
namespace Go.Proofs
open Go.Shelf
def Tryz.lays169_ren : Go.Shelf.Ren := ⟨fun | 169 => 52 | n => n, fun | 70 => 73 | 9 => 9 | 0 => 0 | 72 => 76 | 37 => 74 | 127 => 129 | 3 => 3 | 5 => 5 | n => n, fun | n => n⟩
theorem Tryz.lays169 : Go.Proofs.Lays.n169 Tryz.prog Tryz.lays169_ren := {
  mixed := by kernel_rfl
  f169 := Tryz.func52.trans (congrArg some (by kernel_rfl))
  t0 := Tryz.underlying0
  a0 := Tryz.isAgg0
  z0 := Tryz.sizeOf0
  v0 := Tryz.zeroValue0
  t3 := Tryz.underlying3
  a3 := Tryz.isAgg3
  z3 := Tryz.sizeOf3
  v3 := Tryz.zeroValue3
  t9 := Tryz.underlying9
  a9 := Tryz.isAgg9
  z9 := Tryz.sizeOf9
  v9 := Tryz.zeroValue9
  t37 := Tryz.underlying74
  a37 := Tryz.isAgg74
  z37 := Tryz.sizeOf74
  v37 := Tryz.zeroValue74
  t70 := Tryz.underlying73
  a70 := Tryz.isAgg73
  z70 := Tryz.sizeOf73
  v70 := Tryz.zeroValue73
  t72 := Tryz.underlying76
  a72 := Tryz.isAgg76
  z72 := Tryz.sizeOf76
  v72 := Tryz.zeroValue76
  t127 := Tryz.underlying129
  a127 := Tryz.isAgg129
  z127 := Tryz.sizeOf129
  v127 := Tryz.zeroValue129 }
theorem Tryz.Builder_Extra_169 : Builder.Extra Tryz.prog Tryz.lays169_ren := {
  sizeBuilder := by kernel_rfl
  liesBuilder := by kernel_rfl
  t5 := Tryz.underlying5
  a5 := Tryz.isAgg5
  z5 := Tryz.sizeOf5
  v5 := Tryz.zeroValue5
  infoByte := by kernel_rfl
  cellsByte := by kernel_rfl
  sizeByte := by kernel_rfl
  neB5 := by decide }
open Go.RowKit in
theorem Tryz.Builder_String_any (B b : Nat) (l : List UInt8) (w : World) (h : Lib.IsBuilder 76 5 B b (Lib.byteCells l) w) (hBw : B ≤ w.heap.size) :
    Calls Tryz.prog 52 #[.pointer (some ⟨b, 0, none⟩)] w fun e w' => e = .returned (.string ⟨l.toArray⟩) ∧ Below B w w' := Any.Builder_String_any Tryz.lays169 Tryz.Builder_Extra_169 B b l w h hBw
end Go.Proofs
end
section
/- strings.Builder: texts written, one behind the other. -/
set_option linter.unusedVariables false
namespace Go.Proofs.YtbpedjkebemhnaaGreatDoor
open Go.RowKit

theorem bd_size : (Tryz.prog.info? 76).map (·.size) = some 2 := by kernel_rfl
theorem bd_lies : liesAt Tryz.prog Tryz.prog.depth 76 (2 / Tryz.prog.cellsOf 76) 0 76 1 = true := by kernel_rfl
theorem el_byte8 : ElemIs Tryz.prog 74 5 (.int .u8 0) 1 1 := ⟨Tryz.underlying74, by kernel_rfl, rfl, by omega⟩
theorem ownB_any {w : World} {base : Nat} {e : TypeId} {v : Value} {l : Bt} (h : OwnB w base e v l) : ∃ ao n' cap, v = .slice ao n' cap := by
  obtain ⟨n, h⟩ := h
  rcases h.2 with ⟨hv, _⟩ | ⟨g, cap, cur, hv, _⟩
  · exact ⟨_, _, _, hv⟩
  · exact ⟨_, _, _, hv⟩
set_option maxHeartbeats 1000000 in
set_option maxRecDepth 100000 in
theorem bd_used (b : Nat) (w : World) (h0 : w.cell? ⟨b, 0, none⟩ = some (.pointer (some ⟨b, 0, none⟩))) :
    Calls Tryz.prog 100 #[.pointer (some ⟨b, 0, none⟩)] w fun e w' => e = .returned (.tuple #[]) ∧ w' = w := by
  obtain ⟨j, hj, _⟩ := Option.map_eq_some_iff.1 bd_size
  go_enter Tryz.func100, Tryz.ntmps100
  go_wp2
  rw [Lib.run_neq_ptr_same w _ Tryz.underlying73 hj]
  go_wp2
  go_end0
  exact ⟨rfl, rfl⟩
set_option maxHeartbeats 1000000 in
set_option maxRecDepth 100000 in
theorem bd_fresh (b : Nat) (w : World) (h0 : w.cell? ⟨b, 0, none⟩ = some (.pointer none)) (hsh : w.shape? b = some (76, 2)) (hfz : w.frozen? ⟨b, 0, none⟩ = false) :
    Calls Tryz.prog 100 #[.pointer (some ⟨b, 0, none⟩)] w fun e w' => e = .returned (.tuple #[]) ∧ w' = w.setCell ⟨b, 0, none⟩ (.pointer (some ⟨b, 0, none⟩)) := by
  obtain ⟨j, hj, hjs⟩ := Option.map_eq_some_iff.1 bd_size
  go_enter Tryz.func100, Tryz.ntmps100
  go_wp2
  rw [Lib.run_to_unsafe w ⟨b, 0, none⟩ Tryz.underlying73 Tryz.underlying151 hj (by rw [hjs]; decide) hsh (Nat.zero_lt_succ 1)]
  simp only [Result.andThen]
  rw [Oper.upon_value]
  go_wp2
  rw [run_callFunc_extern Tryz.func132 (by kernel_rfl) (by kernel_rfl) (by kernel_rfl) (e := Extern.AbiNoEscape.same) (by kernel_rfl)]
  rw [Lib.run_noEscape]
  simp only [Result.andThen]
  rw [Oper.upon_value]
  go_wp2
  rw [Lib.run_from_unsafe w ⟨b, 0, none⟩ Tryz.underlying151 Tryz.underlying73 hj hsh bd_lies]
  simp only [Result.andThen]
  rw [Oper.upon_value]
  go_wp2
  go_end0
  exact ⟨rfl, rfl⟩
/-- Every block stays but those of bytes and of builders. -/
def KeepsR (w w' : World) : Prop := ∀ (k : Nat) (cs : Array Value) (T : TypeId) (fz : Nat × Nat), w.heap[k]? = some (.cells cs T fz) → T ≠ 5 → T ≠ 76 → w'.heap[k]? = some (.cells cs T fz)
theorem KeepsR.refl (w : World) : KeepsR w w := fun _ _ _ _ h _ _ => h
theorem KeepsR.trans {a b c : World} (h1 : KeepsR a b) (h2 : KeepsR b c) : KeepsR a c := fun k cs T fz h ha hb => h2 k cs T fz (h1 k cs T fz h ha hb) ha hb
theorem KeepsR.set {w : World} {b i : Nat} {v : Value} {cs : Array Value} {fz : Nat × Nat} (h : w.heap[b]? = some (.cells cs 76 fz)) : KeepsR w (w.setCell ⟨b, i, none⟩ v) := by
  intro k cs2 T fz2 hk h1 h2
  rw [heap_setCell_other w _ k v (by
    intro e
    have e : k = b := e
    subst e
    rw [h] at hk
    injection hk with hk
    injection hk with _ hk _
    exact h2 hk.symm)]
  exact hk
theorem KeepsR.grown {w w' : World} {base : Nat} {v : Value} {n : Nat} {xs : List Value} (hown : w.ownsRow base 5 1 v n xs) (hg : w.grownBy w' v.ownBlock) : KeepsR w w' := by
  intro k cs T fz hk h1 h2
  rw [hg.block k (block_lt hk) (fun e => by
    rcases hown.2 with ⟨rfl, _⟩ | ⟨g, cap, cur, rfl, _, hg2, _⟩
    · cases e
    · injection e with e
      subst e
      rw [hg2] at hk
      injection hk with hk
      injection hk with _ hk _
      exact h1 hk.symm)]
  exact hk
theorem bd_check (B b : Nat) (bs : List Value) (w : World) (h : Lib.IsBuilder 76 5 B b bs w) :
    Calls Tryz.prog 100 #[.pointer (some ⟨b, 0, none⟩)] w fun e w' => e = .returned (.tuple #[]) ∧ (Lib.BuilderAt 76 5 B b (.pointer (some ⟨b, 0, none⟩)) bs w' ∧ Below B w w' ∧ KeepsR w w') := by
  rcases h with h | h
  · refine (bd_fresh b w h.cell0 h.shape h.frozen0).mono ?_
    rintro e w' ⟨rfl, rfl⟩
    obtain ⟨v9, h9, _⟩ := h.2
    exact ⟨rfl, h.used _, (Below.refl B w).setCell (p := ⟨b, 0, none⟩) h.1 _, KeepsR.set h9⟩
  · refine (bd_used b w h.cell0).mono ?_
    rintro e w' ⟨rfl, rfl⟩
    exact ⟨rfl, h, Below.refl B _, KeepsR.refl _⟩
/-- A text written behind what was written. -/
def BdT (B b : Nat) (t : Bt) (w : World) : Prop := Lib.IsBuilder 76 5 B b (bv t) w
set_option maxHeartbeats 2000000 in
set_option maxRecDepth 100000 in
theorem bd_write (B b : Nat) (t x : Bt) (w : World) (h : BdT B b t w) (hlen : t.length + x.length ≤ 140737488355328) (hBw : B ≤ w.heap.size) :
    Calls Tryz.prog 48 #[.pointer (some ⟨b, 0, none⟩), sv x] w fun e w' => (∃ v, e = .returned v) ∧ BdT B b (t ++ x) w' ∧ Below B w w' ∧ KeepsR w w' := by
  have hsx := sv_size x
  unfold BdT at h
  go_enter Tryz.func48, Tryz.ntmps48
  go_wp2_with fail
  refine (bd_check B b _ _ h).mono ?_
  rintro e w1 ⟨rfl, h1, hb1, hk1⟩
  obtain ⟨hB, v, hbk, hown, hne⟩ := h1
  have c0 : w1.cell? ⟨b, 0, none⟩ = some (.pointer (some ⟨b, 0, none⟩)) := by rw [Lib.cell_of_heap hbk]; rfl
  have c1 : w1.cell? ⟨b, 1, none⟩ = some v := by rw [Lib.cell_of_heap hbk]; rfl
  have hownb : OwnB w1 B 5 v t := ⟨_, hown⟩
  have hbw : B ≤ w1.heap.size := Nat.le_trans hBw hb1.size
  have HNE := hid hne
  have HK1 := hid hk1
  have HOW1 := hid hown
  have HBK := hid hbk
  clear hown hne hbk hk1
  go_wp2_with (at_builtin; go_must (refine wpList_appT rfl (.tmp 12) (.tmp 13) _ _ rfl B el_byte8 Tryz.underlying9 v t x rfl hownb rfl hlen hbw (fun v' w2 hown' hgrow _ => ?_)); have hb2 := (hgrow.block b (block_lt HBK.out) (fun e => HNE.out e.symm)).trans HBK.out; have d0 : w2.cell? ⟨b, 0, none⟩ = some (.pointer (some ⟨b, 0, none⟩)) := (cell_of_row _ _ _ _ _ (0, 0) hb2).trans rfl; have d1 : w2.cell? ⟨b, 1, none⟩ = some v := (cell_of_row _ _ _ _ _ (0, 0) hb2).trans rfl; have f1 := block_free hb2 1; have HOWN := hid hown'; have HB2 := hid hb2; have HGR := hid hgrow; obtain ⟨ao, n', cap, rfl⟩ := ownB_any hown'; clear hown' hb2 hgrow)
  go_ret2
  refine ⟨⟨_, rfl⟩, ?_, ?_, ?_⟩
  · obtain ⟨n9, hown'⟩ := HOWN.out
    have h9 : n9 = (bv (t ++ x)).length := by have := hown'.1; omega
    subst h9
    exact .inr (Lib.BuilderAt.put (T := 76) (e := 5) hB HB2.out hown' (by decide))
  · exact (hb1.grown HGR.out hbw (fun k hk => (hownb.lt k hk).1)).setCell (p := ⟨b, 1, none⟩) hB _
  · exact (HK1.out.trans (KeepsR.grown HOW1.out HGR.out)).trans (KeepsR.set HB2.out)
theorem BdT.below {B b : Nat} {t : Bt} {w w' : World} (h : BdT B b t w) (hb : Below w.heap.size w w') : BdT B b t w' := by
  unfold BdT at h ⊢
  rcases h with ⟨h1, v, h2, h3, h4⟩ | ⟨h1, v, h2, h3, h4⟩
  · exact .inl ⟨h1, v, (hb.block _ (block_lt h2)).trans h2, own_below h3 hb, h4⟩
  · exact .inr ⟨h1, v, (hb.block _ (block_lt h2)).trans h2, own_below h3 hb, h4⟩
theorem BdT.new (w : World) (B : Nat) (hB : B ≤ w.heap.size) : BdT B w.heap.size [] (w.alloc (.cells #[.pointer none, .slice none 0 0] 76)) :=
  .inl ⟨hB, _, heap_alloc_new w _, World.ownsRow_nil _ _ _ _, by simp [Value.ownBlock]⟩
theorem bd_text (B b : Nat) (l : Bt) (w : World) (h : BdT B b l w) (hBw : B ≤ w.heap.size) : Calls Tryz.prog 52 #[.pointer (some ⟨b, 0, none⟩)] w fun e w' => e = .returned (sv l) ∧ Below B w w' :=
  Tryz.Builder_String_any B b l w h hBw
theorem row_cell {w : World} {b j : Nat} {cs : Array Value} {T : TypeId} {fz : Nat × Nat} {v : Value} (h : w.heap[b]? = some (.cells cs T fz)) (hj : cs[j]? = some v) : w.cell? ⟨b, j, none⟩ = some v := by
  rw [cell_of_row _ _ _ _ _ _ h]; exact hj
end Go.Proofs.YtbpedjkebemhnaaGreatDoor
end
