/- YD, YX, GM, GN -/
import Derived.Test.YtbpedjkebemhnaaGreatDoorSA02
import Derived.Test.YtbpedjkebemhnaaGreatDoorSA06
import Derived.IntWalk
import Derived.Lib.OthersKept
import Derived.Lib.TrimU
import Derived.Test.YtbpedjkebemhnaaGreatDoorSA03
import Derived.Deep.LoopGhost
import Derived.Shelf.Strings.IndexFuncSpace
import Derived.Test.YtbpedjkebemhnaaGreatDoorSA04
import Derived.Test.YtbpedjkebemhnaaGreatDoorSA01
import Derived.Test.YtbpedjkebemhnaaGreatDoorProg
import Derived.Deep.WholeRow
set_option linter.unusedSimpArgs false
set_option linter.unusedVariables false
section
/- Is there one among types, among functions, of which a function value says yes: slices.IndexFunc, slices.ContainsFunc. -/
set_option linter.unusedVariables false
namespace Go.Proofs.YtbpedjkebemhnaaGreatDoor
open Go.RowKit

/-- Where the first of which it is said stands, or -1. -/
def AtYes {α : Type} (p : α → Bool) (l : List α) (w : World) (e : Ending) (w' : World) : Prop := (∃ k : Int, e = .returned (.int .i64 k) ∧ (if l.any p then 0 ≤ k else k = -1)) ∧ Below w.heap.size w w'
theorem any_none {α : Type} {p : α → Bool} {l : List α} {k : Nat} (hlt : k < l.length) (hi : (l.take k).any p = false) (h : p l[k] = false) : (l.take (k + 1)).any p = false := by
  rw [t_take hlt, List.any_append, hi]; simp [h]
theorem any_some {α : Type} {p : α → Bool} {l : List α} {k : Nat} (hlt : k < l.length) (h : p l[k] = true) : l.any p = true := List.any_eq_true.2 ⟨_, List.getElem_mem hlt, h⟩
/-- A function in a list: its cells. -/
theorem decl_at {w : World} {B : Nat} {A : Option Addr} {n c : Nat} {xs : List Value} {l : List DeD} (hs : Sl w B 15 (.slice A n c) xs) (hr : TRow (DeR w B) 15 xs l) {i : Nat} (hi : i < l.length) (hn : n = l.length) :
    ∃ b o A1 c1 A2 c2 kk s n1 l1 cc A3 n3 c3 A4 n4 c4 A5 n5 c5 nd md, A = some ⟨b, o, none⟩ ∧ DeR w B [sv nd, .bool l[i].exp, .slice A1 l[i].vars.length c1, sv md, .slice A2 l[i].types.length c2, .int .i64 kk, .string s, .int .i64 n1, .int .i64 l1, .int .i64 cc, .slice A3 n3 c3, .slice A4 n4 c4, .slice A5 n5 c5, .int .i64 l[i].line, .int .i64 l[i].col] l[i] ∧ w.cell? ⟨b, o + i * 15, none⟩ = some (sv nd) ∧ w.cell? ⟨b, o + i * 15 + 1, none⟩ = some (.bool l[i].exp) ∧ w.cell? ⟨b, o + i * 15 + 2, none⟩ = some (.slice A1 l[i].vars.length c1) ∧ w.cell? ⟨b, o + i * 15 + 3, none⟩ = some (sv md) ∧ w.cell? ⟨b, o + i * 15 + 4, none⟩ = some (.slice A2 l[i].types.length c2) ∧ w.cell? ⟨b, o + i * 15 + 5, none⟩ = some (.int .i64 kk) ∧ w.cell? ⟨b, o + i * 15 + 6, none⟩ = some (.string s) ∧ w.cell? ⟨b, o + i * 15 + 7, none⟩ = some (.int .i64 n1) ∧ w.cell? ⟨b, o + i * 15 + 8, none⟩ = some (.int .i64 l1) ∧ w.cell? ⟨b, o + i * 15 + 9, none⟩ = some (.int .i64 cc) ∧ w.cell? ⟨b, o + i * 15 + 10, none⟩ = some (.slice A3 n3 c3) ∧ w.cell? ⟨b, o + i * 15 + 11, none⟩ = some (.slice A4 n4 c4) ∧ w.cell? ⟨b, o + i * 15 + 12, none⟩ = some (.slice A5 n5 c5) ∧ w.cell? ⟨b, o + i * 15 + 13, none⟩ = some (.int .i64 l[i].line) ∧ w.cell? ⟨b, o + i * 15 + 14, none⟩ = some (.int .i64 l[i].col) := by
  obtain ⟨b, o, z, hA, hb, hz, hc⟩ := row_at hs hr (by omega) hi hn
  obtain ⟨A1, c1, A2, c2, k, s, n, l1, c, A3, n3, c3, A4, n4, c4, A5, n5, c5, xv, xt, rfl, _⟩ := hz.parts
  refine ⟨b, o, A1, c1, A2, c2, k, s, n, l1, c, A3, n3, c3, A4, n4, c4, A5, n5, c5, l[i].name, l[i].param, hA, hz, by simpa using hc 0 _ rfl, hc 1 _ rfl, hc 2 _ rfl, hc 3 _ rfl, hc 4 _ rfl, hc 5 _ rfl, hc 6 _ rfl, hc 7 _ rfl, hc 8 _ rfl, hc 9 _ rfl, hc 10 _ rfl, hc 11 _ rfl, hc 12 _ rfl, hc 13 _ rfl, hc 14 _ rfl⟩
set_option maxRecDepth 100000 in
set_option maxHeartbeats 4000000 in
theorem index_types (F : Nat) (eg : ∀ args w, (callFunc F args).run Tryz.prog w = .ok (.enter F args) w) (caps : Array Value) (p : TyD → Bool) (v : Value) (l : List TyD) (xs : List Value) (w : World) (hv : Sl w w.heap.size 4 v xs) (hr : TysR w w.heap.size xs l)
    (hF : ∀ y ∈ l, ∀ (w1 : World) (z : List Value), Below w.heap.size w w1 → TyR w1 w1.heap.size z y → Calls Tryz.prog F (#[.agg z.toArray] ++ caps) w1 fun e w2 => e = .returned (.bool (p y)) ∧ Below w1.heap.size w1 w2) :
    Calls Tryz.prog 126 #[v, .func (.func F) #[] caps] w (AtYes p l w) := by
  have HV := hid hv
  obtain ⟨A, c, rfl⟩ := t_sl_exact hv (by omega) (m := l.length) hr.length
  obtain ⟨_, hn, hc⟩ := t_sl_len hv
  have HF := hid hF
  have HR := hid hr
  clear hv hF hr
  go_enter Tryz.func126, Tryz.ntmps126
  go_wp2_with fail
  go_loopw [8] (fun v8 wr => ∃ k : Nat, v8 = .int .i64 k ∧ k ≤ l.length ∧ (l.take k).any p = false ∧ Below w.heap.size w wr) (fun v8 _ => l.length - (intOf v8).toNat)
  case atStart => exact ⟨0, rfl, by omega, rfl, Below.refl _ _⟩
  case round =>
    obtain ⟨k, rfl, hk, hinv, hbr⟩ := hrel
    have HI := hid hinv
    clear hinv
    by_cases hlt : k < l.length
    · obtain ⟨b1, o1, kk, s, A1, n1, c1, A2, n2, c2, rfl, hr1, d0, d1, d2, d3⟩ := elem_at (Sl.more (Sl.below HV.out hbr) hbr.size) ((HR.out.keep hbr).more hbr.size) hlt rfl
      have HN := hid (HF.out _ (List.getElem_mem hlt) wr _ hbr hr1)
      have HST := hid (fun h => any_none hlt HI.out h)
      have HYES := hid (fun h => any_some (p := p) hlt h)
      have HB := hid hbr
      clear hbr hr1
      cases hq : p l[k] with
      | true =>
        have HALL := hid (HYES.out hq)
        rw [hq] at HN
        clear hq HST HYES
        generalize l[k] = X at *
        go_wp2_with fail
        refine HN.out.mono ?_
        rintro e w2 ⟨rfl, hb⟩
        have HB2 := hid (HB.out.trans (hb.mono HB.out.size))
        clear hb d0 d1 d2 d3
        go_wp2_with fail
        go_ret
        exact ⟨⟨k, rfl, by rw [HALL.out]; simp⟩, HB2.out⟩
      | false =>
        have HNO := hid (HST.out hq)
        rw [hq] at HN
        clear hq HST HYES
        generalize l[k] = X at *
        go_wp2_with fail
        refine HN.out.mono ?_
        rintro e w2 ⟨rfl, hb⟩
        have HB2 := hid (HB.out.trans (hb.mono HB.out.size))
        clear hb d0 d1 d2 d3
        go_wp2_with fail
        go_roundw
        case rel => exact ⟨k + 1, rfl, by omega, HNO.out, HB2.out⟩
        case measure => simp [intOf]; omega
    · obtain rfl : k = l.length := by omega
      rw [List.take_length] at HI
      have HB := hid hbr
      clear hbr
      go_wp2_with fail
      go_ret
      exact ⟨⟨-1, rfl, by rw [HI.out]; simp⟩, HB.out⟩
theorem contains_types (F : Nat) (eg : ∀ args w, (callFunc F args).run Tryz.prog w = .ok (.enter F args) w) (caps : Array Value) (p : TyD → Bool) (v : Value) (l : List TyD) (xs : List Value) (w : World) (hv : Sl w w.heap.size 4 v xs) (hr : TysR w w.heap.size xs l)
    (hF : ∀ y ∈ l, ∀ (w1 : World) (z : List Value), Below w.heap.size w w1 → TyR w1 w1.heap.size z y → Calls Tryz.prog F (#[.agg z.toArray] ++ caps) w1 fun e w2 => e = .returned (.bool (p y)) ∧ Below w1.heap.size w1 w2) :
    Calls Tryz.prog 81 #[v, .func (.func F) #[] caps] w fun e w' => e = .returned (.bool (l.any p)) ∧ Below w.heap.size w w' := by
  have HI := hid (index_types F eg caps p v l xs w hv hr hF)
  obtain ⟨A, n, c, rfl⟩ := t_sl_shape hv
  clear hv hF hr eg
  cases hb : l.any p
  all_goals
    go_enter Tryz.func81, Tryz.ntmps81
    go_wp2_with fail
    refine HI.out.mono ?_
    rintro e w2 ⟨⟨k, rfl, hk⟩, hbel⟩
    rw [hb] at hk
    simp only [Bool.false_eq_true, if_false, if_true] at hk
    have HB := hid hbel
    clear hbel hb HI
  · subst hk
    go_wp2_with fail
    go_ret
    exact ⟨rfl, HB.out⟩
  · have hg : decide (0 ≤ k) = true := by simpa using hk
    go_wp2_with fail
    go_ret
    exact ⟨rfl, HB.out⟩
set_option maxRecDepth 100000 in
set_option maxHeartbeats 4000000 in
theorem index_decls (F : Nat) (eg : ∀ args w, (callFunc F args).run Tryz.prog w = .ok (.enter F args) w) (caps : Array Value) (p : DeD → Bool) (v : Value) (l : List DeD) (xs : List Value) (w : World) (hv : Sl w w.heap.size 15 v xs) (hr : TRow (DeR w w.heap.size) 15 xs l)
    (hF : ∀ y ∈ l, ∀ (w1 : World) (z : List Value), Below w.heap.size w w1 → DeR w1 w1.heap.size z y → Calls Tryz.prog F (#[.agg z.toArray] ++ caps) w1 fun e w2 => e = .returned (.bool (p y)) ∧ Below w1.heap.size w1 w2) :
    Calls Tryz.prog 94 #[v, .func (.func F) #[] caps] w (AtYes p l w) := by
  have HV := hid hv
  obtain ⟨A, c, rfl⟩ := t_sl_exact hv (by omega) (m := l.length) hr.len
  obtain ⟨_, hn, hc⟩ := t_sl_len hv
  have HF := hid hF
  have HR := hid hr
  clear hv hF hr
  go_enter Tryz.func94, Tryz.ntmps94
  go_wp2_with fail
  go_loopw [8] (fun v8 wr => ∃ k : Nat, v8 = .int .i64 k ∧ k ≤ l.length ∧ (l.take k).any p = false ∧ Below w.heap.size w wr) (fun v8 _ => l.length - (intOf v8).toNat)
  case atStart => exact ⟨0, rfl, by omega, rfl, Below.refl _ _⟩
  case round =>
    obtain ⟨k, rfl, hk, hinv, hbr⟩ := hrel
    have HI := hid hinv
    clear hinv
    by_cases hlt : k < l.length
    · obtain ⟨b1, o1, A1, c1, A2, c2, kk, s, n1, l1, cc, A3, n3, c3, A4, n4, c4, A5, n5, c5, nd, md, hA, hr1, d0, d1, d2, d3, d4, d5, d6, d7, d8, d9, d10, d11, d12, d13, d14⟩ := decl_at (Sl.more (Sl.below HV.out hbr) hbr.size) (HR.out.imp fun _ _ h => (h.keep hbr).more hbr.size) hlt rfl
      subst hA
      have HN := hid (HF.out _ (List.getElem_mem hlt) wr _ hbr hr1)
      have HST := hid (fun h => any_none hlt HI.out h)
      have HYES := hid (fun h => any_some (p := p) hlt h)
      have HB := hid hbr
      clear hbr hr1
      cases hq : p l[k] with
      | true =>
        have HALL := hid (HYES.out hq)
        rw [hq] at HN
        clear hq HST HYES
        generalize l[k] = X at *
        go_wp2_with fail
        refine HN.out.mono ?_
        rintro e w2 ⟨rfl, hb⟩
        have HB2 := hid (HB.out.trans (hb.mono HB.out.size))
        clear hb d0 d1 d2 d3 d4 d5 d6 d7 d8 d9 d10 d11 d12 d13 d14
        go_wp2_with fail
        go_ret
        exact ⟨⟨k, rfl, by rw [HALL.out]; simp⟩, HB2.out⟩
      | false =>
        have HNO := hid (HST.out hq)
        rw [hq] at HN
        clear hq HST HYES
        generalize l[k] = X at *
        go_wp2_with fail
        refine HN.out.mono ?_
        rintro e w2 ⟨rfl, hb⟩
        have HB2 := hid (HB.out.trans (hb.mono HB.out.size))
        clear hb d0 d1 d2 d3 d4 d5 d6 d7 d8 d9 d10 d11 d12 d13 d14
        go_wp2_with fail
        go_roundw
        case rel => exact ⟨k + 1, rfl, by omega, HNO.out, HB2.out⟩
        case measure => simp [intOf]; omega
    · obtain rfl : k = l.length := by omega
      rw [List.take_length] at HI
      have HB := hid hbr
      clear hbr
      go_wp2_with fail
      go_ret
      exact ⟨⟨-1, rfl, by rw [HI.out]; simp⟩, HB.out⟩
theorem contains_decls (F : Nat) (eg : ∀ args w, (callFunc F args).run Tryz.prog w = .ok (.enter F args) w) (caps : Array Value) (p : DeD → Bool) (v : Value) (l : List DeD) (xs : List Value) (w : World) (hv : Sl w w.heap.size 15 v xs) (hr : TRow (DeR w w.heap.size) 15 xs l)
    (hF : ∀ y ∈ l, ∀ (w1 : World) (z : List Value), Below w.heap.size w w1 → DeR w1 w1.heap.size z y → Calls Tryz.prog F (#[.agg z.toArray] ++ caps) w1 fun e w2 => e = .returned (.bool (p y)) ∧ Below w1.heap.size w1 w2) :
    Calls Tryz.prog 43 #[v, .func (.func F) #[] caps] w fun e w' => e = .returned (.bool (l.any p)) ∧ Below w.heap.size w w' := by
  have HI := hid (index_decls F eg caps p v l xs w hv hr hF)
  obtain ⟨A, n, c, rfl⟩ := t_sl_shape hv
  clear hv hF hr eg
  cases hb : l.any p
  all_goals
    go_enter Tryz.func43, Tryz.ntmps43
    go_wp2_with fail
    refine HI.out.mono ?_
    rintro e w2 ⟨⟨k, rfl, hk⟩, hbel⟩
    rw [hb] at hk
    simp only [Bool.false_eq_true, if_false, if_true] at hk
    have HB := hid hbel
    clear hbel hb HI
  · subst hk
    go_wp2_with fail
    go_ret
    exact ⟨rfl, HB.out⟩
  · have hg : decide (0 ≤ k) = true := by simpa using hk
    go_wp2_with fail
    go_ret
    exact ⟨rfl, HB.out⟩
end Go.Proofs.YtbpedjkebemhnaaGreatDoor
end
section
/- Copies of lists: slices.Clone of types, imports, functions, nodes. -/
set_option linter.unusedVariables false
namespace Go.Proofs.YtbpedjkebemhnaaGreatDoor
open Go.RowKit

theorem own_shape0 {w : World} {base : Nat} {e : TypeId} {k : Nat} {v : Value} {n : Nat} {xs : List Value} (h : w.ownsRow base e k v n xs) : ∃ ao n' cap, v = .slice ao n' cap := by
  rcases h.2 with ⟨hv, _⟩ | ⟨g, cap, cur, hv, _⟩
  · exact ⟨_, _, _, hv⟩
  · exact ⟨_, _, _, hv⟩
theorem el_type : ElemIs Tryz.prog 22 32 (.agg #[.int .i64 0, .string ByteArray.empty, .slice none 0 0, .slice none 0 0]) 4 72 := ⟨Tryz.underlying22, by kernel_rfl, rfl, by omega⟩
set_option maxRecDepth 100000 in
set_option maxHeartbeats 1000000 in
theorem clone_types (w : World) (v : Value) (xs : List Value) (m : Nat) (hv : Sl w w.heap.size 4 v xs) (hm : xs.length = m * 4) (hn : m ≤ 100000) (h1 : ∀ u ∈ xs, u.oneCell' = true) : Calls Tryz.prog 95 #[v] w fun e w' => ∃ v' n', e = .returned v' ∧ w'.ownsRow w.heap.size 32 4 v' n' xs ∧ Below w.heap.size w w' := by
  obtain ⟨A, c, rfl⟩ := t_sl_exact hv (by omega) hm
  have hnl : ∀ (w : World) (A : Option Addr) (n c : Nat), (binOp .eql 22 (.slice A n c) (.slice none 0 0)).run Tryz.prog w = .ok (.bool A.isNone) w := fun w A n c => Lib.run_eql_slice_nil w _ _ A n c 0 0 Tryz.underlying22
  have HV := hid hv
  have H1 := hid h1
  rcases A with _ | A
  · obtain rfl : m = 0 := by
      rcases Nat.eq_zero_or_pos m with h | h
      · exact h
      · obtain ⟨b, o, hA, _⟩ := t_sl_in hv h (by omega)
        cases hA
    obtain rfl : xs = [] := List.eq_nil_of_length_eq_zero (by omega)
    clear hv h1
    go_enter Tryz.func95, Tryz.ntmps95
    go_wp2_with fail
    go_ret
    exact ⟨_, _, rfl, World.ownsRow_nil _ _ _ _, Below.refl _ _⟩
  · have hown : (w.alloc (.cells #[] 32)).ownsRow w.heap.size 32 4 (.slice (some ⟨w.heap.size, 0, none⟩) 0 0) 0 [] := World.ownsRow_made w #[] 0 (Nat.le_refl _) (by simp [maxLen]) rfl
    have hsl := hv.alloc (Nat.le_refl _) (.cells #[] 32)
    have hb0 : Below w.heap.size w (w.alloc (.cells #[] 32)) := (Below.refl _ _).alloc (Nat.le_refl _) _
    have HB0 := hid hb0
    have HOWN := hid hown
    have hl1 : 0 * 4 + xs.length ≤ maxLen := by unfold maxLen; omega
    have hl2 : (0 * 4 + xs.length) * 72 ≤ 140737488355328 := by omega
    clear hv h1 hb0
    go_enter Tryz.func95, Tryz.ntmps95
    go_wp2_with (at_builtin; go_must (refine wpList_app rfl (.tmp 5) (.tmp 6) _ rfl w.heap.size el_type _ _ rfl rfl hown hsl H1.out hl1 hl2 (by simp) (fun v' w' n' hown' hg hbk => ?_)); obtain ⟨A9, n9, c9, rfl⟩ := own_shape0 hown'; have HO := hid hown'; have HG := hid hg; clear hown' hg hbk)
    go_ret
    exact ⟨_, n', rfl, by simpa using HO.out, below_app HB0.out HOWN.out HG.out (Nat.le_refl _) (by simp)⟩
end Go.Proofs.YtbpedjkebemhnaaGreatDoor
end
section
/- Texts that belong together: UD, UE, UF, UR. -/
/- Which bytes of a text are not for a string: rune by rune and byte by byte. -/
set_option linter.unusedVariables false
namespace Go.Proofs.YtbpedjkebemhnaaGreatDoor

def okS (s : Bt) : Bool := s.all (fun c => !(decide (c < 32) && c != 9 && c != 10))
/-- May not stand in a string. -/
def badC (n : Nat) : Bool := decide (n < 32) && n != 9 && n != 10
theorem dec_low (s : ByteArray) (i : Nat) (h : (s.get! i).toNat < 128) : Utf8.decode s i = ((s.get! i).toNat, 1) := by
  unfold Utf8.decode
  simp only [Nat.add_zero]
  rw [if_pos h]
theorem cont_high (s : ByteArray) (i k : Nat) (h : (decide (i + k < s.size) && (s.get! (i + k)).toNat / 64 == 2) = true) : 128 ≤ (s.get! (i + k)).toNat := by
  rw [Bool.and_eq_true, beq_iff_eq] at h
  omega
theorem dec_high (s : ByteArray) (i : Nat) (h : 128 ≤ (s.get! i).toNat) : 128 ≤ (Utf8.decode s i).1 ∧ ∀ j, j < (Utf8.decode s i).2 → 128 ≤ (s.get! (i + j)).toNat := by
  have h0 : ∀ j, j < 1 → 128 ≤ (s.get! (i + j)).toNat := by
    intro j hj
    obtain rfl : j = 0 := by omega
    exact h
  unfold Utf8.decode
  simp only [Nat.add_zero]
  rw [if_neg (by omega)]
  split
  · rename_i h1
    rw [Bool.and_eq_true] at h1
    have a1 := cont_high s i 1 h1.2
    split
    · rename_i h2
      refine ⟨h2, fun j hj => ?_⟩
      have hj : j < 2 := hj
      obtain rfl | rfl : j = 0 ∨ j = 1 := by omega
      · exact h
      · exact a1
    · exact ⟨by decide, h0⟩
  split
  · rename_i h1
    rw [Bool.and_eq_true, Bool.and_eq_true] at h1
    have a1 := cont_high s i 1 h1.1.2
    have a2 := cont_high s i 2 h1.2
    split
    · rename_i h2
      rw [Bool.and_eq_true, decide_eq_true_eq] at h2
      refine ⟨by have := h2.1; omega, fun j hj => ?_⟩
      have hj : j < 3 := hj
      obtain rfl | rfl | rfl : j = 0 ∨ j = 1 ∨ j = 2 := by omega
      · exact h
      · exact a1
      · exact a2
    · exact ⟨by decide, h0⟩
  split
  · rename_i h1
    rw [Bool.and_eq_true, Bool.and_eq_true, Bool.and_eq_true] at h1
    have a1 := cont_high s i 1 h1.1.1.2
    have a2 := cont_high s i 2 h1.1.2
    have a3 := cont_high s i 3 h1.2
    split
    · rename_i h2
      rw [Bool.and_eq_true, decide_eq_true_eq] at h2
      refine ⟨by have := h2.1; omega, fun j hj => ?_⟩
      have hj : j < 4 := hj
      obtain rfl | rfl | rfl | rfl : j = 0 ∨ j = 1 ∨ j = 2 ∨ j = 3 := by omega
      · exact h
      · exact a1
      · exact a2
      · exact a3
    · exact ⟨by decide, h0⟩
  · exact ⟨by decide, h0⟩
theorem get_at (s : Bt) (i : Nat) (h : i < s.length) : ((⟨s.toArray⟩ : ByteArray).get! i) = s[i] := by
  show s.toArray[i]! = s[i]
  rw [getElem!_pos s.toArray i (by simpa using h)]
  simp
theorem bad_byte (c : UInt8) : badC c.toNat = (decide (c < 32) && c != 9 && c != 10) := by
  have h1 : (decide (c.toNat < 32)) = decide (c < 32) := by
    rw [decide_eq_decide, UInt8.lt_iff_toNat_lt]; rfl
  have h2 : ∀ d : UInt8, (c.toNat != d.toNat) = (c != d) := by
    intro d
    by_cases h : c = d
    · subst h; simp
    · have : c.toNat ≠ d.toNat := fun e => h (UInt8.toNat_inj.1 e)
      simp [bne, beq_eq_false_iff_ne.2 h, beq_eq_false_iff_ne.2 this]
  unfold badC
  rw [h1, show (9 : Nat) = (9 : UInt8).toNat from rfl, show (10 : Nat) = (10 : UInt8).toNat from rfl, h2, h2]
/-- The bytes up to a place are for a string. -/
def FineTo (s : Bt) (p : Nat) : Prop := ∀ j, j < p → ∀ h : j < s.length, badC s[j].toNat = false
theorem fine_step {s : Bt} {p : Nat} (h : FineTo s p) (hp : p < s.length) (hb : badC (Utf8.decode ⟨s.toArray⟩ p).1 = false) : FineTo s (p + (Utf8.decode ⟨s.toArray⟩ p).2) := by
  intro j hj hl
  rcases Nat.lt_or_ge j p with h1 | h1
  · exact h j h1 hl
  · rcases Nat.lt_or_ge ((⟨s.toArray⟩ : ByteArray).get! p).toNat 128 with h2 | h2
    · rw [dec_low _ _ h2] at hj hb
      have hj : j < p + 1 := hj
      obtain rfl : j = p := by omega
      rw [get_at s j hl] at hb
      exact hb
    · have h3 := (dec_high _ _ h2).2 (j - p) (by omega)
      rw [show p + (j - p) = j by omega, get_at s j hl] at h3
      have : decide (s[j].toNat < 32) = false := decide_eq_false (by omega)
      unfold badC
      rw [this]; rfl
theorem bad_here {s : Bt} {p : Nat} (hp : p < s.length) (hb : badC (Utf8.decode ⟨s.toArray⟩ p).1 = true) : s.all (fun c => !(decide (c < 32) && c != 9 && c != 10)) = false := by
  rcases Nat.lt_or_ge ((⟨s.toArray⟩ : ByteArray).get! p).toNat 128 with h2 | h2
  · rw [dec_low _ _ h2, get_at s p hp] at hb
    cases ha : s.all (fun c => !(decide (c < 32) && c != 9 && c != 10)) with
    | false => rfl
    | true =>
      have := List.all_eq_true.1 ha _ (List.getElem_mem hp)
      rw [← bad_byte] at this
      have hb : badC s[p].toNat = true := hb
      rw [hb] at this
      cases this
  · have h3 := (dec_high _ _ h2).1
    unfold badC at hb
    rw [decide_eq_false (by omega)] at hb
    cases hb
theorem fine_all {s : Bt} {p : Nat} (h : FineTo s p) (hp : s.length ≤ p) : s.all (fun c => !(decide (c < 32) && c != 9 && c != 10)) = true := by
  rw [List.all_eq_true]
  intro c hc
  obtain ⟨j, hj, rfl⟩ := List.getElem_of_mem hc
  rw [← bad_byte, h j (by omega) hj]
  rfl
end Go.Proofs.YtbpedjkebemhnaaGreatDoor

/- Which texts may be strings: tree.str. -/
set_option linter.unusedVariables false
namespace Go.Proofs.YtbpedjkebemhnaaGreatDoor
open Go.RowKit

theorem strf_any (R : Nat) (w : World) (h1 : R ≤ 1114111) : Calls Tryz.prog 143 #[.int .i32 (R : Int)] w fun e w' => e = .returned (.bool (badC R)) ∧ w' = w := by
  by_cases h32 : R < 32
  · have g1 : decide ((R : Int) < 32) = true := by simp; omega
    by_cases h9 : R = 9
    · subst h9
      go_enter Tryz.func143, Tryz.ntmps143
      go_wp2_with fail
      go_ret
      exact ⟨rfl, rfl⟩
    · by_cases h10 : R = 10
      · subst h10
        go_enter Tryz.func143, Tryz.ntmps143
        go_wp2_with fail
        go_ret
        exact ⟨rfl, rfl⟩
      · have g2 : ((R : Int) != 9) = true := by rw [bne_iff_ne]; omega
        have g3 : ((R : Int) != 10) = true := by rw [bne_iff_ne]; omega
        have HT : Hid (badC R = true) := hid (by unfold badC; simp [h32, h9, h10])
        rw [HT.out]
        clear h32 h9 h10 h1
        go_enter Tryz.func143, Tryz.ntmps143
        go_wp2_with fail
        go_ret
        exact ⟨rfl, rfl⟩
  · have g1 : decide ((R : Int) < 32) = false := by simp; omega
    have HT : Hid (badC R = false) := hid (by unfold badC; simp [h32])
    rw [HT.out]
    clear h32 h1
    go_enter Tryz.func143, Tryz.ntmps143
    go_wp2_with fail
    go_ret
    exact ⟨rfl, rfl⟩

/-- Where the first that no string may have stands, or -1. -/
def AtBad (s : Bt) (w : World) (e : Ending) (w' : World) : Prop := (∃ k : Int, e = .returned (.int .i64 k) ∧ (if okS s then k = -1 else 0 ≤ k)) ∧ Below w.heap.size w w'
set_option maxHeartbeats 2000000 in
set_option maxRecDepth 1000000 in
theorem indexbad_any (s : Bt) (w : World) :
    Calls Tryz.prog 174 #[sv s, .func (.func 143) #[] #[], .bool true] w (AtBad s w) := by
  have hsz := sv_size s
  obtain ⟨bs, hbs⟩ : ∃ bs : ByteArray, bs = ⟨s.toArray⟩ := ⟨_, rfl⟩
  have HBS := hid hbs
  rw [← hbs] at hsz
  show Calls Tryz.prog 174 #[.string ⟨s.toArray⟩, .func (.func 143) #[] #[], .bool true] w _
  rw [← hbs]
  clear hbs
  go_enter Tryz.func174, Tryz.ntmps174
  go_wp2_with fail
  go_loopg [] s.length (fun g wx => ∃ pos : Nat, wx.heap[w.heap.size]? = some (.stringIter bs pos) ∧ Below w.heap.size w wx ∧ FineTo s pos ∧ s.length ≤ pos + g)
  case atStart => exact ⟨0, World.iter_heap w bs 0, (Below.refl _ w).alloc (Nat.le_refl _) _, fun j hj => by omega, by omega⟩
  case round =>
    obtain ⟨pos, hit, hbw, hleft, hfu⟩ := hrel
    have hszw : w.heap.size < wr.heap.size := (Array.getElem?_eq_some_iff.1 hit).1
    by_cases hp : pos < bs.size
    · obtain ⟨g, rfl⟩ : ∃ g, gk = g + 1 := ⟨gk - 1, by omega⟩
      have hnx : ∀ ty, (Instr.next (.pointer (some ⟨w.heap.size, 0, none⟩)) true ty).run Tryz.prog wr = _ := fun ty => Lib.run_next_any_at wr w.heap.size bs pos ty hit hp
      have hwd := Lib.width_pos bs pos
      have hr1 := Lib.rune_le bs pos
      have hst : ∀ R K, Utf8.decode bs pos = (R, K) → (badC R = false → FineTo s (pos + K)) ∧ (badC R = true → okS s = false) := by
        intro R K h
        rw [HBS.out] at h
        have hps : pos < s.length := by omega
        constructor
        · intro hb
          have := fine_step hleft hps (by rw [h]; exact hb)
          rw [h] at this
          exact this
        · intro hb
          exact bad_here hps (by rw [h]; exact hb)
      obtain ⟨R, hR⟩ : ∃ R, (Utf8.decode bs pos).1 = R := ⟨_, rfl⟩
      obtain ⟨K, hK⟩ : ∃ K, (Utf8.decode bs pos).2 = K := ⟨_, rfl⟩
      have hst := hst R K (by rw [← hR, ← hK])
      rw [hR, hK] at hnx
      rw [hR] at hr1
      rw [hK] at hwd
      have hit2 := Lib.iterAt_heap wr w.heap.size bs pos (pos + K) hit
      have hbw2 := Lib.below_iterAt hbw (k := w.heap.size) (Nat.le_refl _) bs (pos + K)
      obtain ⟨W, hWd⟩ : ∃ W, wr.iterAt w.heap.size bs (pos + K) = W := ⟨_, rfl⟩
      rw [hWd] at hnx hit2 hbw2
      have HC := hid (strf_any R W hr1)
      have HB2 := hid hbw2
      have HIT := hid hit2
      cases hb : badC R with
      | true =>
        rw [hb] at HC
        have HE := hid (hst.2 hb)
        clear hst hb hR hK hleft
        go_wp2_with fail
        refine HC.out.mono ?_
        rintro e w2 ⟨rfl, rfl⟩
        go_wp2_with fail
        go_ret
        exact ⟨⟨pos, rfl, by rw [HE.out]; simp⟩, HB2.out⟩
      | false =>
        rw [hb] at HC
        have HE := hid (hst.1 hb)
        clear hst hb hR hK hleft
        go_wp2_with fail
        refine HC.out.mono ?_
        rintro e w2 ⟨rfl, rfl⟩
        go_wp2_with fail
        go_roundg g
        case measure => omega
        case rel => exact ⟨pos + K, HIT.out, HB2.out, HE.out, by omega⟩
    · have hnx : ∀ ty, (Instr.next (.pointer (some ⟨w.heap.size, 0, none⟩)) true ty).run Tryz.prog wr = _ := fun ty => Lib.run_next_end_at wr w.heap.size bs pos ty hit hp
      have HE : Hid (okS s = true) := hid (fine_all hleft (by omega))
      have HB := hid hbw
      clear hleft hbw
      go_wp2_with fail
      go_ret
      exact ⟨⟨-1, rfl, by rw [HE.out]; simp⟩, HB.out⟩
theorem containsbad_any (s : Bt) (w : World) :
    Calls Tryz.prog 142 #[sv s, .func (.func 143) #[] #[]] w fun e w' => e = .returned (.bool (!okS s)) ∧ Below w.heap.size w w' := by
  have HI : Hid (∀ w1, Calls Tryz.prog 157 #[sv s, .func (.func 143) #[] #[]] w1 (AtBad s w1)) := hid (by
    intro w1
    have HJ := hid (indexbad_any s w1)
    go_enter Tryz.func157, Tryz.ntmps157
    go_wp2_with fail
    refine HJ.out.mono ?_
    rintro e w2 ⟨⟨k, rfl, hk⟩, hbel⟩
    have HK := hid hk
    clear hk
    go_wp2_with fail
    go_ret
    exact ⟨⟨k, rfl, HK.out⟩, hbel⟩)
  cases hb : okS s
  all_goals
    go_enter Tryz.func142, Tryz.ntmps142
    go_wp2_with fail
    refine (HI.out w).mono ?_
    rintro e w2 ⟨⟨k, rfl, hk⟩, hbel⟩
    rw [hb] at hk
    simp only [Bool.false_eq_true, if_false, if_true] at hk
    have HB := hid hbel
    clear hbel hb HI
  · have hg : decide (0 ≤ k) = true := by simpa using hk
    go_wp2_with fail
    go_ret
    exact ⟨rfl, HB.out⟩
  · subst hk
    go_wp2_with fail
    go_ret
    exact ⟨rfl, HB.out⟩
theorem tstr_any (s : Bt) (w : World) (hs : s.length ≤ maxLen) :
    Calls Tryz.prog 120 #[sv s] w fun e w' => e = .returned (.bool (strB s)) ∧ Below w.heap.size w w' := by
  have hsz := sv_size s
  unfold maxLen at hs
  by_cases hl : s.length ≤ 256
  · have hg : decide ((s.length : Int) ≤ 256) = true := by simp; omega
    have HT : Hid (strB s = okS s) := hid (by unfold strB okS; rw [decide_eq_true hl]; rfl)
    rw [HT.out]
    have HC := hid (containsbad_any s w)
    clear hl
    generalize okS s = b at *
    go_enter Tryz.func120, Tryz.ntmps120
    go_wp2_with fail
    refine HC.out.mono ?_
    rintro e w2 ⟨rfl, hb⟩
    go_wp2_with fail
    go_ret
    cases b <;> exact ⟨rfl, hb⟩
  · have hg : decide ((s.length : Int) ≤ 256) = false := by simp; omega
    have HT : Hid (strB s = false) := hid (by unfold strB; rw [decide_eq_false hl]; rfl)
    rw [HT.out]
    clear hl
    go_enter Tryz.func120, Tryz.ntmps120
    go_wp2_with fail
    go_ret
    exact ⟨rfl, Below.refl _ _⟩
end Go.Proofs.YtbpedjkebemhnaaGreatDoor

/- The operations: tree.Ops, and the reference's. -/
set_option linter.unusedVariables false
namespace Go.Proofs.YtbpedjkebemhnaaGreatDoor
open Go.RowKit

def opsT : Bt := [111, 114, 32, 97, 110, 100, 32, 60, 32, 60, 61, 32, 61, 61, 32, 43, 43, 32, 43, 32, 45, 32, 94, 32, 42, 32, 47, 32, 37, 32, 38, 32, 60, 60, 32, 62, 62]
theorem ops_fields : Lib.fields opsT = opsL := by kernel_rfl
theorem ops_ascii : (opsT.all fun b => decide (b.toNat < 128)) = true := by kernel_rfl
theorem ops_list : (⟨opsT.toArray⟩ : ByteArray).data.toList = opsT := rfl
set_option maxRecDepth 100000 in
theorem ops_any (w : World) (hL : LaidT w) : Calls Tryz.prog 18 #[] w fun e w' => ∃ v, e = .returned v ∧ Ss w' w'.heap.size v opsL ∧ Below w.heap.size w w' := by
  go_enter Tryz.func18, Tryz.ntmps18
  go_wp2_with fail
  refine (Tryz.strings_Fields ⟨opsT.toArray⟩ _ ?h1 ?h2 hL.2).mono ?_
  case h1 => decide
  case h2 =>
    intro j b hb
    rw [ops_list] at hb
    exact of_decide_eq_true (List.all_eq_true.1 ops_ascii b (List.mem_of_getElem? hb))
  rintro e w1 ⟨rfl, rfl⟩
  rw [ops_list, ops_fields]
  have hss : Ss (w.alloc (.cells (opsL.map fun l => Value.string ⟨l.toArray⟩).toArray 9)) (w.alloc (.cells (opsL.map fun l => Value.string ⟨l.toArray⟩).toArray 9)).heap.size (.slice (some ⟨w.heap.size, 0, none⟩) opsL.length opsL.length) opsL := by
    have := sl_new w (opsL.map fun l => Value.string ⟨l.toArray⟩).toArray 9 1 opsL.length (by simp) (by decide)
    rw [World.size_alloc]
    simpa [Ss, svs] using this
  have hb : Below w.heap.size w (w.alloc (.cells (opsL.map fun l => Value.string ⟨l.toArray⟩).toArray 9)) := (Below.refl _ _).alloc (Nat.le_refl _) _
  generalize (w.alloc (.cells (opsL.map fun l => Value.string ⟨l.toArray⟩).toArray 9)) = w2 at *
  generalize opsL.length = n at *
  go_wp2_with fail
  go_ret
  exact ⟨_, rfl, hss, hb⟩
end Go.Proofs.YtbpedjkebemhnaaGreatDoor

/- The reference's small functions: Ops, op, names, str. -/
set_option linter.unusedVariables false
namespace Go.Proofs.YtbpedjkebemhnaaGreatDoor
open Go.RowKit

set_option maxRecDepth 100000 in
theorem rops_any (w : World) : Calls Tryz.prog 20 #[] w fun e w' => ∃ v, e = .returned v ∧ Ss w' w'.heap.size v opsL ∧ Below w.heap.size w w' := by
  have hss : Ss (w.alloc (.cells (svs opsL).toArray 9)) (w.alloc (.cells (svs opsL).toArray 9)).heap.size (.slice (some ⟨w.heap.size, 0, none⟩) 15 15) opsL := by
    have := sl_new w (svs opsL).toArray 9 1 15 (by simp [svs_length]; rfl) (by decide)
    rw [World.size_alloc]
    simpa [Ss] using this
  have hb : Below w.heap.size w (w.alloc (.cells (svs opsL).toArray 9)) := (Below.refl _ _).alloc (Nat.le_refl _) _
  go_enter Tryz.func20, Tryz.ntmps20
  go_wp2_with fail
  go_ret
  exact ⟨_, rfl, hss, hb⟩
set_option maxHeartbeats 400000 in
theorem rop_any (w : World) (x : Bt) : Calls Tryz.prog 125 #[sv x] w fun e w' => e = .returned (.bool (decide (x ∈ opsL))) ∧ Below w.heap.size w w' := by
  obtain ⟨l, hl⟩ : ∃ l, l = opsL := ⟨_, rfl⟩
  rw [← hl]
  go_enter Tryz.func125, Tryz.ntmps125
  go_wp2_with fail
  refine (rops_any _).mono ?_
  rintro e w1 ⟨v, rfl, hss, hb⟩
  rw [← hl] at hss
  clear hl
  obtain ⟨A, c, rfl, hn, hc, hx⟩ := hss.open_
  unfold maxLen at hc
  go_wp2_with fail
  go_loop [4] (fun v4 => ∃ k : Nat, v4 = .int .i64 k ∧ k ≤ l.length ∧ x ∉ l.take k) (fun v4 => l.length - (intOf v4).toNat)
  case atStart => exact ⟨0, rfl, by omega, by simp⟩
  case round =>
    obtain ⟨k, rfl, hk, hnot⟩ := hrel
    by_cases hlt : k < l.length
    · obtain ⟨b, o, rfl, hb2, hcell⟩ := hx (by omega)
      have d1 := hcell k hlt
      have e1 : l[k] = x → x ∈ l := fun h => by rw [← h]; exact List.getElem_mem hlt
      have e2 : ¬ l[k] = x → x ∉ l.take (k + 1) := fun h hh => by
        rw [List.take_succ_eq_append_getElem hlt, List.mem_append] at hh
        rcases hh with hh | hh
        · exact hnot hh
        · simp at hh; exact h hh.symm
      clear hcell hx hss hnot
      generalize l[k] = X at *
      by_cases hX : X = x
      · have e3 := e1 hX
        have hq : (X == x) = true := by rw [beq_iff_eq]; exact hX
        clear hX e1 e2
        go_wp2_with fail
        go_ret
        exact ⟨by simp [e3], hb⟩
      · have e3 := e2 hX
        have hq : (X == x) = false := by rw [beq_eq_false_iff_ne]; exact hX
        clear hX e1 e2
        go_wp2_with fail
        go_round
        case rel => exact ⟨k + 1, rfl, by omega, e3⟩
        case measure => simp [intOf]; omega
    · obtain rfl : k = l.length := by omega
      rw [List.take_length] at hnot
      go_wp2_with fail
      go_ret
      exact ⟨by simp [hnot], hb⟩
set_option maxRecDepth 100000 in
set_option maxHeartbeats 2000000 in
theorem rnames_any (v : Value) (l : List Bt) (w : World) (hv : Ss w w.heap.size v l) (hl : ∀ y ∈ l, y.length ≤ maxLen) :
    Calls Tryz.prog 47 #[v] w fun e w' => e = .returned (.bool (l.all nameL)) ∧ Below w.heap.size w w' := by
  have HV := hid hv
  obtain ⟨A, c, rfl⟩ := t_sl_exact hv (by omega) (m := l.length) (by rw [svs_length]; omega)
  obtain ⟨_, hn, hc⟩ := t_sl_len hv
  have HL := hid hl
  clear hv hl
  go_enter Tryz.func47, Tryz.ntmps47
  go_wp2_with fail
  go_loopw [3] (fun v3 wr => ∃ k : Nat, v3 = .int .i64 k ∧ k ≤ l.length ∧ (l.take k).all nameL = true ∧ Below w.heap.size w wr) (fun v3 _ => l.length - (intOf v3).toNat)
  case atStart => exact ⟨0, rfl, by omega, rfl, Below.refl _ _⟩
  case round =>
    obtain ⟨k, rfl, hk, hinv, hbr⟩ := hrel
    have HI := hid hinv
    clear hinv
    by_cases hlt : k < l.length
    · obtain ⟨b1, o1, rfl, hb1, hc1⟩ := t_sl_in HV.out hlt (by omega)
      have d1 : wr.cell? ⟨b1, o1 + k, none⟩ = some (sv l[k]) := t_keep hbr (by have := hc1 0 (sv l[k]) (by simp [svs, hlt]); simpa using this) hb1
      have HN := hid (rname_any wr l[k] (HL.out _ (List.getElem_mem hlt)))
      have hst := t_take hlt
      have HB := hid hbr
      clear hc1 hb1 hbr
      cases hq : nameL l[k] with
      | false =>
        have hall : l.all nameL = false := by
          cases h : l.all nameL with
          | false => rfl
          | true => rw [List.all_eq_true] at h; rw [h _ (List.getElem_mem hlt)] at hq; cases hq
        rw [hq] at HN
        have HALL := hid hall
        clear hq hst hall
        generalize l[k] = X at *
        go_wp2_with fail
        refine HN.out.mono ?_
        rintro e w2 ⟨rfl, hb⟩
        have HB2 := hid (HB.out.trans (hb.mono HB.out.size))
        clear hb d1
        go_wp2_with fail
        go_ret
        exact ⟨by rw [HALL.out]; rfl, HB2.out⟩
      | true =>
        rw [hq] at HN
        have HST : Hid ((l.take (k + 1)).all nameL = true) := hid (by rw [hst, List.all_append, HI.out]; simp [hq])
        clear hq hst
        generalize l[k] = X at *
        go_wp2_with fail
        refine HN.out.mono ?_
        rintro e w2 ⟨rfl, hb⟩
        have HB2 := hid (HB.out.trans (hb.mono HB.out.size))
        clear hb d1
        go_wp2_with fail
        go_roundw
        case rel => exact ⟨k + 1, rfl, by omega, HST.out, HB2.out⟩
        case measure => simp [intOf]; omega
    · obtain rfl : k = l.length := by omega
      rw [List.take_length] at HI
      have HB := hid hbr
      clear hbr
      go_wp2_with fail
      go_ret
      exact ⟨by rw [HI.out]; rfl, HB.out⟩
theorem ok_take {s : Bt} {i : Nat} (h : i < s.length) : okS (s.take (i + 1)) = (okS (s.take i) && !badC s[i].toNat) := by
  unfold okS
  rw [List.take_succ_eq_append_getElem h, List.all_append, bad_byte]
  simp
theorem ok_not {s : Bt} {i : Nat} (h : i < s.length) (hb : badC s[i].toNat = true) : okS s = false := by
  cases ha : okS s with
  | false => rfl
  | true =>
    have := List.all_eq_true.1 ha _ (List.getElem_mem h)
    rw [← bad_byte, hb] at this
    cases this
set_option maxRecDepth 100000 in
set_option maxHeartbeats 2000000 in
theorem rstr_any (s : Bt) (w : World) (hs : s.length ≤ maxLen) :
    Calls Tryz.prog 124 #[sv s] w fun e w' => e = .returned (.bool (strB s)) ∧ w' = w := by
  have hsz := sv_size s
  unfold maxLen at hs
  have HT : Hid (strB s = (decide (s.length ≤ 256) && okS s)) := hid rfl
  rw [HT.out]
  go_enter Tryz.func124, Tryz.ntmps124
  go_wp2_with fail
  go_loop [3] (fun v3 => ∃ k : Nat, v3 = .int .i64 k ∧ k ≤ s.length ∧ okS (s.take k) = true) (fun v3 => s.length - (intOf v3).toNat)
  case atStart => exact ⟨0, rfl, by omega, rfl⟩
  case round =>
    obtain ⟨k, rfl, hk, hinv⟩ := hrel
    have HI := hid hinv
    clear hinv
    by_cases hlt : k < s.length
    · have hix := sv_index s k hlt
      have HTK := hid (ok_take hlt)
      have HNO := hid (fun h => ok_not hlt h)
      generalize s[k] = X at *
      have hx : X.toNat < 256 := X.toNat_lt
      by_cases h32 : X.toNat < 32
      · by_cases h9 : X.toNat = 9
        · have HST : Hid (okS (s.take (k + 1)) = true) := hid (by rw [HTK.out, HI.out]; simp [badC, h9])
          have g1 : decide ((X.toNat : Int) < 32) = true := by simp; omega
          have g2 : ((X.toNat : Int) != 9) = false := by rw [bne_eq_false_iff_eq]; omega
          clear h32 h9 HTK HNO
          go_wp2_with fail
          go_round
          case rel => exact ⟨k + 1, rfl, by omega, HST.out⟩
          case measure => simp [intOf]; omega
        by_cases h10 : X.toNat = 10
        · have HST : Hid (okS (s.take (k + 1)) = true) := hid (by rw [HTK.out, HI.out]; simp [badC, h10])
          have g1 : decide ((X.toNat : Int) < 32) = true := by simp; omega
          have g2 : ((X.toNat : Int) != 9) = true := by rw [bne_iff_ne]; omega
          have g3 : ((X.toNat : Int) != 10) = false := by rw [bne_eq_false_iff_eq]; omega
          clear h32 h9 h10 HTK HNO
          go_wp2_with fail
          go_round
          case rel => exact ⟨k + 1, rfl, by omega, HST.out⟩
          case measure => simp [intOf]; omega
        · have HE : Hid (okS s = false) := hid (HNO.out (by simp [badC, h32, h9, h10]))
          have g1 : decide ((X.toNat : Int) < 32) = true := by simp; omega
          have g2 : ((X.toNat : Int) != 9) = true := by rw [bne_iff_ne]; omega
          have g3 : ((X.toNat : Int) != 10) = true := by rw [bne_iff_ne]; omega
          clear h32 h9 h10 HTK HNO
          go_wp2_with fail
          go_ret
          exact ⟨by rw [HE.out]; simp, rfl⟩
      · have HST : Hid (okS (s.take (k + 1)) = true) := hid (by rw [HTK.out, HI.out]; simp [badC, h32])
        have g1 : decide ((X.toNat : Int) < 32) = false := by simp; omega
        clear h32 HTK HNO
        go_wp2_with fail
        go_round
        case rel => exact ⟨k + 1, rfl, by omega, HST.out⟩
        case measure => simp [intOf]; omega
    · obtain rfl : k = s.length := by omega
      rw [List.take_length] at HI
      by_cases hl : s.length ≤ 256
      · have hg : decide ((s.length : Int) ≤ 256) = true := by simp; omega
        have HR : Hid ((decide (s.length ≤ 256) && okS s) = true) := hid (by rw [HI.out]; simp [hl])
        clear hl
        go_wp2_with fail
        go_ret
        exact ⟨by rw [HR.out]; rfl, rfl⟩
      · have hg : decide ((s.length : Int) ≤ 256) = false := by simp; omega
        have HR : Hid ((decide (s.length ≤ 256) && okS s) = false) := hid (by rw [decide_eq_false hl]; rfl)
        clear hl
        go_wp2_with fail
        go_ret
        exact ⟨by rw [HR.out]; rfl, rfl⟩
end Go.Proofs.YtbpedjkebemhnaaGreatDoor
end
section
/- Texts that belong together: UG, UH. -/
/- Is a node's text right: tree.text. -/
set_option linter.unusedVariables false
namespace Go.Proofs.YtbpedjkebemhnaaGreatDoor
open Go.RowKit

set_option maxRecDepth 100000 in
set_option maxHeartbeats 2000000 in
theorem text_any (w : World) (k : Int) (text : Bt) (v2 v3 v4 : Int) (A5 : Option Addr) (n5 c5 : Nat) (A6 : Option Addr) (n6 c6 : Nat) (A7 : Option Addr) (n7 c7 : Nat) (ht : text.length ≤ maxLen) (hX : LaidT w) (b : Bool) (a1 a2 a3 a4 : Int) :
    Calls Tryz.prog 71 #[.agg #[.int .i64 k, sv text, .int .i64 v2, .int .i64 v3, .int .i64 v4, .slice A5 n5 c5, .slice A6 n6 c6, .slice A7 n7 c7], .agg #[.bool b, .int .i64 a1, .int .i64 a2, .int .i64 a3, .int .i64 a4]] w fun e w' => e = .returned (.bool (textB k text b)) ∧ Below w.heap.size w w' := by
  obtain ⟨W, hW⟩ : ∃ W, (w.alloc (.cells #[.int .i64 k, sv text, .int .i64 v2, .int .i64 v3, .int .i64 v4, .slice A5 n5 c5, .slice A6 n6 c6, .slice A7 n7 c7] 26)).alloc (.cells #[.bool b, .int .i64 a1, .int .i64 a2, .int .i64 a3, .int .i64 a4] 105) = W := ⟨_, rfl⟩
  have hb2 : Below w.heap.size w W := by rw [← hW]; exact ((Below.refl _ _).alloc (Nat.le_refl _) _).alloc (by simp) _
  have HB := hid hb2
  have HW := hid hW
  have HX := hid (hX.below hb2)
  have HNM := hid (name_all W text (hX.below hb2) ht)
  have HST := hid (tstr_any text W ht)
  have hbx : W.heap[w.heap.size]? = some (.cells #[.int .i64 k, sv text, .int .i64 v2, .int .i64 v3, .int .i64 v4, .slice A5 n5 c5, .slice A6 n6 c6, .slice A7 n7 c7] 26 (0, 0)) := by rw [← hW]; exact (two_new w _ _).1
  obtain ⟨_, g1, _⟩ := t_row8 hbx
  have G1 := hid g1
  clear hX hbx g1 hb2 ht
  cases b with
  | true =>
    have HT : Hid (textB k text true = nameL text) := hid rfl
    rw [HT.out]
    rw [← hW] at HNM
    clear hW
    generalize nameL text = q at *
    go_enter Tryz.func71, Tryz.ntmps71
    go_wp2_with fail
    refine HNM.out.mono ?_
    rintro e w2 ⟨rfl, hb⟩
    have hW := HW.out
    rw [hW] at hb
    go_wp2_with fail
    go_ret
    exact ⟨rfl, HB.out.trans (hb.mono HB.out.size)⟩
  | false =>
    by_cases k1 : k = 1
    · subst k1
      have HT : Hid (textB 1 text false = strB text) := hid rfl
      rw [HT.out]
      rw [← hW] at HST
      clear hW
      generalize strB text = q at *
      go_enter Tryz.func71, Tryz.ntmps71
      go_wp2_with fail
      refine HST.out.mono ?_
      rintro e w2 ⟨rfl, hb⟩
      have hW := HW.out
      rw [hW] at hb
      go_wp2_with fail
      go_ret
      exact ⟨rfl, HB.out.trans (hb.mono HB.out.size)⟩
    have q1 : (k == 1) = false := beq_eq_false_iff_ne.mpr k1
    by_cases k14 : k = 14
    · subst k14
      have HT : Hid (textB 14 text false = decide (text ∈ opsL)) := hid (by show opsL.contains text = _; rw [List.contains_eq_mem])
      rw [HT.out]
      clear hW k1 q1
      have HB0 : Hid (Below W.heap.size W W.drew) := hid (below_drawn W 1)
      have HO := hid (ops_any W.drew (HX.out.below HB0.out))
      have HCC := hid (fun v (w1 : World) (h : Ss w1 w1.heap.size v opsL) => contains_any v opsL text w1 h)
      clear HT HNM HST
      generalize decide (text ∈ opsL) = q at *
      go_enter Tryz.func71, Tryz.ntmps71
      go_wp2_with fail
      have hW := HW.out
      rw [hW]
      clear hW
      refine wp_region_held_drew (S := fun w' => Below W.heap.size W w') (by kernel_rfl) HB0.out (fun _ => ?_)
      try simp only [Act.put, List.getElem_toArray, List.getElem_cons_zero, List.getElem_cons_succ, List.setIfInBounds_toArray, List.set_cons_zero, List.set_cons_succ]
      refine tk 1 (.pointer (some ⟨w.heap.size, 1, none⟩)) HB0.out ?_
      refine tkf 2 (sv text) (kp1 G1.out) HB0.out ?_
      refine wpAnyH_ready (rs := [0]) (by kernel_rfl) (by simp) ?_
      refine AllReadyH.cons rfl (fun K hK => ?_) (AllReadyH.nil)
      go_simp
      refine HO.out.mono ?_
      rintro e w2 ⟨v2, rfl, hss, hb⟩
      have HSS := hid hss
      have HB2 := hid (HB0.out.trans (hb.mono HB0.out.size))
      clear hb hss
      refine hK.out _ _ HB2.out (fun _ => ?_)
      clear hK K
      try simp only [Act.put, List.getElem_toArray, List.getElem_cons_zero, List.getElem_cons_succ, List.setIfInBounds_toArray, List.set_cons_zero, List.set_cons_succ]
      refine wpAnyH_ready (rs := [3]) (by kernel_rfl) (by simp) ?_
      refine AllReadyH.cons rfl (fun K hK => ?_) (AllReadyH.nil)
      go_simp
      refine (HCC.out _ _ HSS.out).mono ?_
      rintro e w3 ⟨rfl, rfl⟩
      refine hK.out _ _ HB2.out (fun _ => ?_)
      clear hK K
      try simp only [Act.put, List.getElem_toArray, List.getElem_cons_zero, List.getElem_cons_succ, List.setIfInBounds_toArray, List.set_cons_zero, List.set_cons_succ]
      refine tk 4 (.bool q) HB2.out ?_
      refine wpAnyH_done (by kernel_rfl) ?_ _
      go_wp2_with fail
      go_ret
      exact ⟨rfl, HB.out.trans (HB2.out.mono HB.out.size)⟩
    have q14 : (k == 14) = false := beq_eq_false_iff_ne.mpr k14
    have HT : Hid (textB k text false = (text == [])) := hid (by unfold textB; rw [if_neg (by simp), if_neg k1, if_neg k14])
    rw [HT.out]
    clear hW k1 k14 HNM HST HT
    rw [← HW.out] at HB
    cases hq : (text == []) with
    | true =>
      obtain rfl : text = [] := by simpa using hq
      go_enter Tryz.func71, Tryz.ntmps71
      go_wp2_with fail
      go_ret
      exact ⟨rfl, HB.out⟩
    | false =>
      go_enter Tryz.func71, Tryz.ntmps71
      go_wp2_with fail
      go_ret
      exact ⟨rfl, HB.out⟩
end Go.Proofs.YtbpedjkebemhnaaGreatDoor

/- What each kind of node has: tree.kinds. -/
set_option linter.unusedVariables false
namespace Go.Proofs.YtbpedjkebemhnaaGreatDoor
open Go.RowKit

theorem results_cell {P : Program} {fn : Func} {p : Tmp} {ty : TypeId} (h : fn.results = #[.cell p ty]) (tmps : Array Value) (w : World) (g : Nat) (t : TypeId) (cs : Array Value) (fr : Nat × Nat) (d : TypeDesc)
    (hp : tmps.getD p undef = .pointer (some ⟨g, 0, none⟩)) (hg : w.heap[g]? = some (.cells cs t fr))
    (hu : P.underlying ty = some d) (hd : (match d with | .struct _ | .array _ _ => true | _ => false) = true) (hi : (P.info? ty).map (·.size) = some cs.size) :
    (results fn tmps).run P w = .ok (.agg cs) w := by
  have hp' : tmps[p]?.getD undef = .pointer (some ⟨g, 0, none⟩) := by simpa using hp
  simp [results, h, hp', asAddr, run_loadVar_row w g t ty cs fr d hg hu hd hi, Result.andThen]
def kindsL : List Value := [.bool false, .int .i64 0, .int .i64 0, .int .i64 0, .int .i64 9223372036854775807, .bool false, .int .i64 0, .int .i64 0, .int .i64 0, .int .i64 0, .bool false, .int .i64 0, .int .i64 0, .int .i64 0, .int .i64 1, .bool false, .int .i64 0, .int .i64 0, .int .i64 0, .int .i64 0, .bool true, .int .i64 0, .int .i64 0, .int .i64 0, .int .i64 0, .bool true, .int .i64 0, .int .i64 1, .int .i64 2, .int .i64 0, .bool true, .int .i64 1, .int .i64 2, .int .i64 1, .int .i64 0, .bool false, .int .i64 0, .int .i64 0, .int .i64 2, .int .i64 0, .bool false, .int .i64 0, .int .i64 0, .int .i64 (-1), .int .i64 0, .bool true, .int .i64 0, .int .i64 0, .int .i64 1, .int .i64 0, .bool true, .int .i64 0, .int .i64 0, .int .i64 2, .int .i64 0, .bool false, .int .i64 0, .int .i64 0, .int .i64 3, .int .i64 0, .bool false, .int .i64 0, .int .i64 0, .int .i64 1, .int .i64 5, .bool false, .int .i64 1, .int .i64 1, .int .i64 1, .int .i64 0, .bool false, .int .i64 0, .int .i64 0, .int .i64 2, .int .i64 0, .bool false, .int .i64 0, .int .i64 0, .int .i64 1, .int .i64 0, .bool false, .int .i64 0, .int .i64 0, .int .i64 1, .int .i64 0, .bool false, .int .i64 0, .int .i64 0, .int .i64 1, .int .i64 0, .bool false, .int .i64 0, .int .i64 0, .int .i64 0, .int .i64 0, .bool true, .int .i64 1, .int .i64 1048576, .int .i64 0, .int .i64 0]
set_option maxRecDepth 100000 in
set_option maxHeartbeats 2000000 in
theorem kinds_all (w : World) : Calls Tryz.prog 70 #[] w fun e w' => e = .returned (.agg kindsL.toArray) ∧ Below w.heap.size w w' := by
  have hst : ∀ L : List Value, L = kindsL → (storeCells ⟨w.heap.size, 0, none⟩ L 0).run Tryz.prog (w.alloc (.cells Tryz.zeroCells106 106)) = .ok () (w.alloc (.cells kindsL.toArray 106)) := by
    intro L h
    subst h
    have := run_storeCells_new (P := Tryz.prog) w 106 Tryz.zeroCells106 kindsL.toArray (by kernel_rfl) (by kernel_rfl) (by kernel_rfl)
    simpa using this
  go_enter Tryz.func70, Tryz.ntmps70
  go_wp2_with fail
  rw [hst _ (by kernel_rfl)]
  clear hst
  have hK : kindsL.toArray.size = 100 := by kernel_rfl
  generalize hKL : kindsL.toArray = L at *
  go_wp2_with fail
  refine bodyPost_ret (results_cell rfl _ _ w.heap.size _ _ _ _ rfl (heap_alloc_new w _) Tryz.underlying106 rfl (by rw [hK]; kernel_rfl)) rfl ?_
  exact ⟨by rw [hKL], (Below.refl _ _).alloc (Nat.le_refl _) _⟩
def hasV (h : HasD) : Value := .agg #[.bool h.name, .int .i64 (h.low : Int), .int .i64 (h.types : Int), .int .i64 h.kids, .int .i64 h.most]
theorem kinds_index (k : Int) (h0 : 0 ≤ k) (h1 : k < 20) (u : World) : (Instr.index 106 (.agg kindsL.toArray) (.int .i64 k)).run Tryz.prog u = .ok (hasV (hasD k)) u := by
  have h : k = 0 ∨ k = 1 ∨ k = 2 ∨ k = 3 ∨ k = 4 ∨ k = 5 ∨ k = 6 ∨ k = 7 ∨ k = 8 ∨ k = 9 ∨ k = 10 ∨ k = 11 ∨ k = 12 ∨ k = 13 ∨ k = 14 ∨ k = 15 ∨ k = 16 ∨ k = 17 ∨ k = 18 ∨ k = 19 := by omega
  clear h0 h1
  rcases h with rfl | rfl | rfl | rfl | rfl | rfl | rfl | rfl | rfl | rfl | rfl | rfl | rfl | rfl | rfl | rfl | rfl | rfl | rfl | rfl
  all_goals (show _ = _; kernel_rfl)
theorem kinds_any (w : World) : Calls Tryz.prog 70 #[] w fun e w' => (∃ v, e = .returned v ∧ ∀ k : Int, 0 ≤ k → k < 20 → ∀ u, (Instr.index 106 v (.int .i64 k)).run Tryz.prog u = .ok (hasV (hasD k)) u) ∧ Below w.heap.size w w' :=
  (kinds_all w).mono fun e w' h => ⟨⟨_, h.1, fun k h0 h1 u => kinds_index k h0 h1 u⟩, h.2⟩
end Go.Proofs.YtbpedjkebemhnaaGreatDoor
end
