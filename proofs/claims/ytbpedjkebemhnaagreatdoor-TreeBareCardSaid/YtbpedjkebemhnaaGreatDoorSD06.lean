/- GK, MQ, GL, YD -/
import Derived.Test.YtbpedjkebemhnaaGreatDoorSD04
import Derived.Test.YtbpedjkebemhnaaGreatDoorSD03
import Derived.Lib.Join
import Derived.Test.YtbpedjkebemhnaaGreatDoorSD05
import Derived.Lib.ItoaLen
import Derived.Deep.RegionHeld
import Derived.WalkKit
import Derived.Test.YtbpedjkebemhnaaGreatDoorSD01
import Derived.Test.YtbpedjkebemhnaaGreatDoorSD02
import Derived.IntWalk
set_option linter.unusedSimpArgs false
set_option linter.unusedVariables false
section
/- Texts that belong together: TG, TH, TI, UA, UB, UC. -/
/- How long a written type's text may be. -/
set_option linter.unusedVariables false
namespace Go.Proofs.YtbpedjkebemhnaaGreatDoor

mutual
/-- How many types there are. -/
def cntT : TyD → Nat
  | .mk _ _ _ ks => 1 + cntTs ks
def cntTs : List TyD → Nat
  | [] => 0
  | t :: l => cntT t + cntTs l
end
def lenS (l : List Bt) : Nat := (l.map List.length).sum
theorem lenS_cons (x : Bt) (l : List Bt) : lenS (x :: l) = x.length + lenS l := by simp [lenS]
theorem joinS_len (sep : Bt) : ∀ l : List Bt, (joinS sep l).length ≤ lenS l + sep.length * l.length
  | [] => by simp [joinS]
  | [x] => by simp [joinS, lenS]
  | x :: y :: l => by
    have h := joinS_len sep (y :: l)
    rw [joinS, List.length_append, List.length_append, lenS_cons, List.length_cons, Nat.mul_succ]
    omega
theorem nameL_len {s : Bt} (h : nameL s = true) : s.length ≤ 32 := by
  rcases Nat.lt_or_ge 32 s.length with h1 | h1
  · rw [nameL_long h1] at h; cases h
  · exact h1
theorem field_len : ∀ (ns l : List Bt), (∀ n ∈ ns, n.length ≤ 32) → lenS (List.zipWith fieldS ns l) ≤ lenS l + 34 * l.length
  | [], l, _ => by simp [lenS]
  | n :: ns, [], _ => by simp [lenS]
  | n :: ns, x :: l, h => by
    have h1 := field_len ns l fun y hy => h y (List.mem_cons_of_mem _ hy)
    have h2 := h n (List.mem_cons_self ..)
    rw [List.zipWith_cons_cons, lenS_cons, lenS_cons, List.length_cons]
    have h3 : (fieldS n x).length = n.length + (2 + x.length) := by unfold fieldS; simp only [List.length_append, List.length_cons, List.length_nil]
    omega
theorem zip_len {α β γ : Type} (f : α → β → γ) : ∀ (a : List α) (b : List β), (List.zipWith f a b).length ≤ b.length
  | [], b => by simp
  | x :: a, [] => by simp
  | x :: a, y :: b => by rw [List.length_zipWith]; omega
theorem innerS_len (ks : List Int) (k : Int) (s : Bt) : (innerS ks k s).length ≤ s.length + 2 := by
  unfold innerS
  split
  · simp
  · omega
theorem inner_len (kk : List Int) : ∀ (ks : List Int) (l : List Bt), lenS (List.zipWith (innerS kk) ks l) ≤ lenS l + 2 * l.length
  | [], l => by simp [lenS]
  | k :: ks, [] => by simp [lenS]
  | k :: ks, x :: l => by
    have h1 := inner_len kk ks l
    have h2 := innerS_len kk k x
    rw [List.zipWith_cons_cons, lenS_cons, lenS_cons, List.length_cons]
    omega
theorem getD_len (l : List Bt) (i : Nat) : (l.getD i []).length ≤ lenS l := by
  induction l generalizing i with
  | nil => simp [lenS]
  | cons x l ih =>
    rw [lenS_cons]
    cases i with
    | zero => simp
    | succ i => have := ih i; simp only [List.getD_cons_succ]; omega
theorem two_len (l : List Bt) : (l.getD 0 []).length + (l.getD 1 []).length ≤ lenS l := by
  match l with
  | [] => simp [lenS]
  | [x] => simp [lenS]
  | x :: y :: l => simp [lenS]
theorem showTs_length (l : List TyD) : (showTs l).length = l.length := by rw [showTs_map, List.length_map]
mutual
theorem show_len : ∀ (t : TyD) (m : Nat), writtenB m t = true → (showT t).length + 44 ≤ 80 * cntT t
  | .mk k nm ns ks, m, h => by
    obtain ⟨m, rfl⟩ : ∃ q, m = q + 1 := by
      cases m with
      | zero => cases h
      | succ q => exact ⟨q, rfl⟩
    have h : (ns.all nameL && ks.all (writtenB m) && kindT k nm ns.length ks.length) = true := h
    rw [Bool.and_eq_true, Bool.and_eq_true] at h
    obtain ⟨⟨h1, h2⟩, h3⟩ := h
    have hn : ∀ n ∈ ns, n.length ≤ 32 := fun n hn => nameL_len (List.all_eq_true.1 h1 n hn)
    have hk := shows_len ks m h2
    have hl := showTs_length ks
    rw [showT, cntT]
    split
    · simp; omega
    split
    · simp; omega
    split
    · simp; omega
    split
    · simp; omega
    split
    · simp; omega
    split
    · have a1 := joinS_len [44, 32] (List.zipWith fieldS ns (showTs ks))
      have a2 := field_len ns (showTs ks) hn
      have a3 := zip_len fieldS ns (showTs ks)
      simp only [List.length_append, List.length_cons, List.length_nil] at a1 ⊢
      omega
    split
    · have a1 := innerS_len [6] ((ks.map TyD.kind).getD 0 0) ((showTs ks).getD 0 [])
      have a2 := two_len (showTs ks)
      simp only [List.length_append, List.length_cons, List.length_nil]
      omega
    split
    · have a1 := joinS_len [32, 124, 32] (List.zipWith (innerS [6, 7]) (ks.map TyD.kind) (showTs ks))
      have a2 := inner_len [6, 7] (ks.map TyD.kind) (showTs ks)
      have a3 := zip_len (innerS [6, 7]) (ks.map TyD.kind) (showTs ks)
      simp only [List.length_append, List.length_cons, List.length_nil] at a1 ⊢
      omega
    · have hnm : nm.length ≤ 32 := by
        unfold kindT at h3
        split at h3
        · rw [Bool.and_eq_true] at h3
          exact nameL_len h3.2
        · split at h3
          · cases h3
          · rename_i h4
            have : nm = [] := by
              rcases nm with _ | ⟨c, r⟩
              · rfl
              · exact absurd (.inl (by simp)) h4
            rw [this]; simp
      omega
theorem shows_len : ∀ (l : List TyD) (m : Nat), l.all (writtenB m) = true → lenS (showTs l) + 44 * l.length ≤ 80 * cntTs l
  | [], _, _ => by simp [lenS, showTs]
  | t :: l, m, h => by
    rw [List.all_cons, Bool.and_eq_true] at h
    have h1 := show_len t m h.1
    have h2 := shows_len l m h.2
    rw [showTs, lenS_cons, cntTs, List.length_cons]
    omega
end
end Go.Proofs.YtbpedjkebemhnaaGreatDoor

/- A written type as text: what is in brackets. -/
set_option linter.unusedVariables false
namespace Go.Proofs.YtbpedjkebemhnaaGreatDoor
open Go.RowKit

/-- The contract of show, of a written type of not too many. -/
def ShowC (t : TyD) : Prop := ∀ (w : World) (z : List Value) (m : Nat), TyR w w.heap.size z t → writtenB m t = true → cntT t ≤ 100000 →
  Calls Tryz.prog 37 #[.agg z.toArray] w fun e w' => e = .returned (sv (showT t)) ∧ Below w.heap.size w w'
set_option maxHeartbeats 2000000 in
theorem tinner_any (t : TyD) (hS : ShowC t) (w : World) (z : List Value) (m : Nat) (hr : TyR w w.heap.size z t) (hw : writtenB m t = true) (hc : cntT t ≤ 100000) (bq : Nat) (kk : List Int) (hk : kk.length ≤ 10) (hq : ∀ j, j < kk.length → w.cell? ⟨bq, 0 + j, none⟩ = some (.int .i64 (kk.getD j 0))) (hbq : bq < w.heap.size) :
    Calls Tryz.prog 84 #[.agg z.toArray, .slice (some ⟨bq, 0, none⟩) kk.length kk.length] w fun e w' => e = .returned (sv (innerS kk t.kind (showT t))) ∧ Below w.heap.size w w' := by
  have hlen := show_len t m hw
  obtain ⟨k, nm, ns, ks⟩ := t
  obtain ⟨A1, c1, A2, c2, xk, hz, s1, s2, r2⟩ := hr.parts
  have hb1 : Below w.heap.size w (w.alloc (.cells z.toArray 32)) := (Below.refl _ _).alloc (Nat.le_refl _) _
  have HS := hid (hS _ z m (hr.far (Nat.le_refl _) hb1) hw hc)
  have HC := hid (Tryz.slices_Contains_int bq 0 kk.length kk.length kk k (w.alloc (.cells z.toArray 32)) (Nat.le_refl _) (by omega) (fun j hj => t_keep hb1 (hq j hj) hbq))
  have HB := hid hb1
  subst hz
  have hki : (TyD.mk k nm ns ks).kind = k := rfl
  rw [hki]
  generalize showT (.mk k nm ns ks) = s at *
  generalize cntT (.mk k nm ns ks) = N at *
  rw [List.take_length] at HC
  have hsz := sv_size s
  have h1 : ¬ (9223372036854775807 < 1 + s.length) := by omega
  have h2 : ¬ (9223372036854775807 < 1 + s.length + 1) := by omega
  clear hr hw hS hb1 hq hbq s1 s2 r2 hki hlen hc
  cases hcn : kk.contains k with
  | true =>
    rw [hcn] at HC
    have HT : Hid (innerS kk k s = [40] ++ (s ++ [41])) := hid (by unfold innerS; rw [hcn]; rfl)
    clear hcn
    go_enter Tryz.func84, Tryz.ntmps84
    go_wp2_with fail
    refine HC.out.mono ?_
    rintro e w2 ⟨rfl, rfl⟩
    go_wp2_with fail
    refine HS.out.mono ?_
    rintro e w3 ⟨rfl, hb3⟩
    go_wp2_with fail
    go_ret
    refine ⟨?_, HB.out.trans (hb3.mono HB.out.size)⟩
    rw [HT.out]
    have e : (⟨#[40]⟩ : ByteArray) ++ ⟨s.toArray⟩ ++ ⟨#[41]⟩ = ⟨([40] ++ (s ++ [41])).toArray⟩ := by
      rw [show (⟨#[40]⟩ : ByteArray) = ⟨([40] : Bt).toArray⟩ from rfl, show (⟨#[41]⟩ : ByteArray) = ⟨([41] : Bt).toArray⟩ from rfl, str_append, str_append, List.append_assoc]
    exact congrArg (fun b => Ending.returned (Value.string b)) e
  | false =>
    rw [hcn] at HC
    have HT : Hid (innerS kk k s = s) := hid (by unfold innerS; rw [hcn]; rfl)
    clear hcn
    go_enter Tryz.func84, Tryz.ntmps84
    go_wp2_with fail
    refine HC.out.mono ?_
    rintro e w2 ⟨rfl, rfl⟩
    go_wp2_with fail
    refine HS.out.mono ?_
    rintro e w3 ⟨rfl, hb3⟩
    go_wp2_with fail
    go_ret
    exact ⟨by rw [HT.out]; rfl, HB.out.trans (hb3.mono HB.out.size)⟩
end Go.Proofs.YtbpedjkebemhnaaGreatDoor

/- Texts put together: the library's Join. -/
set_option linter.unusedVariables false
namespace Go.Proofs.YtbpedjkebemhnaaGreatDoor
open Go.RowKit

theorem join_joinS (sep : Bt) : ∀ l : List Bt, Lib.join l sep = joinS sep l
  | [] => rfl
  | [x] => Lib.join_one x sep
  | x :: y :: l => by
    have h := join_joinS sep (y :: l)
    rw [joinS, ← h]
    simp [Lib.join, List.intercalate]
/-- strings.Join of texts that lie in a slice. -/
theorem join_any (w : World) (v : Value) (l : List Bt) (sep : Bt) (hv : Ss w w.heap.size v l) (hn : l.length ≤ 140737488355328) (hlen : (joinS sep l).length ≤ 140737488355328) :
    Calls Tryz.prog 49 #[v, sv sep] w fun e w' => e = .returned (sv (joinS sep l)) ∧ Below w.heap.size w w' := by
  obtain ⟨A, c, rfl, hlc, hcm, hcell⟩ := hv.open_
  rcases Nat.eq_zero_or_pos l.length with h0 | h0
  · have hl : l = [] := List.length_eq_zero_iff.1 h0
    subst hl
    refine (Tryz.strings_Join_none A c ⟨sep.toArray⟩ w).mono ?_
    rintro e w2 ⟨rfl, rfl⟩
    exact ⟨rfl, Below.refl _ _⟩
  · obtain ⟨b, off, rfl, hb, hc⟩ := hcell h0
    have hmap : (l.map fun x : Bt => (⟨x.toArray⟩ : ByteArray)).map (·.data.toList) = l := by
      rw [List.map_map]
      conv => rhs; rw [← List.map_id l]
      apply List.map_congr_left
      intro x _
      simp
    have h := Tryz.strings_Join b off c (l.map fun x : Bt => ⟨x.toArray⟩) ⟨sep.toArray⟩ w (fun j x hx => by
      rw [List.getElem?_map] at hx
      rcases hj : l[j]? with _ | y
      · rw [hj] at hx; cases hx
      · rw [hj] at hx
        injection hx with hx
        obtain ⟨hjl, rfl⟩ := List.getElem?_eq_some_iff.1 hj
        rw [← hx]
        exact hc j hjl) hb (by rw [List.length_map]; exact hn) (by rw [List.length_map]; exact hlc) (by rw [hmap]; show (Lib.join l sep.toArray.toList).length ≤ _; rw [List.toList_toArray, join_joinS]; exact hlen)
    rw [hmap, List.length_map] at h
    refine h.mono ?_
    rintro e w2 ⟨rfl, hb2⟩
    refine ⟨?_, hb2⟩
    show Ending.returned (Value.string ⟨(Lib.join l sep.toArray.toList).toArray⟩) = _
    rw [List.toList_toArray, join_joinS]
end Go.Proofs.YtbpedjkebemhnaaGreatDoor

/- How many types and nodes there are, counted down from so many. -/
set_option linter.unusedVariables false
namespace Go.Proofs.YtbpedjkebemhnaaGreatDoor

mutual
/-- Types, counted down. -/
def heavyB : TyD → Nat → Nat
  | .mk _ _ ns ks, m => if m < ks.length ∨ m < ns.length then 0 else heaviesB ks (m - 1)
def heaviesB : List TyD → Nat → Nat
  | [], m => m
  | t :: l, m => if m = 0 then 0 else heaviesB l (heavyB t m)
end
theorem heavies_zero (l : List TyD) : heaviesB l 0 = 0 := by
  cases l with
  | nil => simp [heaviesB]
  | cons t l => simp [heaviesB]
theorem heavies_cons {t : TyD} {l : List TyD} {m : Nat} (h : 0 < m) : heaviesB (t :: l) m = heaviesB l (heavyB t m) := by
  rw [heaviesB, if_neg (by omega)]
mutual
theorem heavy_cnt : ∀ (t : TyD) (m : Nat), 0 < heavyB t m → cntT t + heavyB t m ≤ m
  | .mk k nm ns ks, m, h => by
    rw [heavyB] at h ⊢
    split at h
    · omega
    · rename_i h1
      rw [if_neg h1, cntT]
      have := heavies_cnt ks (m - 1) h
      omega
theorem heavies_cnt : ∀ (l : List TyD) (m : Nat), 0 < heaviesB l m → cntTs l + heaviesB l m ≤ m
  | [], m, h => by simp [heaviesB, cntTs]
  | t :: l, m, h => by
    rcases Nat.eq_zero_or_pos m with rfl | hm
    · rw [heavies_zero] at h; omega
    · rw [heavies_cons hm] at h ⊢
      have h1 := heavies_cnt l _ h
      have h2 := heavy_cnt t m (by omega)
      rw [cntTs]
      omega
end
theorem heavy_le (t : TyD) (m : Nat) : heavyB t m ≤ m := by
  rcases Nat.eq_zero_or_pos (heavyB t m) with h | h
  · omega
  · have := heavy_cnt t m h; omega
theorem cnt_mem : ∀ {l : List TyD} {t : TyD}, t ∈ l → cntT t ≤ cntTs l
  | [], _, h => by cases h
  | x :: l, t, h => by
    rw [cntTs]
    rcases List.mem_cons.1 h with rfl | h
    · omega
    · have := cnt_mem h; omega
theorem cnt_pos (t : TyD) : 0 < cntT t := by cases t; rw [cntT]; omega
theorem cnts_len : ∀ l : List TyD, l.length ≤ cntTs l
  | [] => by simp
  | t :: l => by have := cnts_len l; have := cnt_pos t; rw [cntTs, List.length_cons]; omega
mutual
/-- How many nodes and types there are. -/
def cntN : NoD → Nat
  | .mk _ _ _ _ _ ts _ ks => 1 + cntTs ts + cntNs ks
def cntNs : List NoD → Nat
  | [] => 0
  | t :: l => cntN t + cntNs l
end
theorem cntN_mem : ∀ {l : List NoD} {t : NoD}, t ∈ l → cntN t ≤ cntNs l
  | [], _, h => by cases h
  | x :: l, t, h => by
    rw [cntNs]
    rcases List.mem_cons.1 h with rfl | h
    · omega
    · have := cntN_mem h; omega
theorem cntN_pos (t : NoD) : 0 < cntN t := by cases t; rw [cntN]; omega
theorem cntNs_len : ∀ l : List NoD, l.length ≤ cntNs l
  | [] => by simp
  | t :: l => by have := cntNs_len l; have := cntN_pos t; rw [cntNs, List.length_cons]; omega
mutual
/-- Nodes and types, counted down. -/
def weightB : NoD → Nat → Nat
  | .mk _ text _ _ _ ts ns ks, m => if m < ks.length ∨ m < ts.length ∨ m < ns.length ∨ 5000 < text.length then 0 else weightsB ks (heaviesB ts (m - 1))
def weightsB : List NoD → Nat → Nat
  | [], m => m
  | t :: l, m => if m = 0 then 0 else weightsB l (weightB t m)
end
theorem weights_zero (l : List NoD) : weightsB l 0 = 0 := by
  cases l with
  | nil => simp [weightsB]
  | cons t l => simp [weightsB]
theorem weights_cons {t : NoD} {l : List NoD} {m : Nat} (h : 0 < m) : weightsB (t :: l) m = weightsB l (weightB t m) := by
  rw [weightsB, if_neg (by omega)]
mutual
theorem weight_cnt : ∀ (t : NoD) (m : Nat), 0 < weightB t m → cntN t + weightB t m ≤ m
  | .mk k text n li co ts ns ks, m, h => by
    rw [weightB] at h ⊢
    split at h
    · omega
    · rename_i h1
      rw [if_neg h1, cntN]
      have h2 := weights_cnt ks _ h
      have h3 := heavies_cnt ts (m - 1) (by omega)
      omega
theorem weights_cnt : ∀ (l : List NoD) (m : Nat), 0 < weightsB l m → cntNs l + weightsB l m ≤ m
  | [], m, h => by simp [weightsB, cntNs]
  | t :: l, m, h => by
    rcases Nat.eq_zero_or_pos m with rfl | hm
    · rw [weights_zero] at h; omega
    · rw [weights_cons hm] at h ⊢
      have h1 := weights_cnt l _ h
      have h2 := weight_cnt t m (by omega)
      rw [cntNs]
      omega
end
theorem weight_le (t : NoD) (m : Nat) : weightB t m ≤ m := by
  rcases Nat.eq_zero_or_pos (weightB t m) with h | h
  · omega
  · have := weight_cnt t m h; omega
end Go.Proofs.YtbpedjkebemhnaaGreatDoor

/- How long a written expression's text may be. -/
set_option linter.unusedVariables false
namespace Go.Proofs.YtbpedjkebemhnaaGreatDoor

theorem ite_p {α : Type} {c : Prop} [Decidable c] {P : α → Prop} {a b : α} (ha : P a) (hb : P b) : P (if c then a else b) := by
  by_cases h : c
  · rw [if_pos h]; exact ha
  · rw [if_neg h]; exact hb
theorem op_len {s : Bt} (h : opsL.contains s = true) : s.length ≤ 3 := by
  have h1 : s ∈ opsL := by simpa using h
  have h2 : ∀ x ∈ opsL, x.length ≤ 3 := by decide
  exact h2 s h1
theorem text_len {k : Int} {s : Bt} {b : Bool} (h : textB k s b = true) : s.length ≤ 256 := by
  unfold textB at h
  split at h
  · have := nameL_len h; omega
  split at h
  · unfold strB at h
    rw [Bool.and_eq_true, decide_eq_true_eq] at h
    exact h.1
  split at h
  · have := op_len h; omega
  · have : s = [] := by simpa using h
    rw [this]; simp
theorem quote_len (s : Bt) : (quoteW s).length ≤ 2 * s.length + 2 := by
  have h1 := esc_len s
  have h2 := escN_le s
  unfold quoteW
  rw [List.length_cons, List.length_append]
  simp only [List.length_cons, List.length_nil]
  omega
theorem note_two (ts : List TyD) (m : Nat) (h : ts.all (writtenB m) = true) : (noteS ts 0).length + (noteS ts 1).length ≤ 80 * cntTs ts := by
  have h1 := shows_len ts m h
  match ts, h1 with
  | [], _ => simp [noteS]
  | [t], h1 =>
    simp [noteS, showTs, lenS] at h1 ⊢
    omega
  | t :: u :: l, h1 =>
    simp [noteS, showTs, lenS] at h1 ⊢
    omega
theorem tags_len (i : Nat) : (tagsL.getD i []).length ≤ 28 := by
  have := getD_len tagsL i
  have h : lenS tagsL = 28 := by decide
  omega
theorem cat_len : ∀ l : List Bt, (cat l).length = lenS l
  | [] => rfl
  | x :: l => by
    have := cat_len l
    rw [lenS_cons, ← this]
    simp [cat]
theorem three_len (l : List Bt) : (l.getD 0 []).length + (l.getD 1 []).length + (l.getD 2 []).length ≤ lenS l := by
  match l with
  | [] => simp [lenS]
  | [x] => simp [lenS]
  | [x, y] => simp [lenS]
  | x :: y :: z :: l => simp [lenS]; omega
theorem exprSs_length (l : List NoD) : (exprSs l).length = l.length := by rw [exprSs_map, List.length_map]
theorem In64.itoa {n : Int} (h : 0 ≤ n ∧ n ≤ 9223372036854775807) : (Lib.itoa n).length ≤ 40 := by
  have := Lib.itoa_length_le n (by omega) (by omega)
  omega
theorem node_len (k : Int) (text : Bt) (n : Int) (ts : List TyD) (ns : List Bt) (s : List Bt) (m : Nat) (ht : text.length ≤ 256) (hn : 0 ≤ n ∧ n ≤ 9223372036854775807) (hts : ts.all (writtenB m) = true) (hns : ∀ x ∈ ns, x.length ≤ 32) :
    (nodeS k text n ts ns s).length + 44 ≤ 700 + 80 * cntTs ts + (lenS s + 36 * s.length) := by
  have a1 := note_two ts m hts
  have a2 := shows_len ts m hts
  have a3 := three_len s
  have a4 := tags_len n.toNat
  have a5 := quote_len text
  have a6 := joinS_len [44, 32] (ts.map showT)
  have a7 := joinS_len [44, 32] (List.zipWith fieldS ns s)
  have a8 := field_len ns s hns
  have a9 := zip_len fieldS ns s
  have a10 := getD_len (ts.map showT) 0
  have a11 := In64.itoa hn
  rw [showTs_map] at a2
  rw [List.length_map] at a6
  simp only [List.length_cons, List.length_nil] at a6 a7
  unfold nodeS simpleS
  generalize Lib.itoa n = it at *
  repeat' (refine ite_p (P := fun l : Bt => l.length + 44 ≤ 700 + 80 * cntTs ts + (lenS s + 36 * s.length)) ?_ ?_)
  all_goals first
    | omega
    | (rw [cat_len]; simp only [lenS, List.map_cons, List.map_nil, List.sum_cons, List.sum_nil, List.length_cons, List.length_nil]; simp only [lenS] at *; omega)
    | (simp only [List.length_cons, List.length_nil]; omega)
theorem own_text {k : Int} {text : Bt} {n : Int} {a b c : Nat} (h : ownN k text n a b c = true) : text.length ≤ 256 ∧ 0 ≤ n ∧ n ≤ 9223372036854775807 := by
  unfold ownN at h
  rw [Bool.and_eq_true, Bool.and_eq_true, Bool.and_eq_true, decide_eq_true_eq] at h
  refine ⟨text_len h.1.1.2, h.1.1.1.1, ?_⟩
  have h1 := h.1.1.1.2
  have h2 : (hasD k).most ≤ 9223372036854775807 := by
    show (fun h : HasD => h.most ≤ 9223372036854775807) (hasD k)
    unfold hasD
    repeat' (refine ite_p (P := fun h : HasD => h.most ≤ 9223372036854775807) ?_ ?_)
    all_goals (show (_ : Int) ≤ _; decide)
  omega
mutual
theorem expr_len : ∀ (x : NoD) (m : Nat), nodeB m x = true → (exprS x).length + 44 ≤ 700 * cntN x
  | .mk k text n li co ts ns ks, m, h => by
    obtain ⟨m, rfl⟩ : ∃ q, m = q + 1 := by
      cases m with
      | zero => cases h
      | succ q => exact ⟨q, rfl⟩
    have h : (decide (0 ≤ k ∧ k < 20) && ownN k text n ts.length ns.length ks.length && ns.all nameL && ts.all (writtenB 16) && ks.all (nodeB m)) = true := h
    rw [Bool.and_eq_true, Bool.and_eq_true, Bool.and_eq_true, Bool.and_eq_true] at h
    obtain ⟨⟨⟨⟨h1, h2⟩, h3⟩, h4⟩, h5⟩ := h
    obtain ⟨o1, o2⟩ := own_text h2
    have hk := exprs_len ks m h5
    have hl := exprSs_length ks
    have hh := node_len k text n ts ns (exprSs ks) 16 o1 o2 h4 (fun x hx => nameL_len (List.all_eq_true.1 h3 x hx))
    rw [exprS, cntN]
    omega
theorem exprs_len : ∀ (l : List NoD) (m : Nat), l.all (nodeB m) = true → lenS (exprSs l) + 44 * l.length ≤ 700 * cntNs l
  | [], _, _ => by simp [lenS, exprSs]
  | t :: l, m, h => by
    rw [List.all_cons, Bool.and_eq_true] at h
    have h1 := expr_len t m h.1
    have h2 := exprs_len l m h.2
    rw [exprSs, lenS_cons, cntNs, List.length_cons]
    omega
end
end Go.Proofs.YtbpedjkebemhnaaGreatDoor

/- Texts put together one by one. -/
set_option linter.unusedVariables false
namespace Go.Proofs.YtbpedjkebemhnaaGreatDoor

end Go.Proofs.YtbpedjkebemhnaaGreatDoor
end
section
/- Steps of regions that draw their order, said in short. -/
set_option linter.unusedVariables false
namespace Go.Proofs.YtbpedjkebemhnaaGreatDoor
open Go.RowKit

section
variable {P : Program} {md : Region.Mode} {ops : Array Oper} {Q : Exit → Act → World → Prop} {S : World → Prop}
/-- Number i is taken first: it yields v. -/
theorem tk (i : Nat) (v : Value) {oi : Oper} {fuel : Nat} {listed listed' : Array Bool} {a a' : Act} {w : World} (hS : S w) (h : wpAnyH P md ops Q S fuel listed' a' w)
    (hi : ops[i]? = some oi := by rfl) (hs : Region.noSelect ops = true := by kernel_rfl) (hf : Region.free md ops listed i = true := by kernel_rfl) (hr : (Region.ready md ops listed).contains i = true := by kernel_rfl)
    (hQ : ∀ c a w, Q (.panic c) (a.put oi.dst v) w → Q (.panic c) a w := by exact fun _ _ _ h => h) (hw : Region.wanted oi (yielded ops a.tmps) = true := by kernel_rfl)
    (hy : ∀ w, S w → (execOp a.eval oi).run P w = .ok (.value v) w := by intro w' hSw; go_simp)
    (hl : listed.setIfInBounds i true = listed' := by (try simp only [List.setIfInBounds_toArray, List.set_cons_zero, List.set_cons_succ]); rfl)
    (ha : a.put oi.dst v = a' := by (try simp only [Act.put, List.getElem_toArray, List.getElem_cons_zero, List.getElem_cons_succ, List.setIfInBounds_toArray, List.set_cons_zero, List.set_cons_succ]); rfl) : wpAnyH P md ops Q S (fuel + 1) listed a w := by
  subst hl ha
  exact wpAnyH_take hi hs hf hr hQ (.inl ⟨hw, hy⟩) hS h
/-- The same, of what cells hold. -/
theorem tkf (i : Nat) (v : Value) {F : World → Prop} (f : ∀ w', S w' → F w') {oi : Oper} {fuel : Nat} {listed listed' : Array Bool} {a a' : Act} {w : World} (hS : S w) (h : wpAnyH P md ops Q S fuel listed' a' w)
    (hi : ops[i]? = some oi := by rfl) (hs : Region.noSelect ops = true := by kernel_rfl) (hf : Region.free md ops listed i = true := by kernel_rfl) (hr : (Region.ready md ops listed).contains i = true := by kernel_rfl)
    (hQ : ∀ c a w, Q (.panic c) (a.put oi.dst v) w → Q (.panic c) a w := by exact fun _ _ _ h => h) (hw : Region.wanted oi (yielded ops a.tmps) = true := by kernel_rfl)
    (hy : ∀ w, F w → (execOp a.eval oi).run P w = .ok (.value v) w := by intro w' hSw; go_simp)
    (hl : listed.setIfInBounds i true = listed' := by (try simp only [List.setIfInBounds_toArray, List.set_cons_zero, List.set_cons_succ]); rfl)
    (ha : a.put oi.dst v = a' := by (try simp only [Act.put, List.getElem_toArray, List.getElem_cons_zero, List.getElem_cons_succ, List.setIfInBounds_toArray, List.set_cons_zero, List.set_cons_succ]); rfl) : wpAnyH P md ops Q S (fuel + 1) listed a w := by
  subst hl ha
  exact wpAnyH_take hi hs hf hr hQ (.inl ⟨hw, fun w h => hy w (f w h)⟩) hS h
end
section
variable {w : World} {a0 a1 a2 a3 a4 a5 a6 a7 : Addr} {v0 v1 v2 v3 v4 v5 v6 v7 : Value}
theorem kb {w w' : World} {a : Addr} {v : Value} (h : Below w.heap.size w w') (d : w.cell? a = some v) : w'.cell? a = some v := (h.cell (World.block_lt_of_cell? w a d)).trans d
theorem kp1 (d0 : w.cell? a0 = some v0) : ∀ w', Below w.heap.size w w' → w'.cell? a0 = some v0 := fun _ h => kb h d0
theorem kp4 (d0 : w.cell? a0 = some v0) (d1 : w.cell? a1 = some v1) (d2 : w.cell? a2 = some v2) (d3 : w.cell? a3 = some v3) :
    ∀ w', Below w.heap.size w w' → w'.cell? a0 = some v0 ∧ w'.cell? a1 = some v1 ∧ w'.cell? a2 = some v2 ∧ w'.cell? a3 = some v3 := fun _ h => ⟨kb h d0, kb h d1, kb h d2, kb h d3⟩
theorem kp8 (d0 : w.cell? a0 = some v0) (d1 : w.cell? a1 = some v1) (d2 : w.cell? a2 = some v2) (d3 : w.cell? a3 = some v3) (d4 : w.cell? a4 = some v4) (d5 : w.cell? a5 = some v5) (d6 : w.cell? a6 = some v6) (d7 : w.cell? a7 = some v7) :
    ∀ w', Below w.heap.size w w' → w'.cell? a0 = some v0 ∧ w'.cell? a1 = some v1 ∧ w'.cell? a2 = some v2 ∧ w'.cell? a3 = some v3 ∧ w'.cell? a4 = some v4 ∧ w'.cell? a5 = some v5 ∧ w'.cell? a6 = some v6 ∧ w'.cell? a7 = some v7 := fun _ h => ⟨kb h d0, kb h d1, kb h d2, kb h d3, kb h d4, kb h d5, kb h d6, kb h d7⟩
end
end Go.Proofs.YtbpedjkebemhnaaGreatDoor
end
section
/- Texts that belong together: TJ, TK, TN. -/
/- A list of texts, each told of its number: tree.list. -/
set_option linter.unusedVariables false
namespace Go.Proofs.YtbpedjkebemhnaaGreatDoor
open Go.RowKit

theorem make_texts (w : World) (n : Nat) (hn : n ≤ 1000000) : ∃ w1, (Instr.makeSlice 23 (.int .i64 (n : Nat)) (.int .i64 (n : Nat))).run Tryz.prog w = .ok (.slice (some ⟨w.heap.size, 0, none⟩) n n) w1 ∧
    (∃ cur : List Value, w1.heap[w.heap.size]? = some (.cells cur.toArray 9 (0, 0)) ∧ cur.length = n) ∧ Below w.heap.size w w1 := by
  obtain ⟨ht, hinfo, _, _⟩ := el_str
  obtain ⟨i, hi, hz, hs, hb⟩ := info_parts hinfo
  have hr := run_make (P := Tryz.prog) w 23 9 i _ ht hi hz .i64 .i64 n n (by omega) (Int.le_refl _) (by rw [hb]; omega) (by omega)
  simp only [Int.toNat_natCast] at hr
  refine ⟨_, hr, ⟨(madeCells (sv []).cells (n * i.size)).toList, by rw [Array.toArray_toList]; exact heap_alloc_new w _, by rw [Array.length_toList, size_madeCells, hs, Nat.mul_one]⟩, (Below.refl _ _).alloc (Nat.le_refl _) _⟩
theorem ss_of_row {w : World} {b : Nat} {l : List Bt} {t : TypeId} {n : Nat} (hn : n = l.length) (h : w.heap[b]? = some (.cells (svs l).toArray t (0, 0))) (hl : l.length ≤ maxLen) : Ss w w.heap.size (.slice (some ⟨b, 0, none⟩) n n) l := by
  subst hn
  refine ⟨_, l.length, l.length, rfl, by simp [svs_length], Nat.le_refl _, hl, fun _ => ⟨b, 0, rfl, block_lt h, fun j u hu => ?_⟩⟩
  rw [Nat.zero_add, cell_of_row _ _ _ _ _ (0, 0) h]
  simpa using hu
theorem svs_take {l : List Bt} {i : Nat} (h : i < l.length) : svs (l.take (i + 1)) = svs (l.take i) ++ [sv l[i]] := by
  rw [List.take_succ_eq_append_getElem h, svs_append]; rfl
set_option maxRecDepth 100000 in
set_option maxHeartbeats 2000000 in
theorem list_any (F : Nat) (eg : ∀ args w, (callFunc F args).run Tryz.prog w = .ok (.enter F args) w) (caps : Array Value) (l : List Bt) (w : World) (hn : l.length ≤ 1000000) (hlen : (joinS [44, 32] l).length ≤ 140737488355328)
    (hF : ∀ (i : Nat) (hi : i < l.length) (w1 : World), Below w.heap.size w w1 → Calls Tryz.prog F (#[.int .i64 (i : Int)] ++ caps) w1 fun e w2 => e = .returned (sv l[i]) ∧ Below w1.heap.size w1 w2) :
    Calls Tryz.prog 72 #[.int .i64 (l.length : Int), .func (.func F) #[] caps] w fun e w' => e = .returned (sv (joinS [44, 32] l)) ∧ Below w.heap.size w w' := by
  obtain ⟨w1, hmk, ⟨cur0, hcur, hcl⟩, hb1⟩ := make_texts w l.length hn
  have HF := hid hF
  have HCUR := hid hcur
  have HB1 := hid hb1
  have HLEN := hid hlen
  clear hF hcur hb1 hlen
  obtain ⟨n, hnl⟩ : ∃ n, n = l.length := ⟨_, rfl⟩
  have HNL := hid hnl
  rw [← hnl] at hmk hcl hn ⊢
  clear hnl
  obtain ⟨bb, hbbe⟩ : ∃ bb, bb = w.heap.size := ⟨_, rfl⟩
  have HBBE := hid hbbe
  rw [← hbbe] at HCUR hmk
  clear hbbe
  go_enter Tryz.func72, Tryz.ntmps72
  go_wp2_with fail
  clear hmk
  go_loopw [10] (fun v10 wr => ∃ (k : Nat) (cur : List Value), v10 = .int .i64 k ∧ k ≤ n ∧ wr.heap[bb]? = some (.cells cur.toArray 9 (0, 0)) ∧ cur.length = n ∧ cur.take k = svs (l.take k) ∧ Below w.heap.size w wr) (fun v10 _ => n - (intOf v10).toNat)
  case atStart => exact ⟨0, cur0, rfl, by omega, HCUR.out, hcl, rfl, HB1.out⟩
  case round =>
    obtain ⟨k, cur, rfl, hk, hcur, hcn, htk, hbr⟩ := hrel
    have HTK := hid htk
    clear htk
    by_cases hlt : k < n
    · have hkl : k < l.length := by rw [← HNL.out]; exact hlt
      have HC := hid (HF.out k hkl wr hbr)
      have HB := hid hbr
      have HCR := hid hcur
      have HST := hid (svs_take hkl)
      generalize l[k] = X at *
      clear hbr hcur
      go_wp2_with fail
      refine HC.out.mono ?_
      rintro e w2 ⟨rfl, hb⟩
      have hcur2 := (hb.block _ (block_lt HCR.out)).trans HCR.out
      have z1 : w2.cell? ⟨bb, k, none⟩ = some (cur[k]'(by omega)) := (cell_of_row _ _ _ _ _ (0, 0) hcur2).trans (by simp [hcn, hlt])
      have z2 := block_free hcur2 k
      have hnew := heap_setCell_same w2 bb k _ _ (sv X) hcur2
      rw [List.setIfInBounds_toArray] at hnew
      have HNEW := hid hnew
      have hb2 := HB.out.trans (hb.mono HB.out.size)
      have hbn := hb2.trans ((turn_set w2 bb k (sv X)).below hb2.size (fun j hj h => by have := HBBE.out; omega))
      have htn := take_set_snoc (v := sv X) HTK.out (by omega)
      have HTN := hid htn
      have HBN := hid hbn
      have HCN := hid hcn
      clear hnew htn hcur2 hb hbn hb2
      generalize cur[k] = cj at *
      go_wp2_with fail
      go_roundw
      case rel => exact ⟨k + 1, _, rfl, by omega, HNEW.out, by rw [List.length_set]; exact HCN.out, by rw [HTN.out, HST.out], HBN.out⟩
      case measure => simp [intOf]; omega
    · obtain rfl : k = n := by omega
      have hcc : cur = svs l := by
        have h1 := HTK.out
        rw [List.take_of_length_le (by omega), List.take_of_length_le (by rw [← HNL.out]; omega)] at h1
        exact h1
      subst hcc
      have HJ := hid (join_any wr (.slice (some ⟨bb, 0, none⟩) k k) l [44, 32] (ss_of_row HNL.out hcur (by rw [← HNL.out]; unfold maxLen; omega)) (by rw [← HNL.out]; omega) HLEN.out)
      have HB := hid hbr
      clear hbr hcur
      go_wp2_with fail
      refine HJ.out.mono ?_
      rintro e w2 ⟨rfl, hb⟩
      go_wp2_with fail
      go_ret
      exact ⟨rfl, HB.out.trans (hb.mono HB.out.size)⟩
end Go.Proofs.YtbpedjkebemhnaaGreatDoor

/- A field of a record type as text: show's closure. -/
set_option linter.unusedVariables false
namespace Go.Proofs.YtbpedjkebemhnaaGreatDoor
open Go.RowKit

theorem kp {w w' : World} {a : Addr} {v : Value} (h : Below w.heap.size w w') (d : w.cell? a = some v) : w'.cell? a = some v := (h.cell (World.block_lt_of_cell? w a d)).trans d
theorem elem_at {w : World} {B : Nat} {A : Option Addr} {n c : Nat} {xk : List Value} {ks : List TyD} (h2 : Sl w B 4 (.slice A n c) xk) (hr : TysR w B xk ks) {i : Nat} (hi : i < ks.length) (hn : n = ks.length) :
    ∃ b o k s A1 n1 c1 A2 n2 c2, A = some ⟨b, o, none⟩ ∧ TyR w B [.int .i64 k, .string s, .slice A1 n1 c1, .slice A2 n2 c2] ks[i] ∧ w.cell? ⟨b, o + i * 4, none⟩ = some (.int .i64 k) ∧ w.cell? ⟨b, o + i * 4 + 1, none⟩ = some (.string s) ∧ w.cell? ⟨b, o + i * 4 + 2, none⟩ = some (.slice A1 n1 c1) ∧ w.cell? ⟨b, o + i * 4 + 3, none⟩ = some (.slice A2 n2 c2) := by
  subst hn
  obtain ⟨b1, o1, rfl, hb1, hc1⟩ := t_sl_in h2 hi (by omega)
  have hr1 := hr.at i hi
  obtain ⟨kk, s, A1, n1, c1, A2, n2, c2, hv1⟩ := hr1.shape
  rw [hv1] at hr1
  refine ⟨b1, o1, kk, s, A1, n1, c1, A2, n2, c2, rfl, hr1, ?_, ?_, ?_, ?_⟩
  · have := hc1 0 _ (t_part hv1 (by omega : 0 < 4)); simpa using this
  · have := hc1 1 _ (t_part hv1 (by omega : 1 < 4)); simpa [Nat.add_assoc] using this
  · have := hc1 2 _ (t_part hv1 (by omega : 2 < 4)); simpa [Nat.add_assoc] using this
  · have := hc1 3 _ (t_part hv1 (by omega : 3 < 4)); simpa [Nat.add_assoc] using this
theorem text_at {w : World} {B : Nat} {A : Option Addr} {n c : Nat} {ns : List Bt} (h : Ss w B (.slice A n c) ns) {i : Nat} (hi : i < ns.length) :
    ∃ b o, A = some ⟨b, o, none⟩ ∧ w.cell? ⟨b, o + i, none⟩ = some (sv ns[i]) := by
  obtain ⟨A', c', hv, _, _, hx⟩ := h.open_
  injection hv with e1 e2 e3
  subst e1 e2 e3
  obtain ⟨b, o, hA, _, hc⟩ := hx (by omega)
  exact ⟨b, o, hA, hc i hi⟩
set_option maxRecDepth 100000 in
set_option maxHeartbeats 2000000 in
theorem show1_any (w : World) (bt : Nat) (k : Int) (nm : Bt) (ns : List Bt) (ks : List TyD) (A1 : Option Addr) (c1 : Nat) (A2 : Option Addr) (c2 : Nat) (xk : List Value)
    (hbt : w.heap[bt]? = some (.cells #[.int .i64 k, sv nm, .slice A1 ns.length c1, .slice A2 ks.length c2] 32 (0, 0))) (s1 : Ss w w.heap.size (.slice A1 ns.length c1) ns) (s2 : Sl w w.heap.size 4 (.slice A2 ks.length c2) xk) (r2 : TysR w w.heap.size xk ks)
    (i : Nat) (hi : i < ks.length) (hin : i < ns.length) (hS : ShowC ks[i]) (m : Nat) (hw : writtenB m ks[i] = true) (hc : cntT ks[i] ≤ 100000) (hnm : ns[i].length ≤ 32) :
    Calls Tryz.prog 83 #[.int .i64 (i : Int), .pointer (some ⟨bt, 0, none⟩)] w fun e w' => e = .returned (sv (fieldS ns[i] (showT ks[i]))) ∧ Below w.heap.size w w' := by
  obtain ⟨_, _, g2, g3⟩ := t_row4 hbt
  obtain ⟨b1, o1, rfl, d0⟩ := text_at s1 hin
  obtain ⟨b2, o2, kk, ss, A3, n3, c3, A4, n4, c4, rfl, hr1, e0, e1, e2, e3⟩ := elem_at s2 r2 hi rfl
  have hlen := show_len ks[i] m hw
  have HS := hid (fun w1 (h : Below w.heap.size w w1) => hS w1 _ m (hr1.far (Nat.le_refl _) h) hw hc)
  have l1 := (t_sl_len s1).2
  have l2 := (t_sl_len s2).2
  have hsz0 := sv_size ns[i]
  have hsz1 := sv_size (showT ks[i])
  generalize ns[i] = X at *
  generalize showT ks[i] = s at *
  generalize cntT ks[i] = N at *
  clear hS hw hr1 r2 s1 s2 hbt
  generalize ns.length = a at *
  generalize ks.length = b at *
  have HF : Hid (fieldS X s = (X ++ [58, 32]) ++ s) := hid (by unfold fieldS; rw [List.append_assoc])
  have q1 : ¬ (9223372036854775807 < X.length + 2) := by omega
  have q2 : ¬ (9223372036854775807 < X.length + 2 + s.length) := by omega
  have G2 := hid g2
  have G3 := hid g3
  have D0 := hid d0
  have E0 := hid e0
  have E1 := hid e1
  have E2 := hid e2
  have E3 := hid e3
  have HB0 : Hid (Below w.heap.size w w.drew) := hid (below_drawn w 1)
  clear hc hlen g2 g3 d0 e0 e1 e2 e3 hnm
  go_enter Tryz.func83, Tryz.ntmps83
  go_wp2_with fail
  refine wp_region_held_drew (S := fun w' => Below w.heap.size w w') (by kernel_rfl) HB0.out (fun _ => ?_)
  try simp only [Act.put, List.getElem_toArray, List.getElem_cons_zero, List.getElem_cons_succ, List.setIfInBounds_toArray, List.set_cons_zero, List.set_cons_succ]
  refine tk 0 (.pointer (some ⟨bt, 2, none⟩)) HB0.out ?_
  refine tkf 1 (.slice (some ⟨b1, o1, none⟩) a c1) (kp1 G2.out) HB0.out ?_
  refine tk 2 (.int .i64 (i : Int)) HB0.out ?_
  refine tk 3 (.pointer (some ⟨b1, o1 + i, none⟩)) HB0.out ?_
  refine tkf 4 (sv X) (kp1 D0.out) HB0.out ?_
  refine tk 5 (.string ((⟨X.toArray⟩ : ByteArray) ++ ⟨#[58, 32]⟩)) HB0.out ?_
  refine tk 6 (.pointer (some ⟨bt, 3, none⟩)) HB0.out ?_
  refine tkf 7 (.slice (some ⟨b2, o2, none⟩) b c2) (kp1 G3.out) HB0.out ?_
  refine tk 8 (.int .i64 (i : Int)) HB0.out ?_
  refine tk 9 (.pointer (some ⟨b2, o2 + i * 4, none⟩)) HB0.out ?_
  refine tkf 10 (.agg #[.int .i64 kk, .string ss, .slice A3 n3 c3, .slice A4 n4 c4]) (kp4 E0.out E1.out E2.out E3.out) HB0.out ?_
  refine wpAnyH_ready (rs := [11]) (by kernel_rfl) (by simp) ?_
  refine AllReadyH.cons rfl (fun K hK => ?_) (AllReadyH.nil)
  go_simp
  refine (HS.out _ HB0.out).mono ?_
  rintro e w2 ⟨rfl, hb⟩
  have HB2 := hid (HB0.out.trans (hb.mono HB0.out.size))
  clear hb
  refine hK.out _ _ HB2.out (fun _ => ?_)
  clear hK K
  try simp only [Act.put, List.getElem_toArray, List.getElem_cons_zero, List.getElem_cons_succ, List.setIfInBounds_toArray, List.set_cons_zero, List.set_cons_succ]
  refine tk 12 (.string ((⟨X.toArray⟩ : ByteArray) ++ ⟨#[58, 32]⟩ ++ ⟨s.toArray⟩)) HB2.out ?_
  refine tk 13 (.string ((⟨X.toArray⟩ : ByteArray) ++ ⟨#[58, 32]⟩ ++ ⟨s.toArray⟩)) HB2.out ?_
  refine wpAnyH_done (by kernel_rfl) ?_ _
  go_wp2_with fail
  go_ret
  refine ⟨?_, HB2.out⟩
  rw [HF.out]
  have e : (⟨X.toArray⟩ : ByteArray) ++ ⟨#[58, 32]⟩ ++ ⟨s.toArray⟩ = ⟨((X ++ [58, 32]) ++ s).toArray⟩ := by
    rw [show (⟨#[58, 32]⟩ : ByteArray) = ⟨([58, 32] : Bt).toArray⟩ from rfl, str_append, str_append]
  exact congrArg (fun b => Ending.returned (Value.string b)) e
end Go.Proofs.YtbpedjkebemhnaaGreatDoor

/- Nodes in memory: their cells. -/
set_option linter.unusedVariables false
namespace Go.Proofs.YtbpedjkebemhnaaGreatDoor
open Go.RowKit

theorem t_row8 {w : World} {b : Nat} {x0 x1 x2 x3 x4 x5 x6 x7 : Value} {T : TypeId} (h : w.heap[b]? = some (.cells #[x0, x1, x2, x3, x4, x5, x6, x7] T (0, 0))) :
    w.cell? ⟨b, 0, none⟩ = some x0 ∧ w.cell? ⟨b, 1, none⟩ = some x1 ∧ w.cell? ⟨b, 2, none⟩ = some x2 ∧ w.cell? ⟨b, 3, none⟩ = some x3 ∧ w.cell? ⟨b, 4, none⟩ = some x4 ∧ w.cell? ⟨b, 5, none⟩ = some x5 ∧ w.cell? ⟨b, 6, none⟩ = some x6 ∧ w.cell? ⟨b, 7, none⟩ = some x7 :=
  ⟨(cell_of_row _ _ _ _ _ _ h).trans rfl, (cell_of_row _ _ _ _ _ _ h).trans rfl, (cell_of_row _ _ _ _ _ _ h).trans rfl, (cell_of_row _ _ _ _ _ _ h).trans rfl, (cell_of_row _ _ _ _ _ _ h).trans rfl, (cell_of_row _ _ _ _ _ _ h).trans rfl, (cell_of_row _ _ _ _ _ _ h).trans rfl, (cell_of_row _ _ _ _ _ _ h).trans rfl⟩
theorem t_row5 {w : World} {b : Nat} {x0 x1 x2 x3 x4 : Value} {T : TypeId} (h : w.heap[b]? = some (.cells #[x0, x1, x2, x3, x4] T (0, 0))) :
    w.cell? ⟨b, 0, none⟩ = some x0 ∧ w.cell? ⟨b, 1, none⟩ = some x1 ∧ w.cell? ⟨b, 2, none⟩ = some x2 ∧ w.cell? ⟨b, 3, none⟩ = some x3 ∧ w.cell? ⟨b, 4, none⟩ = some x4 :=
  ⟨(cell_of_row _ _ _ _ _ _ h).trans rfl, (cell_of_row _ _ _ _ _ _ h).trans rfl, (cell_of_row _ _ _ _ _ _ h).trans rfl, (cell_of_row _ _ _ _ _ _ h).trans rfl, (cell_of_row _ _ _ _ _ _ h).trans rfl⟩
theorem two_new (w : World) (o1 o2 : Obj) : ((w.alloc o1).alloc o2).heap[w.heap.size]? = some o1 ∧ ((w.alloc o1).alloc o2).heap[w.heap.size + 1]? = some o2 := by
  have hs : (w.alloc o1).heap.size = w.heap.size + 1 := by simp
  refine ⟨?_, ?_⟩
  · exact block_turn (heap_alloc_new w o1) (Turn.alloc (fun _ => False) _ o2) (fun h => h)
  · have := heap_alloc_new (w.alloc o1) o2
    rwa [hs] at this
/-- An element of a row of nodes. -/
theorem node_at {w : World} {B : Nat} {A : Option Addr} {n c : Nat} {xk : List Value} {ks : List NoD} (h2 : Sl w B 8 (.slice A n c) xk) (hr : NosR w B xk ks) {i : Nat} (hi : i < ks.length) (hn : n = ks.length) :
    ∃ b o k s v2 v3 v4 A1 n1 c1 A2 n2 c2 A3 n3 c3, A = some ⟨b, o, none⟩ ∧ NoR w B [.int .i64 k, .string s, .int .i64 v2, .int .i64 v3, .int .i64 v4, .slice A1 n1 c1, .slice A2 n2 c2, .slice A3 n3 c3] ks[i] ∧
      w.cell? ⟨b, o + i * 8, none⟩ = some (.int .i64 k) ∧ w.cell? ⟨b, o + i * 8 + 1, none⟩ = some (.string s) ∧ w.cell? ⟨b, o + i * 8 + 2, none⟩ = some (.int .i64 v2) ∧ w.cell? ⟨b, o + i * 8 + 3, none⟩ = some (.int .i64 v3) ∧ w.cell? ⟨b, o + i * 8 + 4, none⟩ = some (.int .i64 v4) ∧
      w.cell? ⟨b, o + i * 8 + 5, none⟩ = some (.slice A1 n1 c1) ∧ w.cell? ⟨b, o + i * 8 + 6, none⟩ = some (.slice A2 n2 c2) ∧ w.cell? ⟨b, o + i * 8 + 7, none⟩ = some (.slice A3 n3 c3) := by
  subst hn
  obtain ⟨b1, o1, rfl, hb1, hc1⟩ := t_sl_in h2 hi (by omega)
  have hr1 := hr.at i hi
  obtain ⟨kk, s, v2, v3, v4, A1, n1, c1, A2, n2, c2, A3, n3, c3, hv1⟩ := hr1.shape
  rw [hv1] at hr1
  refine ⟨b1, o1, kk, s, v2, v3, v4, A1, n1, c1, A2, n2, c2, A3, n3, c3, rfl, hr1, ?_, ?_, ?_, ?_, ?_, ?_, ?_, ?_⟩
  · have := hc1 0 _ (t_part hv1 (by omega : 0 < 8)); simpa using this
  · have := hc1 1 _ (t_part hv1 (by omega : 1 < 8)); simpa [Nat.add_assoc] using this
  · have := hc1 2 _ (t_part hv1 (by omega : 2 < 8)); simpa [Nat.add_assoc] using this
  · have := hc1 3 _ (t_part hv1 (by omega : 3 < 8)); simpa [Nat.add_assoc] using this
  · have := hc1 4 _ (t_part hv1 (by omega : 4 < 8)); simpa [Nat.add_assoc] using this
  · have := hc1 5 _ (t_part hv1 (by omega : 5 < 8)); simpa [Nat.add_assoc] using this
  · have := hc1 6 _ (t_part hv1 (by omega : 6 < 8)); simpa [Nat.add_assoc] using this
  · have := hc1 7 _ (t_part hv1 (by omega : 7 < 8)); simpa [Nat.add_assoc] using this
end Go.Proofs.YtbpedjkebemhnaaGreatDoor
end
section
/- Is there one among types, among functions, of which a function value says yes: slices.IndexFunc, slices.ContainsFunc. -/
set_option linter.unusedVariables false
namespace Go.Proofs.YtbpedjkebemhnaaGreatDoor
open Go.RowKit

/-- Where the first of which it is said stands, or -1. -/
def AtYes {α : Type} (p : α → Bool) (l : List α) (w : World) (e : Ending) (w' : World) : Prop := (∃ k : Int, e = .returned (.int .i64 k) ∧ (if l.any p then 0 ≤ k else k = -1)) ∧ Below w.heap.size w w'
theorem any_none {α : Type} {p : α → Bool} {l : List α} {k : Nat} (hlt : k < l.length) (hi : (l.take k).any p = false) (h : p l[k] = false) : (l.take (k + 1)).any p = false := by
  rw [t_take hlt, List.any_append, hi]; simp [h]
theorem any_some {α : Type} {p : α → Bool} {l : List α} {k : Nat} (hlt : k < l.length) (h : p l[k] = true) : l.any p = true := List.any_eq_true.2 ⟨_, List.getElem_mem hlt, h⟩
/-- A function in a list: its cells. -/
theorem decl_at {w : World} {B : Nat} {A : Option Addr} {n c : Nat} {xs : List Value} {l : List DeD} (hs : Sl w B 15 (.slice A n c) xs) (hr : TRow (DeR w B) 15 xs l) {i : Nat} (hi : i < l.length) (hn : n = l.length) :
    ∃ b o A1 c1 A2 c2 kk s n1 l1 cc A3 n3 c3 A4 n4 c4 A5 n5 c5 nd md, A = some ⟨b, o, none⟩ ∧ DeR w B [sv nd, .bool l[i].exp, .slice A1 l[i].vars.length c1, sv md, .slice A2 l[i].types.length c2, .int .i64 kk, .string s, .int .i64 n1, .int .i64 l1, .int .i64 cc, .slice A3 n3 c3, .slice A4 n4 c4, .slice A5 n5 c5, .int .i64 l[i].line, .int .i64 l[i].col] l[i] ∧ w.cell? ⟨b, o + i * 15, none⟩ = some (sv nd) ∧ w.cell? ⟨b, o + i * 15 + 1, none⟩ = some (.bool l[i].exp) ∧ w.cell? ⟨b, o + i * 15 + 2, none⟩ = some (.slice A1 l[i].vars.length c1) ∧ w.cell? ⟨b, o + i * 15 + 3, none⟩ = some (sv md) ∧ w.cell? ⟨b, o + i * 15 + 4, none⟩ = some (.slice A2 l[i].types.length c2) ∧ w.cell? ⟨b, o + i * 15 + 5, none⟩ = some (.int .i64 kk) ∧ w.cell? ⟨b, o + i * 15 + 6, none⟩ = some (.string s) ∧ w.cell? ⟨b, o + i * 15 + 7, none⟩ = some (.int .i64 n1) ∧ w.cell? ⟨b, o + i * 15 + 8, none⟩ = some (.int .i64 l1) ∧ w.cell? ⟨b, o + i * 15 + 9, none⟩ = some (.int .i64 cc) ∧ w.cell? ⟨b, o + i * 15 + 10, none⟩ = some (.slice A3 n3 c3) ∧ w.cell? ⟨b, o + i * 15 + 11, none⟩ = some (.slice A4 n4 c4) ∧ w.cell? ⟨b, o + i * 15 + 12, none⟩ = some (.slice A5 n5 c5) ∧ w.cell? ⟨b, o + i * 15 + 13, none⟩ = some (.int .i64 l[i].line) ∧ w.cell? ⟨b, o + i * 15 + 14, none⟩ = some (.int .i64 l[i].col) := by
  obtain ⟨b, o, z, hA, hb, hz, hc⟩ := row_at hs hr (by omega) hi hn
  obtain ⟨A1, c1, A2, c2, k, s, n, l1, c, A3, n3, c3, A4, n4, c4, A5, n5, c5, xv, xt, rfl, _⟩ := hz.parts
  refine ⟨b, o, A1, c1, A2, c2, k, s, n, l1, c, A3, n3, c3, A4, n4, c4, A5, n5, c5, l[i].name, l[i].param, hA, hz, by simpa using hc 0 _ rfl, hc 1 _ rfl, hc 2 _ rfl, hc 3 _ rfl, hc 4 _ rfl, hc 5 _ rfl, hc 6 _ rfl, hc 7 _ rfl, hc 8 _ rfl, hc 9 _ rfl, hc 10 _ rfl, hc 11 _ rfl, hc 12 _ rfl, hc 13 _ rfl, hc 14 _ rfl⟩
set_option maxRecDepth 100000 in
set_option maxHeartbeats 4000000 in
theorem index_types (F : Nat) (eg : ∀ args w, (callFunc F args).run Tryz.prog w = .ok (.enter F args) w) (caps : Array Value) (p : TyD → Bool) (v : Value) (l : List TyD) (xs : List Value) (w : World) (hv : Sl w w.heap.size 4 v xs) (hr : TysR w w.heap.size xs l)
    (hF : ∀ y ∈ l, ∀ (w1 : World) (z : List Value), Below w.heap.size w w1 → TyR w1 w1.heap.size z y → Calls Tryz.prog F (#[.agg z.toArray] ++ caps) w1 fun e w2 => e = .returned (.bool (p y)) ∧ Below w1.heap.size w1 w2) :
    Calls Tryz.prog 126 #[v, .func (.func F) #[] caps] w (AtYes p l w) := by
  have HV := hid hv
  obtain ⟨A, c, rfl⟩ := t_sl_exact hv (by omega) (m := l.length) hr.length
  obtain ⟨_, hn, hc⟩ := t_sl_len hv
  have HF := hid hF
  have HR := hid hr
  clear hv hF hr
  go_enter Tryz.func126, Tryz.ntmps126
  go_wp2_with fail
  go_loopw [8] (fun v8 wr => ∃ k : Nat, v8 = .int .i64 k ∧ k ≤ l.length ∧ (l.take k).any p = false ∧ Below w.heap.size w wr) (fun v8 _ => l.length - (intOf v8).toNat)
  case atStart => exact ⟨0, rfl, by omega, rfl, Below.refl _ _⟩
  case round =>
    obtain ⟨k, rfl, hk, hinv, hbr⟩ := hrel
    have HI := hid hinv
    clear hinv
    by_cases hlt : k < l.length
    · obtain ⟨b1, o1, kk, s, A1, n1, c1, A2, n2, c2, rfl, hr1, d0, d1, d2, d3⟩ := elem_at (Sl.more (Sl.below HV.out hbr) hbr.size) ((HR.out.keep hbr).more hbr.size) hlt rfl
      have HN := hid (HF.out _ (List.getElem_mem hlt) wr _ hbr hr1)
      have HST := hid (fun h => any_none hlt HI.out h)
      have HYES := hid (fun h => any_some (p := p) hlt h)
      have HB := hid hbr
      clear hbr hr1
      cases hq : p l[k] with
      | true =>
        have HALL := hid (HYES.out hq)
        rw [hq] at HN
        clear hq HST HYES
        generalize l[k] = X at *
        go_wp2_with fail
        refine HN.out.mono ?_
        rintro e w2 ⟨rfl, hb⟩
        have HB2 := hid (HB.out.trans (hb.mono HB.out.size))
        clear hb d0 d1 d2 d3
        go_wp2_with fail
        go_ret
        exact ⟨⟨k, rfl, by rw [HALL.out]; simp⟩, HB2.out⟩
      | false =>
        have HNO := hid (HST.out hq)
        rw [hq] at HN
        clear hq HST HYES
        generalize l[k] = X at *
        go_wp2_with fail
        refine HN.out.mono ?_
        rintro e w2 ⟨rfl, hb⟩
        have HB2 := hid (HB.out.trans (hb.mono HB.out.size))
        clear hb d0 d1 d2 d3
        go_wp2_with fail
        go_roundw
        case rel => exact ⟨k + 1, rfl, by omega, HNO.out, HB2.out⟩
        case measure => simp [intOf]; omega
    · obtain rfl : k = l.length := by omega
      rw [List.take_length] at HI
      have HB := hid hbr
      clear hbr
      go_wp2_with fail
      go_ret
      exact ⟨⟨-1, rfl, by rw [HI.out]; simp⟩, HB.out⟩
theorem contains_types (F : Nat) (eg : ∀ args w, (callFunc F args).run Tryz.prog w = .ok (.enter F args) w) (caps : Array Value) (p : TyD → Bool) (v : Value) (l : List TyD) (xs : List Value) (w : World) (hv : Sl w w.heap.size 4 v xs) (hr : TysR w w.heap.size xs l)
    (hF : ∀ y ∈ l, ∀ (w1 : World) (z : List Value), Below w.heap.size w w1 → TyR w1 w1.heap.size z y → Calls Tryz.prog F (#[.agg z.toArray] ++ caps) w1 fun e w2 => e = .returned (.bool (p y)) ∧ Below w1.heap.size w1 w2) :
    Calls Tryz.prog 81 #[v, .func (.func F) #[] caps] w fun e w' => e = .returned (.bool (l.any p)) ∧ Below w.heap.size w w' := by
  have HI := hid (index_types F eg caps p v l xs w hv hr hF)
  obtain ⟨A, n, c, rfl⟩ := t_sl_shape hv
  clear hv hF hr eg
  cases hb : l.any p
  all_goals
    go_enter Tryz.func81, Tryz.ntmps81
    go_wp2_with fail
    refine HI.out.mono ?_
    rintro e w2 ⟨⟨k, rfl, hk⟩, hbel⟩
    rw [hb] at hk
    simp only [Bool.false_eq_true, if_false, if_true] at hk
    have HB := hid hbel
    clear hbel hb HI
  · subst hk
    go_wp2_with fail
    go_ret
    exact ⟨rfl, HB.out⟩
  · have hg : decide (0 ≤ k) = true := by simpa using hk
    go_wp2_with fail
    go_ret
    exact ⟨rfl, HB.out⟩
set_option maxRecDepth 100000 in
set_option maxHeartbeats 4000000 in
theorem index_decls (F : Nat) (eg : ∀ args w, (callFunc F args).run Tryz.prog w = .ok (.enter F args) w) (caps : Array Value) (p : DeD → Bool) (v : Value) (l : List DeD) (xs : List Value) (w : World) (hv : Sl w w.heap.size 15 v xs) (hr : TRow (DeR w w.heap.size) 15 xs l)
    (hF : ∀ y ∈ l, ∀ (w1 : World) (z : List Value), Below w.heap.size w w1 → DeR w1 w1.heap.size z y → Calls Tryz.prog F (#[.agg z.toArray] ++ caps) w1 fun e w2 => e = .returned (.bool (p y)) ∧ Below w1.heap.size w1 w2) :
    Calls Tryz.prog 94 #[v, .func (.func F) #[] caps] w (AtYes p l w) := by
  have HV := hid hv
  obtain ⟨A, c, rfl⟩ := t_sl_exact hv (by omega) (m := l.length) hr.len
  obtain ⟨_, hn, hc⟩ := t_sl_len hv
  have HF := hid hF
  have HR := hid hr
  clear hv hF hr
  go_enter Tryz.func94, Tryz.ntmps94
  go_wp2_with fail
  go_loopw [8] (fun v8 wr => ∃ k : Nat, v8 = .int .i64 k ∧ k ≤ l.length ∧ (l.take k).any p = false ∧ Below w.heap.size w wr) (fun v8 _ => l.length - (intOf v8).toNat)
  case atStart => exact ⟨0, rfl, by omega, rfl, Below.refl _ _⟩
  case round =>
    obtain ⟨k, rfl, hk, hinv, hbr⟩ := hrel
    have HI := hid hinv
    clear hinv
    by_cases hlt : k < l.length
    · obtain ⟨b1, o1, A1, c1, A2, c2, kk, s, n1, l1, cc, A3, n3, c3, A4, n4, c4, A5, n5, c5, nd, md, hA, hr1, d0, d1, d2, d3, d4, d5, d6, d7, d8, d9, d10, d11, d12, d13, d14⟩ := decl_at (Sl.more (Sl.below HV.out hbr) hbr.size) (HR.out.imp fun _ _ h => (h.keep hbr).more hbr.size) hlt rfl
      subst hA
      have HN := hid (HF.out _ (List.getElem_mem hlt) wr _ hbr hr1)
      have HST := hid (fun h => any_none hlt HI.out h)
      have HYES := hid (fun h => any_some (p := p) hlt h)
      have HB := hid hbr
      clear hbr hr1
      cases hq : p l[k] with
      | true =>
        have HALL := hid (HYES.out hq)
        rw [hq] at HN
        clear hq HST HYES
        generalize l[k] = X at *
        go_wp2_with fail
        refine HN.out.mono ?_
        rintro e w2 ⟨rfl, hb⟩
        have HB2 := hid (HB.out.trans (hb.mono HB.out.size))
        clear hb d0 d1 d2 d3 d4 d5 d6 d7 d8 d9 d10 d11 d12 d13 d14
        go_wp2_with fail
        go_ret
        exact ⟨⟨k, rfl, by rw [HALL.out]; simp⟩, HB2.out⟩
      | false =>
        have HNO := hid (HST.out hq)
        rw [hq] at HN
        clear hq HST HYES
        generalize l[k] = X at *
        go_wp2_with fail
        refine HN.out.mono ?_
        rintro e w2 ⟨rfl, hb⟩
        have HB2 := hid (HB.out.trans (hb.mono HB.out.size))
        clear hb d0 d1 d2 d3 d4 d5 d6 d7 d8 d9 d10 d11 d12 d13 d14
        go_wp2_with fail
        go_roundw
        case rel => exact ⟨k + 1, rfl, by omega, HNO.out, HB2.out⟩
        case measure => simp [intOf]; omega
    · obtain rfl : k = l.length := by omega
      rw [List.take_length] at HI
      have HB := hid hbr
      clear hbr
      go_wp2_with fail
      go_ret
      exact ⟨⟨-1, rfl, by rw [HI.out]; simp⟩, HB.out⟩
theorem contains_decls (F : Nat) (eg : ∀ args w, (callFunc F args).run Tryz.prog w = .ok (.enter F args) w) (caps : Array Value) (p : DeD → Bool) (v : Value) (l : List DeD) (xs : List Value) (w : World) (hv : Sl w w.heap.size 15 v xs) (hr : TRow (DeR w w.heap.size) 15 xs l)
    (hF : ∀ y ∈ l, ∀ (w1 : World) (z : List Value), Below w.heap.size w w1 → DeR w1 w1.heap.size z y → Calls Tryz.prog F (#[.agg z.toArray] ++ caps) w1 fun e w2 => e = .returned (.bool (p y)) ∧ Below w1.heap.size w1 w2) :
    Calls Tryz.prog 43 #[v, .func (.func F) #[] caps] w fun e w' => e = .returned (.bool (l.any p)) ∧ Below w.heap.size w w' := by
  have HI := hid (index_decls F eg caps p v l xs w hv hr hF)
  obtain ⟨A, n, c, rfl⟩ := t_sl_shape hv
  clear hv hF hr eg
  cases hb : l.any p
  all_goals
    go_enter Tryz.func43, Tryz.ntmps43
    go_wp2_with fail
    refine HI.out.mono ?_
    rintro e w2 ⟨⟨k, rfl, hk⟩, hbel⟩
    rw [hb] at hk
    simp only [Bool.false_eq_true, if_false, if_true] at hk
    have HB := hid hbel
    clear hbel hb HI
  · subst hk
    go_wp2_with fail
    go_ret
    exact ⟨rfl, HB.out⟩
  · have hg : decide (0 ≤ k) = true := by simpa using hk
    go_wp2_with fail
    go_ret
    exact ⟨rfl, HB.out⟩
end Go.Proofs.YtbpedjkebemhnaaGreatDoor
end
