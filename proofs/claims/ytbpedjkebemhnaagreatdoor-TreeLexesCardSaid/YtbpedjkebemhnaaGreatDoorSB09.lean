/- GK, ZC, YA -/
import Derived.Test.YtbpedjkebemhnaaGreatDoorSB07
import Derived.Test.YtbpedjkebemhnaaGreatDoorSB03
import Derived.Lib.Join
import Derived.Test.YtbpedjkebemhnaaGreatDoorSB08
import Derived.Lib.ItoaLen
import Derived.Test.YtbpedjkebemhnaaGreatDoorSB02
set_option linter.unusedSimpArgs false
set_option linter.unusedVariables false
section
/- Texts that belong together: TG, TH, TI, UA, UB, UC. -/
/- How long a written type's text may be. -/
set_option linter.unusedVariables false
namespace Go.Proofs.YtbpedjkebemhnaaGreatDoor

mutual
/-- How many types there are. -/
def cntT : TyD → Nat
  | .mk _ _ _ ks => 1 + cntTs ks
def cntTs : List TyD → Nat
  | [] => 0
  | t :: l => cntT t + cntTs l
end
def lenS (l : List Bt) : Nat := (l.map List.length).sum
theorem lenS_cons (x : Bt) (l : List Bt) : lenS (x :: l) = x.length + lenS l := by simp [lenS]
theorem joinS_len (sep : Bt) : ∀ l : List Bt, (joinS sep l).length ≤ lenS l + sep.length * l.length
  | [] => by simp [joinS]
  | [x] => by simp [joinS, lenS]
  | x :: y :: l => by
    have h := joinS_len sep (y :: l)
    rw [joinS, List.length_append, List.length_append, lenS_cons, List.length_cons, Nat.mul_succ]
    omega
theorem nameL_len {s : Bt} (h : nameL s = true) : s.length ≤ 32 := by
  rcases Nat.lt_or_ge 32 s.length with h1 | h1
  · rw [nameL_long h1] at h; cases h
  · exact h1
theorem field_len : ∀ (ns l : List Bt), (∀ n ∈ ns, n.length ≤ 32) → lenS (List.zipWith fieldS ns l) ≤ lenS l + 34 * l.length
  | [], l, _ => by simp [lenS]
  | n :: ns, [], _ => by simp [lenS]
  | n :: ns, x :: l, h => by
    have h1 := field_len ns l fun y hy => h y (List.mem_cons_of_mem _ hy)
    have h2 := h n (List.mem_cons_self ..)
    rw [List.zipWith_cons_cons, lenS_cons, lenS_cons, List.length_cons]
    have h3 : (fieldS n x).length = n.length + (2 + x.length) := by unfold fieldS; simp only [List.length_append, List.length_cons, List.length_nil]
    omega
theorem zip_len {α β γ : Type} (f : α → β → γ) : ∀ (a : List α) (b : List β), (List.zipWith f a b).length ≤ b.length
  | [], b => by simp
  | x :: a, [] => by simp
  | x :: a, y :: b => by rw [List.length_zipWith]; omega
theorem innerS_len (ks : List Int) (k : Int) (s : Bt) : (innerS ks k s).length ≤ s.length + 2 := by
  unfold innerS
  split
  · simp
  · omega
theorem inner_len (kk : List Int) : ∀ (ks : List Int) (l : List Bt), lenS (List.zipWith (innerS kk) ks l) ≤ lenS l + 2 * l.length
  | [], l => by simp [lenS]
  | k :: ks, [] => by simp [lenS]
  | k :: ks, x :: l => by
    have h1 := inner_len kk ks l
    have h2 := innerS_len kk k x
    rw [List.zipWith_cons_cons, lenS_cons, lenS_cons, List.length_cons]
    omega
theorem getD_len (l : List Bt) (i : Nat) : (l.getD i []).length ≤ lenS l := by
  induction l generalizing i with
  | nil => simp [lenS]
  | cons x l ih =>
    rw [lenS_cons]
    cases i with
    | zero => simp
    | succ i => have := ih i; simp only [List.getD_cons_succ]; omega
theorem two_len (l : List Bt) : (l.getD 0 []).length + (l.getD 1 []).length ≤ lenS l := by
  match l with
  | [] => simp [lenS]
  | [x] => simp [lenS]
  | x :: y :: l => simp [lenS]
theorem showTs_length (l : List TyD) : (showTs l).length = l.length := by rw [showTs_map, List.length_map]
mutual
theorem show_len : ∀ (t : TyD) (m : Nat), writtenB m t = true → (showT t).length + 44 ≤ 80 * cntT t
  | .mk k nm ns ks, m, h => by
    obtain ⟨m, rfl⟩ : ∃ q, m = q + 1 := by
      cases m with
      | zero => cases h
      | succ q => exact ⟨q, rfl⟩
    have h : (ns.all nameL && ks.all (writtenB m) && kindT k nm ns.length ks.length) = true := h
    rw [Bool.and_eq_true, Bool.and_eq_true] at h
    obtain ⟨⟨h1, h2⟩, h3⟩ := h
    have hn : ∀ n ∈ ns, n.length ≤ 32 := fun n hn => nameL_len (List.all_eq_true.1 h1 n hn)
    have hk := shows_len ks m h2
    have hl := showTs_length ks
    rw [showT, cntT]
    split
    · simp; omega
    split
    · simp; omega
    split
    · simp; omega
    split
    · simp; omega
    split
    · simp; omega
    split
    · have a1 := joinS_len [44, 32] (List.zipWith fieldS ns (showTs ks))
      have a2 := field_len ns (showTs ks) hn
      have a3 := zip_len fieldS ns (showTs ks)
      simp only [List.length_append, List.length_cons, List.length_nil] at a1 ⊢
      omega
    split
    · have a1 := innerS_len [6] ((ks.map TyD.kind).getD 0 0) ((showTs ks).getD 0 [])
      have a2 := two_len (showTs ks)
      simp only [List.length_append, List.length_cons, List.length_nil]
      omega
    split
    · have a1 := joinS_len [32, 124, 32] (List.zipWith (innerS [6, 7]) (ks.map TyD.kind) (showTs ks))
      have a2 := inner_len [6, 7] (ks.map TyD.kind) (showTs ks)
      have a3 := zip_len (innerS [6, 7]) (ks.map TyD.kind) (showTs ks)
      simp only [List.length_append, List.length_cons, List.length_nil] at a1 ⊢
      omega
    · have hnm : nm.length ≤ 32 := by
        unfold kindT at h3
        split at h3
        · rw [Bool.and_eq_true] at h3
          exact nameL_len h3.2
        · split at h3
          · cases h3
          · rename_i h4
            have : nm = [] := by
              rcases nm with _ | ⟨c, r⟩
              · rfl
              · exact absurd (.inl (by simp)) h4
            rw [this]; simp
      omega
theorem shows_len : ∀ (l : List TyD) (m : Nat), l.all (writtenB m) = true → lenS (showTs l) + 44 * l.length ≤ 80 * cntTs l
  | [], _, _ => by simp [lenS, showTs]
  | t :: l, m, h => by
    rw [List.all_cons, Bool.and_eq_true] at h
    have h1 := show_len t m h.1
    have h2 := shows_len l m h.2
    rw [showTs, lenS_cons, cntTs, List.length_cons]
    omega
end
end Go.Proofs.YtbpedjkebemhnaaGreatDoor

/- A written type as text: what is in brackets. -/
set_option linter.unusedVariables false
namespace Go.Proofs.YtbpedjkebemhnaaGreatDoor
open Go.RowKit

/-- The contract of show, of a written type of not too many. -/
def ShowC (t : TyD) : Prop := ∀ (w : World) (z : List Value) (m : Nat), TyR w w.heap.size z t → writtenB m t = true → cntT t ≤ 100000 →
  Calls Tryz.prog 37 #[.agg z.toArray] w fun e w' => e = .returned (sv (showT t)) ∧ Below w.heap.size w w'
set_option maxHeartbeats 2000000 in
theorem tinner_any (t : TyD) (hS : ShowC t) (w : World) (z : List Value) (m : Nat) (hr : TyR w w.heap.size z t) (hw : writtenB m t = true) (hc : cntT t ≤ 100000) (bq : Nat) (kk : List Int) (hk : kk.length ≤ 10) (hq : ∀ j, j < kk.length → w.cell? ⟨bq, 0 + j, none⟩ = some (.int .i64 (kk.getD j 0))) (hbq : bq < w.heap.size) :
    Calls Tryz.prog 84 #[.agg z.toArray, .slice (some ⟨bq, 0, none⟩) kk.length kk.length] w fun e w' => e = .returned (sv (innerS kk t.kind (showT t))) ∧ Below w.heap.size w w' := by
  have hlen := show_len t m hw
  obtain ⟨k, nm, ns, ks⟩ := t
  obtain ⟨A1, c1, A2, c2, xk, hz, s1, s2, r2⟩ := hr.parts
  have hb1 : Below w.heap.size w (w.alloc (.cells z.toArray 32)) := (Below.refl _ _).alloc (Nat.le_refl _) _
  have HS := hid (hS _ z m (hr.far (Nat.le_refl _) hb1) hw hc)
  have HC := hid (Tryz.slices_Contains_int bq 0 kk.length kk.length kk k (w.alloc (.cells z.toArray 32)) (Nat.le_refl _) (by omega) (fun j hj => t_keep hb1 (hq j hj) hbq))
  have HB := hid hb1
  subst hz
  have hki : (TyD.mk k nm ns ks).kind = k := rfl
  rw [hki]
  generalize showT (.mk k nm ns ks) = s at *
  generalize cntT (.mk k nm ns ks) = N at *
  rw [List.take_length] at HC
  have hsz := sv_size s
  have h1 : ¬ (9223372036854775807 < 1 + s.length) := by omega
  have h2 : ¬ (9223372036854775807 < 1 + s.length + 1) := by omega
  clear hr hw hS hb1 hq hbq s1 s2 r2 hki hlen hc
  cases hcn : kk.contains k with
  | true =>
    rw [hcn] at HC
    have HT : Hid (innerS kk k s = [40] ++ (s ++ [41])) := hid (by unfold innerS; rw [hcn]; rfl)
    clear hcn
    go_enter Tryz.func84, Tryz.ntmps84
    go_wp2_with fail
    refine HC.out.mono ?_
    rintro e w2 ⟨rfl, rfl⟩
    go_wp2_with fail
    refine HS.out.mono ?_
    rintro e w3 ⟨rfl, hb3⟩
    go_wp2_with fail
    go_ret
    refine ⟨?_, HB.out.trans (hb3.mono HB.out.size)⟩
    rw [HT.out]
    have e : (⟨#[40]⟩ : ByteArray) ++ ⟨s.toArray⟩ ++ ⟨#[41]⟩ = ⟨([40] ++ (s ++ [41])).toArray⟩ := by
      rw [show (⟨#[40]⟩ : ByteArray) = ⟨([40] : Bt).toArray⟩ from rfl, show (⟨#[41]⟩ : ByteArray) = ⟨([41] : Bt).toArray⟩ from rfl, str_append, str_append, List.append_assoc]
    exact congrArg (fun b => Ending.returned (Value.string b)) e
  | false =>
    rw [hcn] at HC
    have HT : Hid (innerS kk k s = s) := hid (by unfold innerS; rw [hcn]; rfl)
    clear hcn
    go_enter Tryz.func84, Tryz.ntmps84
    go_wp2_with fail
    refine HC.out.mono ?_
    rintro e w2 ⟨rfl, rfl⟩
    go_wp2_with fail
    refine HS.out.mono ?_
    rintro e w3 ⟨rfl, hb3⟩
    go_wp2_with fail
    go_ret
    exact ⟨by rw [HT.out]; rfl, HB.out.trans (hb3.mono HB.out.size)⟩
end Go.Proofs.YtbpedjkebemhnaaGreatDoor

/- Texts put together: the library's Join. -/
set_option linter.unusedVariables false
namespace Go.Proofs.YtbpedjkebemhnaaGreatDoor
open Go.RowKit

theorem join_joinS (sep : Bt) : ∀ l : List Bt, Lib.join l sep = joinS sep l
  | [] => rfl
  | [x] => Lib.join_one x sep
  | x :: y :: l => by
    have h := join_joinS sep (y :: l)
    rw [joinS, ← h]
    simp [Lib.join, List.intercalate]
/-- strings.Join of texts that lie in a slice. -/
theorem join_any (w : World) (v : Value) (l : List Bt) (sep : Bt) (hv : Ss w w.heap.size v l) (hn : l.length ≤ 140737488355328) (hlen : (joinS sep l).length ≤ 140737488355328) :
    Calls Tryz.prog 49 #[v, sv sep] w fun e w' => e = .returned (sv (joinS sep l)) ∧ Below w.heap.size w w' := by
  obtain ⟨A, c, rfl, hlc, hcm, hcell⟩ := hv.open_
  rcases Nat.eq_zero_or_pos l.length with h0 | h0
  · have hl : l = [] := List.length_eq_zero_iff.1 h0
    subst hl
    refine (Tryz.strings_Join_none A c ⟨sep.toArray⟩ w).mono ?_
    rintro e w2 ⟨rfl, rfl⟩
    exact ⟨rfl, Below.refl _ _⟩
  · obtain ⟨b, off, rfl, hb, hc⟩ := hcell h0
    have hmap : (l.map fun x : Bt => (⟨x.toArray⟩ : ByteArray)).map (·.data.toList) = l := by
      rw [List.map_map]
      conv => rhs; rw [← List.map_id l]
      apply List.map_congr_left
      intro x _
      simp
    have h := Tryz.strings_Join b off c (l.map fun x : Bt => ⟨x.toArray⟩) ⟨sep.toArray⟩ w (fun j x hx => by
      rw [List.getElem?_map] at hx
      rcases hj : l[j]? with _ | y
      · rw [hj] at hx; cases hx
      · rw [hj] at hx
        injection hx with hx
        obtain ⟨hjl, rfl⟩ := List.getElem?_eq_some_iff.1 hj
        rw [← hx]
        exact hc j hjl) hb (by rw [List.length_map]; exact hn) (by rw [List.length_map]; exact hlc) (by rw [hmap]; show (Lib.join l sep.toArray.toList).length ≤ _; rw [List.toList_toArray, join_joinS]; exact hlen)
    rw [hmap, List.length_map] at h
    refine h.mono ?_
    rintro e w2 ⟨rfl, hb2⟩
    refine ⟨?_, hb2⟩
    show Ending.returned (Value.string ⟨(Lib.join l sep.toArray.toList).toArray⟩) = _
    rw [List.toList_toArray, join_joinS]
end Go.Proofs.YtbpedjkebemhnaaGreatDoor

/- How many types and nodes there are, counted down from so many. -/
set_option linter.unusedVariables false
namespace Go.Proofs.YtbpedjkebemhnaaGreatDoor

mutual
/-- Types, counted down. -/
def heavyB : TyD → Nat → Nat
  | .mk _ _ ns ks, m => if m < ks.length ∨ m < ns.length then 0 else heaviesB ks (m - 1)
def heaviesB : List TyD → Nat → Nat
  | [], m => m
  | t :: l, m => if m = 0 then 0 else heaviesB l (heavyB t m)
end
theorem heavies_zero (l : List TyD) : heaviesB l 0 = 0 := by
  cases l with
  | nil => simp [heaviesB]
  | cons t l => simp [heaviesB]
theorem heavies_cons {t : TyD} {l : List TyD} {m : Nat} (h : 0 < m) : heaviesB (t :: l) m = heaviesB l (heavyB t m) := by
  rw [heaviesB, if_neg (by omega)]
mutual
theorem heavy_cnt : ∀ (t : TyD) (m : Nat), 0 < heavyB t m → cntT t + heavyB t m ≤ m
  | .mk k nm ns ks, m, h => by
    rw [heavyB] at h ⊢
    split at h
    · omega
    · rename_i h1
      rw [if_neg h1, cntT]
      have := heavies_cnt ks (m - 1) h
      omega
theorem heavies_cnt : ∀ (l : List TyD) (m : Nat), 0 < heaviesB l m → cntTs l + heaviesB l m ≤ m
  | [], m, h => by simp [heaviesB, cntTs]
  | t :: l, m, h => by
    rcases Nat.eq_zero_or_pos m with rfl | hm
    · rw [heavies_zero] at h; omega
    · rw [heavies_cons hm] at h ⊢
      have h1 := heavies_cnt l _ h
      have h2 := heavy_cnt t m (by omega)
      rw [cntTs]
      omega
end
theorem heavy_le (t : TyD) (m : Nat) : heavyB t m ≤ m := by
  rcases Nat.eq_zero_or_pos (heavyB t m) with h | h
  · omega
  · have := heavy_cnt t m h; omega
theorem cnt_mem : ∀ {l : List TyD} {t : TyD}, t ∈ l → cntT t ≤ cntTs l
  | [], _, h => by cases h
  | x :: l, t, h => by
    rw [cntTs]
    rcases List.mem_cons.1 h with rfl | h
    · omega
    · have := cnt_mem h; omega
theorem cnt_pos (t : TyD) : 0 < cntT t := by cases t; rw [cntT]; omega
theorem cnts_len : ∀ l : List TyD, l.length ≤ cntTs l
  | [] => by simp
  | t :: l => by have := cnts_len l; have := cnt_pos t; rw [cntTs, List.length_cons]; omega
mutual
/-- How many nodes and types there are. -/
def cntN : NoD → Nat
  | .mk _ _ _ _ _ ts _ ks => 1 + cntTs ts + cntNs ks
def cntNs : List NoD → Nat
  | [] => 0
  | t :: l => cntN t + cntNs l
end
theorem cntN_mem : ∀ {l : List NoD} {t : NoD}, t ∈ l → cntN t ≤ cntNs l
  | [], _, h => by cases h
  | x :: l, t, h => by
    rw [cntNs]
    rcases List.mem_cons.1 h with rfl | h
    · omega
    · have := cntN_mem h; omega
theorem cntN_pos (t : NoD) : 0 < cntN t := by cases t; rw [cntN]; omega
theorem cntNs_len : ∀ l : List NoD, l.length ≤ cntNs l
  | [] => by simp
  | t :: l => by have := cntNs_len l; have := cntN_pos t; rw [cntNs, List.length_cons]; omega
mutual
/-- Nodes and types, counted down. -/
def weightB : NoD → Nat → Nat
  | .mk _ text _ _ _ ts ns ks, m => if m < ks.length ∨ m < ts.length ∨ m < ns.length ∨ 5000 < text.length then 0 else weightsB ks (heaviesB ts (m - 1))
def weightsB : List NoD → Nat → Nat
  | [], m => m
  | t :: l, m => if m = 0 then 0 else weightsB l (weightB t m)
end
theorem weights_zero (l : List NoD) : weightsB l 0 = 0 := by
  cases l with
  | nil => simp [weightsB]
  | cons t l => simp [weightsB]
theorem weights_cons {t : NoD} {l : List NoD} {m : Nat} (h : 0 < m) : weightsB (t :: l) m = weightsB l (weightB t m) := by
  rw [weightsB, if_neg (by omega)]
mutual
theorem weight_cnt : ∀ (t : NoD) (m : Nat), 0 < weightB t m → cntN t + weightB t m ≤ m
  | .mk k text n li co ts ns ks, m, h => by
    rw [weightB] at h ⊢
    split at h
    · omega
    · rename_i h1
      rw [if_neg h1, cntN]
      have h2 := weights_cnt ks _ h
      have h3 := heavies_cnt ts (m - 1) (by omega)
      omega
theorem weights_cnt : ∀ (l : List NoD) (m : Nat), 0 < weightsB l m → cntNs l + weightsB l m ≤ m
  | [], m, h => by simp [weightsB, cntNs]
  | t :: l, m, h => by
    rcases Nat.eq_zero_or_pos m with rfl | hm
    · rw [weights_zero] at h; omega
    · rw [weights_cons hm] at h ⊢
      have h1 := weights_cnt l _ h
      have h2 := weight_cnt t m (by omega)
      rw [cntNs]
      omega
end
theorem weight_le (t : NoD) (m : Nat) : weightB t m ≤ m := by
  rcases Nat.eq_zero_or_pos (weightB t m) with h | h
  · omega
  · have := weight_cnt t m h; omega
end Go.Proofs.YtbpedjkebemhnaaGreatDoor

/- How long a written expression's text may be. -/
set_option linter.unusedVariables false
namespace Go.Proofs.YtbpedjkebemhnaaGreatDoor

theorem ite_p {α : Type} {c : Prop} [Decidable c] {P : α → Prop} {a b : α} (ha : P a) (hb : P b) : P (if c then a else b) := by
  by_cases h : c
  · rw [if_pos h]; exact ha
  · rw [if_neg h]; exact hb
theorem op_len {s : Bt} (h : opsL.contains s = true) : s.length ≤ 3 := by
  have h1 : s ∈ opsL := by simpa using h
  have h2 : ∀ x ∈ opsL, x.length ≤ 3 := by decide
  exact h2 s h1
theorem text_len {k : Int} {s : Bt} {b : Bool} (h : textB k s b = true) : s.length ≤ 256 := by
  unfold textB at h
  split at h
  · have := nameL_len h; omega
  split at h
  · unfold strB at h
    rw [Bool.and_eq_true, decide_eq_true_eq] at h
    exact h.1
  split at h
  · have := op_len h; omega
  · have : s = [] := by simpa using h
    rw [this]; simp
theorem quote_len (s : Bt) : (quoteW s).length ≤ 2 * s.length + 2 := by
  have h1 := esc_len s
  have h2 := escN_le s
  unfold quoteW
  rw [List.length_cons, List.length_append]
  simp only [List.length_cons, List.length_nil]
  omega
theorem note_two (ts : List TyD) (m : Nat) (h : ts.all (writtenB m) = true) : (noteS ts 0).length + (noteS ts 1).length ≤ 80 * cntTs ts := by
  have h1 := shows_len ts m h
  match ts, h1 with
  | [], _ => simp [noteS]
  | [t], h1 =>
    simp [noteS, showTs, lenS] at h1 ⊢
    omega
  | t :: u :: l, h1 =>
    simp [noteS, showTs, lenS] at h1 ⊢
    omega
theorem tags_len (i : Nat) : (tagsL.getD i []).length ≤ 28 := by
  have := getD_len tagsL i
  have h : lenS tagsL = 28 := by decide
  omega
theorem cat_len : ∀ l : List Bt, (cat l).length = lenS l
  | [] => rfl
  | x :: l => by
    have := cat_len l
    rw [lenS_cons, ← this]
    simp [cat]
theorem three_len (l : List Bt) : (l.getD 0 []).length + (l.getD 1 []).length + (l.getD 2 []).length ≤ lenS l := by
  match l with
  | [] => simp [lenS]
  | [x] => simp [lenS]
  | [x, y] => simp [lenS]
  | x :: y :: z :: l => simp [lenS]; omega
theorem exprSs_length (l : List NoD) : (exprSs l).length = l.length := by rw [exprSs_map, List.length_map]
theorem In64.itoa {n : Int} (h : 0 ≤ n ∧ n ≤ 9223372036854775807) : (Lib.itoa n).length ≤ 40 := by
  have := Lib.itoa_length_le n (by omega) (by omega)
  omega
theorem node_len (k : Int) (text : Bt) (n : Int) (ts : List TyD) (ns : List Bt) (s : List Bt) (m : Nat) (ht : text.length ≤ 256) (hn : 0 ≤ n ∧ n ≤ 9223372036854775807) (hts : ts.all (writtenB m) = true) (hns : ∀ x ∈ ns, x.length ≤ 32) :
    (nodeS k text n ts ns s).length + 44 ≤ 700 + 80 * cntTs ts + (lenS s + 36 * s.length) := by
  have a1 := note_two ts m hts
  have a2 := shows_len ts m hts
  have a3 := three_len s
  have a4 := tags_len n.toNat
  have a5 := quote_len text
  have a6 := joinS_len [44, 32] (ts.map showT)
  have a7 := joinS_len [44, 32] (List.zipWith fieldS ns s)
  have a8 := field_len ns s hns
  have a9 := zip_len fieldS ns s
  have a10 := getD_len (ts.map showT) 0
  have a11 := In64.itoa hn
  rw [showTs_map] at a2
  rw [List.length_map] at a6
  simp only [List.length_cons, List.length_nil] at a6 a7
  unfold nodeS simpleS
  generalize Lib.itoa n = it at *
  repeat' (refine ite_p (P := fun l : Bt => l.length + 44 ≤ 700 + 80 * cntTs ts + (lenS s + 36 * s.length)) ?_ ?_)
  all_goals first
    | omega
    | (rw [cat_len]; simp only [lenS, List.map_cons, List.map_nil, List.sum_cons, List.sum_nil, List.length_cons, List.length_nil]; simp only [lenS] at *; omega)
    | (simp only [List.length_cons, List.length_nil]; omega)
theorem own_text {k : Int} {text : Bt} {n : Int} {a b c : Nat} (h : ownN k text n a b c = true) : text.length ≤ 256 ∧ 0 ≤ n ∧ n ≤ 9223372036854775807 := by
  unfold ownN at h
  rw [Bool.and_eq_true, Bool.and_eq_true, Bool.and_eq_true, decide_eq_true_eq] at h
  refine ⟨text_len h.1.1.2, h.1.1.1.1, ?_⟩
  have h1 := h.1.1.1.2
  have h2 : (hasD k).most ≤ 9223372036854775807 := by
    show (fun h : HasD => h.most ≤ 9223372036854775807) (hasD k)
    unfold hasD
    repeat' (refine ite_p (P := fun h : HasD => h.most ≤ 9223372036854775807) ?_ ?_)
    all_goals (show (_ : Int) ≤ _; decide)
  omega
mutual
theorem expr_len : ∀ (x : NoD) (m : Nat), nodeB m x = true → (exprS x).length + 44 ≤ 700 * cntN x
  | .mk k text n li co ts ns ks, m, h => by
    obtain ⟨m, rfl⟩ : ∃ q, m = q + 1 := by
      cases m with
      | zero => cases h
      | succ q => exact ⟨q, rfl⟩
    have h : (decide (0 ≤ k ∧ k < 20) && ownN k text n ts.length ns.length ks.length && ns.all nameL && ts.all (writtenB 16) && ks.all (nodeB m)) = true := h
    rw [Bool.and_eq_true, Bool.and_eq_true, Bool.and_eq_true, Bool.and_eq_true] at h
    obtain ⟨⟨⟨⟨h1, h2⟩, h3⟩, h4⟩, h5⟩ := h
    obtain ⟨o1, o2⟩ := own_text h2
    have hk := exprs_len ks m h5
    have hl := exprSs_length ks
    have hh := node_len k text n ts ns (exprSs ks) 16 o1 o2 h4 (fun x hx => nameL_len (List.all_eq_true.1 h3 x hx))
    rw [exprS, cntN]
    omega
theorem exprs_len : ∀ (l : List NoD) (m : Nat), l.all (nodeB m) = true → lenS (exprSs l) + 44 * l.length ≤ 700 * cntNs l
  | [], _, _ => by simp [lenS, exprSs]
  | t :: l, m, h => by
    rw [List.all_cons, Bool.and_eq_true] at h
    have h1 := expr_len t m h.1
    have h2 := exprs_len l m h.2
    rw [exprSs, lenS_cons, cntNs, List.length_cons]
    omega
end
end Go.Proofs.YtbpedjkebemhnaaGreatDoor

/- Texts put together one by one. -/
set_option linter.unusedVariables false
namespace Go.Proofs.YtbpedjkebemhnaaGreatDoor

end Go.Proofs.YtbpedjkebemhnaaGreatDoor
end
section
/- What is printed of types and expressions, piece by piece. -/
set_option linter.unusedVariables false
namespace Go.Proofs.YtbpedjkebemhnaaGreatDoor

/-- Pieces put together with some between. -/
def joinP (sep : List Pc) : List (List Pc) → List Pc
  | [] => []
  | [x] => x
  | x :: y :: l => x ++ (sep ++ joinP sep (y :: l))
def commaP : List Pc := [.tok 5 [44], .sp]
def barP : List Pc := [.sp, .tok 5 [124], .sp]
theorem textP_join (sep : List Pc) : ∀ l : List (List Pc), textP (joinP sep l) = joinS (textP sep) (l.map textP)
  | [] => rfl
  | [x] => rfl
  | x :: y :: l => by
    rw [joinP, textP_append, textP_append, textP_join sep (y :: l)]
    rfl
theorem wp_comma : ∀ l : List (List Pc), l ≠ [] → (∀ x ∈ l, WP x) → WP (joinP commaP l)
  | [], h, _ => absurd rfl h
  | [x], _, h => h x (by simp)
  | x :: y :: l, _, h => by
    have hr := wp_comma (y :: l) (by simp) fun z hz => h z (by simp [hz])
    have := wp_segs (l := [.u x, .p (.tok 5 [44]), .p .sp, .u (joinP commaP (y :: l))]) rfl (by
      intro s hs
      simp only [List.mem_cons, List.not_mem_nil, or_false] at hs
      rcases hs with rfl | rfl | rfl | rfl
      · exact h x (by simp)
      · exact ⟨good_sign (.inr (by decide)), by omega, by omega⟩
      · trivial
      · exact hr)
    have e : flatS [.u x, .p (.tok 5 [44]), .p .sp, .u (joinP commaP (y :: l))] = joinP commaP (x :: y :: l) := by simp [flatS, Sg.flat, joinP, commaP]
    rw [← e]; exact this
theorem wp_bar : ∀ l : List (List Pc), l ≠ [] → (∀ x ∈ l, WP x) → WP (joinP barP l)
  | [], h, _ => absurd rfl h
  | [x], _, h => h x (by simp)
  | x :: y :: l, _, h => by
    have hr := wp_bar (y :: l) (by simp) fun z hz => h z (by simp [hz])
    have := wp_segs (l := [.u x, .p .sp, .p (.tok 5 [124]), .p .sp, .u (joinP barP (y :: l))]) rfl (by
      intro s hs
      simp only [List.mem_cons, List.not_mem_nil, or_false] at hs
      rcases hs with rfl | rfl | rfl | rfl | rfl
      · exact h x (by simp)
      · trivial
      · exact ⟨good_sign (.inr (by decide)), by omega, by omega⟩
      · trivial
      · exact hr)
    have e : flatS [.u x, .p .sp, .p (.tok 5 [124]), .p .sp, .u (joinP barP (y :: l))] = joinP barP (x :: y :: l) := by simp [flatS, Sg.flat, joinP, barP]
    rw [← e]; exact this
theorem ep_comma (l : List (List Pc)) (h : ∀ x ∈ l, WP x) : EP (joinP commaP l) := by
  cases l with
  | nil => exact .inl rfl
  | cons x l => exact .inr (wp_comma _ (by simp) h)
/-- How many tokens pieces have. -/
def cntP (l : List Pc) : Nat := (toksP l).length
theorem cntP_nil : cntP [] = 0 := rfl
theorem cntP_append (a b : List Pc) : cntP (a ++ b) = cntP a + cntP b := by unfold cntP; rw [toksP_append, List.length_append]
theorem cntP_tok (k : Int) (t : Bt) (l : List Pc) : cntP (.tok k t :: l) = cntP l + 1 := by unfold cntP; rw [toksP_cons]; simp [Pc.isTok]
theorem cntP_sp (l : List Pc) : cntP (.sp :: l) = cntP l := rfl
def sumP (l : List (List Pc)) : Nat := (l.map cntP).sum
theorem sumP_cons (x : List Pc) (l : List (List Pc)) : sumP (x :: l) = cntP x + sumP l := by simp [sumP]
theorem cntP_comma : ∀ l : List (List Pc), cntP (joinP commaP l) ≤ sumP l + l.length
  | [] => by simp [joinP, cntP, toksP]
  | [x] => by rw [joinP, sumP_cons]; omega
  | x :: y :: l => by
    have := cntP_comma (y :: l)
    rw [joinP, cntP_append, cntP_append, show cntP commaP = 1 from rfl, sumP_cons, List.length_cons]; omega
theorem cntP_bar : ∀ l : List (List Pc), cntP (joinP barP l) ≤ sumP l + l.length
  | [] => by simp [joinP, cntP, toksP]
  | [x] => by rw [joinP, sumP_cons]; omega
  | x :: y :: l => by
    have := cntP_bar (y :: l)
    rw [joinP, cntP_append, cntP_append, show cntP barP = 1 from rfl, sumP_cons, List.length_cons]; omega

def fieldP (n : Bt) (p : List Pc) : List Pc := .tok 1 n :: .tok 5 [58] :: .sp :: p
def innerP (kk : List Int) (k : Int) (p : List Pc) : List Pc := if kk.contains k then .tok 5 [40] :: (p ++ [.tok 5 [41]]) else p
mutual
/-- A written type, piece by piece. -/
def pcsT : TyD → List Pc
  | .mk k nm ns ks =>
    if k = 0 then [.tok 2 [97, 110, 121]]
    else if k = 1 then [.tok 2 [110, 117, 108, 108]]
    else if k = 2 then [.tok 2 [98, 111, 111, 108]]
    else if k = 3 then [.tok 2 [105, 110, 116]]
    else if k = 4 then [.tok 2 [115, 116, 114]]
    else if k = 5 then .tok 5 [123] :: (joinP commaP (List.zipWith fieldP ns (pcsTs ks)) ++ [.tok 5 [125]])
    else if k = 6 then innerP [6] ((ks.map TyD.kind).getD 0 0) ((pcsTs ks).getD 0 []) ++ (.sp :: .tok 5 [45, 62] :: .sp :: (pcsTs ks).getD 1 [])
    else if k = 7 then joinP barP (List.zipWith (innerP [6, 7]) (ks.map TyD.kind) (pcsTs ks))
    else [.tok 1 nm]
def pcsTs : List TyD → List (List Pc)
  | [] => []
  | t :: l => pcsT t :: pcsTs l
end
theorem pcsTs_map : ∀ l : List TyD, pcsTs l = l.map pcsT
  | [] => by simp [pcsTs]
  | t :: l => by simp [pcsTs, pcsTs_map l]
/-- What a written type is: its forms. -/
inductive TypeF (m : Nat) : TyD → Prop
  | base {k : Int} : 0 ≤ k → k ≤ 4 → TypeF m (.mk k [] [] [])
  | rec_ {ns : List Bt} {ks : List TyD} : ns.all nameL = true → (∀ t ∈ ks, writtenB m t = true) → ns.length = ks.length → TypeF m (.mk 5 [] ns ks)
  | fun_ {a b : TyD} : writtenB m a = true → writtenB m b = true → TypeF m (.mk 6 [] [] [a, b])
  | union {a b : TyD} {l : List TyD} : (∀ t ∈ a :: b :: l, writtenB m t = true) → TypeF m (.mk 7 [] [] (a :: b :: l))
  | var {nm : Bt} : nameL nm = true → TypeF m (.mk 8 nm [] [])
theorem type_form {m : Nat} {t : TyD} (h : writtenB (m + 1) t = true) : TypeF m t := by
  obtain ⟨k, nm, ns, ks⟩ := t
  have h : (ns.all nameL && ks.all (writtenB m) && kindT k nm ns.length ks.length) = true := h
  rw [Bool.and_eq_true, Bool.and_eq_true] at h
  obtain ⟨⟨h1, h2⟩, h3⟩ := h
  rw [List.all_eq_true] at h2
  unfold kindT at h3
  by_cases h8 : k = 8
  · subst h8
    rw [if_pos rfl, Bool.and_eq_true, beq_iff_eq] at h3
    obtain rfl : ns = [] := List.eq_nil_of_length_eq_zero (by omega)
    obtain rfl : ks = [] := List.eq_nil_of_length_eq_zero (by have := h3.1; omega)
    exact .var h3.2
  rw [if_neg h8] at h3
  by_cases hn : nm ≠ [] ∨ k < 0 ∨ 7 < k
  · rw [if_pos hn] at h3; cases h3
  rw [if_neg hn] at h3
  obtain ⟨rfl, hk0, hk7⟩ : nm = [] ∧ 0 ≤ k ∧ k ≤ 7 := by
    refine ⟨?_, by omega, by omega⟩
    by_cases h : nm = []
    · exact h
    · exact absurd (.inl h) hn
  by_cases h5 : k = 5
  · subst h5
    rw [if_pos rfl, beq_iff_eq] at h3
    exact .rec_ h1 h2 h3
  rw [if_neg h5] at h3
  by_cases h6 : k = 6
  · subst h6
    rw [if_pos rfl, Bool.and_eq_true, beq_iff_eq, beq_iff_eq] at h3
    obtain rfl : ns = [] := List.eq_nil_of_length_eq_zero h3.1
    match ks, h3.2 with
    | [a, b], _ => exact .fun_ (h2 a (by simp)) (h2 b (by simp))
  rw [if_neg h6] at h3
  by_cases h7 : k = 7
  · subst h7
    rw [if_pos rfl, Bool.and_eq_true, beq_iff_eq, decide_eq_true_eq] at h3
    obtain rfl : ns = [] := List.eq_nil_of_length_eq_zero h3.1
    match ks, h3.2 with
    | a :: b :: l, _ => exact .union h2
  rw [if_neg h7, beq_iff_eq] at h3
  obtain rfl : ns = [] := List.eq_nil_of_length_eq_zero (by omega)
  obtain rfl : ks = [] := List.eq_nil_of_length_eq_zero (by omega)
  exact .base hk0 (by omega)
theorem wp_one {k : Int} {t : Bt} (h : Good (k, t)) (hk : 1 ≤ k ∧ k ≤ 3) : WP [.tok k t] := by
  have hl : lcP (.tok k t) = 1 := by rw [lcP_tok, if_neg (by omega), if_neg (by omega)]
  have hr : rcP (.tok k t) = 1 := by rw [rcP_tok, if_neg (by omega), if_neg (by omega)]
  exact ⟨⟨⟨h, by omega, by omega⟩, fun q hq => (by cases hq), trivial⟩, ⟨_, rfl, .inl hl⟩, ⟨_, rfl, .inr hr⟩, Bal.one (.inl (by omega))⟩
theorem sg_tok5 {t : Bt} (h : t ∈ pairsL ∨ t ∈ singlesL.map (fun c => [c])) : (Sg.p (.tok 5 t)).Is := ⟨good_sign h, by omega, by omega⟩
theorem sg_name {t : Bt} (h : nameL t = true) : (Sg.p (.tok 1 t)).Is := ⟨good_name h, by omega, by omega⟩
theorem sg_word {t : Bt} (h : t ∈ wordsL) : (Sg.p (.tok 2 t)).Is := ⟨good_word h, by omega, by omega⟩
theorem wp_field {n : Bt} {p : List Pc} (hn : nameL n = true) (hp : WP p) : WP (fieldP n p) := by
  have := wp_segs (l := [.p (.tok 1 n), .p (.tok 5 [58]), .p .sp, .u p]) rfl (by
    intro s hs
    simp only [List.mem_cons, List.not_mem_nil, or_false] at hs
    rcases hs with rfl | rfl | rfl | rfl
    · exact sg_name hn
    · exact sg_tok5 (.inr (by decide))
    · trivial
    · exact hp)
  have e : flatS [.p (.tok 1 n), .p (.tok 5 [58]), .p .sp, .u p] = fieldP n p := by simp [flatS, Sg.flat, fieldP]
  rw [← e]; exact this
theorem wp_round {p : List Pc} (hp : WP p) : WP (.tok 5 [40] :: (p ++ [.tok 5 [41]])) := by
  have := wp_segs (l := [.p (.tok 5 [40]), .u p, .p (.tok 5 [41])]) rfl (by
    intro s hs
    simp only [List.mem_cons, List.not_mem_nil, or_false] at hs
    rcases hs with rfl | rfl | rfl
    · exact sg_tok5 (.inr (by decide))
    · exact hp
    · exact sg_tok5 (.inr (by decide)))
  have e : flatS [.p (.tok 5 [40]), .u p, .p (.tok 5 [41])] = .tok 5 [40] :: (p ++ [.tok 5 [41]]) := by simp [flatS, Sg.flat]
  rw [← e]; exact this
theorem wp_curly {p : List Pc} (hp : EP p) : WP (.tok 5 [123] :: (p ++ [.tok 5 [125]])) := by
  have := wp_segs (l := [.p (.tok 5 [123]), .e p, .p (.tok 5 [125])]) rfl (by
    intro s hs
    simp only [List.mem_cons, List.not_mem_nil, or_false] at hs
    rcases hs with rfl | rfl | rfl
    · exact sg_tok5 (.inr (by decide))
    · exact hp
    · exact sg_tok5 (.inr (by decide)))
  have e : flatS [.p (.tok 5 [123]), .e p, .p (.tok 5 [125])] = .tok 5 [123] :: (p ++ [.tok 5 [125]]) := by simp [flatS, Sg.flat]
  rw [← e]; exact this
theorem wp_inner {kk : List Int} {k : Int} {p : List Pc} (hp : WP p) : WP (innerP kk k p) := by
  unfold innerP
  split
  · exact wp_round hp
  · exact hp
theorem text_field (n : Bt) (p : List Pc) : textP (fieldP n p) = fieldS n (textP p) := by
  unfold fieldP fieldS
  rw [textP_cons, textP_cons, textP_cons]; rfl
theorem text_inner (kk : List Int) (k : Int) (p : List Pc) : textP (innerP kk k p) = innerS kk k (textP p) := by
  unfold innerP innerS
  split
  · rw [textP_cons, textP_append]; rfl
  · rfl
theorem zip_wp {α : Type} {f : α → List Pc → List Pc} {ns : List α} {l : List (List Pc)} (hf : ∀ n ∈ ns, ∀ p ∈ l, WP (f n p)) : ∀ x ∈ List.zipWith f ns l, WP x := by
  intro x hx
  obtain ⟨i, hi, rfl⟩ := List.getElem_of_mem hx
  rw [List.getElem_zipWith]
  exact hf _ (List.getElem_mem _) _ (List.getElem_mem _)
theorem zip_text {α : Type} {f : α → List Pc → List Pc} {g : α → Bt → Bt} (hf : ∀ n p, textP (f n p) = g n (textP p)) (ns : List α) (l : List (List Pc)) : (List.zipWith f ns l).map textP = List.zipWith g ns (l.map textP) := by
  induction ns generalizing l with
  | nil => simp
  | cons n ns ih =>
    cases l with
    | nil => simp
    | cons p l => simp [hf, ih]
theorem sumP_field : ∀ (ns : List Bt) (l : List (List Pc)), sumP (List.zipWith fieldP ns l) ≤ sumP l + 2 * l.length
  | [], l => by simp [sumP]
  | n :: ns, [] => by simp [sumP]
  | n :: ns, p :: l => by
    have := sumP_field ns l
    rw [List.zipWith_cons_cons, sumP_cons, sumP_cons, List.length_cons, fieldP, cntP_tok, cntP_tok, cntP_sp]; omega
theorem sumP_inner (kk : List Int) : ∀ (ks : List Int) (l : List (List Pc)), sumP (List.zipWith (innerP kk) ks l) ≤ sumP l + 2 * l.length
  | [], l => by simp [sumP]
  | n :: ns, [] => by simp [sumP]
  | n :: ns, p :: l => by
    have := sumP_inner kk ns l
    have h : cntP (innerP kk n p) ≤ cntP p + 2 := by
      unfold innerP
      split
      · rw [cntP_tok, cntP_append, cntP_tok, cntP_nil]; omega
      · omega
    rw [List.zipWith_cons_cons, sumP_cons, sumP_cons, List.length_cons]; omega
theorem zip_length_le {α β γ : Type} (f : α → β → γ) (a : List α) (b : List β) : (List.zipWith f a b).length ≤ b.length := by rw [List.length_zipWith]; omega
/-- What is printed of a written type, piece by piece. -/
theorem pcsT_ok : ∀ (m : Nat) (t : TyD), writtenB m t = true → WP (pcsT t) ∧ textP (pcsT t) = showT t ∧ cntP (pcsT t) + 4 ≤ 6 * cntT t
  | 0, t, h => by cases h
  | m + 1, t, h => by
    have all : ∀ ks : List TyD, (∀ t ∈ ks, writtenB m t = true) → (∀ p ∈ pcsTs ks, WP p) ∧ (pcsTs ks).map textP = showTs ks ∧ sumP (pcsTs ks) + 4 * ks.length ≤ 6 * cntTs ks := by
      intro ks hk
      induction ks with
      | nil => exact ⟨by simp [pcsTs], by simp [pcsTs, showTs], by simp [pcsTs, sumP, cntTs]⟩
      | cons x l ih =>
        obtain ⟨a1, a2, a3⟩ := pcsT_ok m x (hk x (by simp))
        obtain ⟨b1, b2, b3⟩ := ih fun t ht => hk t (by simp [ht])
        refine ⟨?_, ?_, ?_⟩
        · intro p hp
          rw [pcsTs] at hp
          rcases List.mem_cons.1 hp with rfl | hp
          · exact a1
          · exact b1 p hp
        · rw [pcsTs, showTs, List.map_cons, a2, b2]
        · rw [pcsTs, sumP_cons, cntTs, List.length_cons]; omega
    have tl : ∀ ks : List TyD, (pcsTs ks).length = ks.length := fun ks => by rw [pcsTs_map, List.length_map]
    cases type_form h with
    | @base k h0 h4 =>
      have hk : k = 0 ∨ k = 1 ∨ k = 2 ∨ k = 3 ∨ k = 4 := by omega
      rcases hk with rfl | rfl | rfl | rfl | rfl
      · exact ⟨wp_one (good_word (by decide)) (by omega), rfl, by simp [pcsT, cntP, toksP, Pc.isTok, cntT, cntTs]⟩
      · exact ⟨wp_one (good_word (by decide)) (by omega), rfl, by simp [pcsT, cntP, toksP, Pc.isTok, cntT, cntTs]⟩
      · exact ⟨wp_one (good_word (by decide)) (by omega), rfl, by simp [pcsT, cntP, toksP, Pc.isTok, cntT, cntTs]⟩
      · exact ⟨wp_one (good_word (by decide)) (by omega), rfl, by simp [pcsT, cntP, toksP, Pc.isTok, cntT, cntTs]⟩
      · exact ⟨wp_one (good_word (by decide)) (by omega), rfl, by simp [pcsT, cntP, toksP, Pc.isTok, cntT, cntTs]⟩
    | @rec_ ns ks hn hk hl =>
      obtain ⟨a1, a2, a3⟩ := all ks hk
      have e : pcsT (.mk 5 [] ns ks) = .tok 5 [123] :: (joinP commaP (List.zipWith fieldP ns (pcsTs ks)) ++ [.tok 5 [125]]) := by rw [pcsT]; rfl
      have e2 : showT (.mk 5 [] ns ks) = [123] ++ (joinS [44, 32] (List.zipWith fieldS ns (showTs ks)) ++ [125]) := by rw [showT]; rfl
      rw [e, e2]
      refine ⟨wp_curly (ep_comma _ (zip_wp fun n hnn p hp => wp_field (List.all_eq_true.1 hn n hnn) (a1 p hp))), ?_, ?_⟩
      · rw [textP_cons, textP_append, textP_join, zip_text text_field, a2]; rfl
      · have h1 := cntP_comma (List.zipWith fieldP ns (pcsTs ks))
        have h2 := sumP_field ns (pcsTs ks)
        have h3 := zip_length_le fieldP ns (pcsTs ks)
        rw [tl] at h2 h3
        rw [cntP_tok, cntP_append, cntP_tok, cntP_nil, cntT]; omega
    | @fun_ a b ha hb =>
      obtain ⟨a1, a2, a3⟩ := pcsT_ok m a ha
      obtain ⟨b1, b2, b3⟩ := pcsT_ok m b hb
      have e : pcsT (.mk 6 [] [] [a, b]) = innerP [6] a.kind (pcsT a) ++ (.sp :: .tok 5 [45, 62] :: .sp :: pcsT b) := by rw [pcsT]; simp [pcsTs]
      have e2 : showT (.mk 6 [] [] [a, b]) = innerS [6] a.kind (showT a) ++ ([32, 45, 62, 32] ++ showT b) := by rw [showT]; simp [showTs]
      rw [e, e2]
      refine ⟨?_, ?_, ?_⟩
      · have := wp_segs (l := [.u (innerP [6] a.kind (pcsT a)), .p .sp, .p (.tok 5 [45, 62]), .p .sp, .u (pcsT b)]) rfl (by
          intro s hs
          simp only [List.mem_cons, List.not_mem_nil, or_false] at hs
          rcases hs with rfl | rfl | rfl | rfl | rfl
          · exact wp_inner a1
          · trivial
          · exact sg_tok5 (.inl (by decide))
          · trivial
          · exact b1)
        simpa [flatS, Sg.flat] using this
      · rw [textP_append, text_inner, a2, textP_cons, textP_cons, textP_cons, b2]; rfl
      · have h1 := sumP_inner [6] [a.kind] [pcsT a]
        simp only [List.zipWith_cons_cons, List.zipWith_nil_left, sumP_cons, List.length_cons, List.length_nil] at h1
        rw [cntP_append, cntP_sp, cntP_tok, cntP_sp, cntT, cntTs, cntTs, cntTs]
        have : sumP [] = 0 := rfl
        omega
    | @union a b l hk =>
      obtain ⟨a1, a2, a3⟩ := all (a :: b :: l) hk
      have e : pcsT (.mk 7 [] [] (a :: b :: l)) = joinP barP (List.zipWith (innerP [6, 7]) ((a :: b :: l).map TyD.kind) (pcsTs (a :: b :: l))) := by rw [pcsT]; rfl
      have e2 : showT (.mk 7 [] [] (a :: b :: l)) = joinS [32, 124, 32] (List.zipWith (innerS [6, 7]) ((a :: b :: l).map TyD.kind) (showTs (a :: b :: l))) := by rw [showT]; rfl
      rw [e, e2]
      refine ⟨wp_bar _ (by rw [pcsTs]; simp) (zip_wp fun n hnn p hp => wp_inner (a1 p hp)), ?_, ?_⟩
      · rw [textP_join, zip_text (text_inner [6, 7]), a2]; rfl
      · have h1 := cntP_bar (List.zipWith (innerP [6, 7]) ((a :: b :: l).map TyD.kind) (pcsTs (a :: b :: l)))
        have h2 := sumP_inner [6, 7] ((a :: b :: l).map TyD.kind) (pcsTs (a :: b :: l))
        have h3 := zip_length_le (innerP [6, 7]) ((a :: b :: l).map TyD.kind) (pcsTs (a :: b :: l))
        rw [tl] at h2 h3
        rw [cntT]
        simp only [List.length_cons] at a3 h2 h3
        omega
    | @var nm hn => exact ⟨wp_one (good_name hn) (by omega), by simp [pcsT, showT, textP, Pc.text, writeT], by simp [pcsT, cntP, toksP, Pc.isTok, cntT, cntTs]⟩
/-- What an expression is: its forms. -/
inductive NodeF (m : Nat) : NoD → Prop
  | int {n li co : Int} : 0 ≤ n → n ≤ 9223372036854775807 → NodeF m (.mk 0 [] n li co [] [] [])
  | str {t : Bt} {li co : Int} : strB t = true → NodeF m (.mk 1 t 0 li co [] [] [])
  | bool {n li co : Int} : n = 0 ∨ n = 1 → NodeF m (.mk 2 [] n li co [] [] [])
  | null {li co : Int} : NodeF m (.mk 3 [] 0 li co [] [] [])
  | name {t : Bt} {li co : Int} : nameL t = true → NodeF m (.mk 4 t 0 li co [] [] [])
  | let0 {t : Bt} {li co : Int} {a b : NoD} : nameL t = true → nodeB m a = true → nodeB m b = true → NodeF m (.mk 5 t 0 li co [] [] [a, b])
  | let1 {t : Bt} {li co : Int} {x : TyD} {a b : NoD} : nameL t = true → writtenB 16 x = true → nodeB m a = true → nodeB m b = true → NodeF m (.mk 5 t 0 li co [x] [] [a, b])
  | fn1 {t : Bt} {li co : Int} {x : TyD} {a : NoD} : nameL t = true → writtenB 16 x = true → nodeB m a = true → NodeF m (.mk 6 t 0 li co [x] [] [a])
  | fn2 {t : Bt} {li co : Int} {x y : TyD} {a : NoD} : nameL t = true → writtenB 16 x = true → writtenB 16 y = true → nodeB m a = true → NodeF m (.mk 6 t 0 li co [x, y] [] [a])
  | call {li co : Int} {a b : NoD} : nodeB m a = true → nodeB m b = true → NodeF m (.mk 7 [] 0 li co [] [] [a, b])
  | rec_ {li co : Int} {ns : List Bt} {ks : List NoD} : ns.all nameL = true → (∀ x ∈ ks, nodeB m x = true) → ns.length = ks.length → NodeF m (.mk 8 [] 0 li co [] ns ks)
  | sel {t : Bt} {li co : Int} {a : NoD} : nameL t = true → nodeB m a = true → NodeF m (.mk 9 t 0 li co [] [] [a])
  | with_ {t : Bt} {li co : Int} {a b : NoD} : nameL t = true → nodeB m a = true → nodeB m b = true → NodeF m (.mk 10 t 0 li co [] [] [a, b])
  | if_ {li co : Int} {a b c : NoD} : nodeB m a = true → nodeB m b = true → nodeB m c = true → NodeF m (.mk 11 [] 0 li co [] [] [a, b, c])
  | is_ {n li co : Int} {a : NoD} : 0 ≤ n → n ≤ 5 → nodeB m a = true → NodeF m (.mk 12 [] n li co [] [] [a])
  | as_ {li co : Int} {x : TyD} {a : NoD} : writtenB 16 x = true → nodeB m a = true → NodeF m (.mk 13 [] 0 li co [x] [] [a])
  | op_ {t : Bt} {li co : Int} {a b : NoD} : t ∈ opsL → nodeB m a = true → nodeB m b = true → NodeF m (.mk 14 t 0 li co [] [] [a, b])
  | not_ {li co : Int} {a : NoD} : nodeB m a = true → NodeF m (.mk 15 [] 0 li co [] [] [a])
  | neg_ {li co : Int} {a : NoD} : nodeB m a = true → NodeF m (.mk 16 [] 0 li co [] [] [a])
  | print_ {li co : Int} {a : NoD} : nodeB m a = true → NodeF m (.mk 17 [] 0 li co [] [] [a])
  | read_ {li co : Int} : NodeF m (.mk 18 [] 0 li co [] [] [])
  | inst {t : Bt} {li co : Int} {x : TyD} {ts : List TyD} : nameL t = true → (∀ y ∈ x :: ts, writtenB 16 y = true) → NodeF m (.mk 19 t 0 li co (x :: ts) [] [])
theorem len0 {α : Type} {l : List α} (h : l.length = 0) : l = [] := List.eq_nil_of_length_eq_zero h
theorem len1 {α : Type} {l : List α} (h : l.length = 1) : ∃ a, l = [a] := by match l, h with | [a], _ => exact ⟨a, rfl⟩
theorem len2 {α : Type} {l : List α} (h : l.length = 2) : ∃ a b, l = [a, b] := by match l, h with | [a, b], _ => exact ⟨a, b, rfl⟩
theorem len3 {α : Type} {l : List α} (h : l.length = 3) : ∃ a b c, l = [a, b, c] := by match l, h with | [a, b, c], _ => exact ⟨a, b, c, rfl⟩
theorem node_form {m : Nat} {x : NoD} (h : nodeB (m + 1) x = true) : NodeF m x := by
  obtain ⟨k, text, n, li, co, ts, ns, ks⟩ := x
  have h : (decide (0 ≤ k ∧ k < 20) && ownN k text n ts.length ns.length ks.length && ns.all nameL && ts.all (writtenB 16) && ks.all (nodeB m)) = true := h
  rw [Bool.and_eq_true, Bool.and_eq_true, Bool.and_eq_true, Bool.and_eq_true, decide_eq_true_eq] at h
  obtain ⟨⟨⟨⟨hk, ho⟩, hns⟩, hts⟩, hks⟩ := h
  rw [List.all_eq_true] at hts hks
  have hk2 : k = 0 ∨ k = 1 ∨ k = 2 ∨ k = 3 ∨ k = 4 ∨ k = 5 ∨ k = 6 ∨ k = 7 ∨ k = 8 ∨ k = 9 ∨ k = 10 ∨ k = 11 ∨ k = 12 ∨ k = 13 ∨ k = 14 ∨ k = 15 ∨ k = 16 ∨ k = 17 ∨ k = 18 ∨ k = 19 := by omega
  clear hk
  unfold ownN at ho
  rw [Bool.and_eq_true, Bool.and_eq_true, Bool.and_eq_true, decide_eq_true_eq, decide_eq_true_eq] at ho
  obtain ⟨⟨⟨⟨hn0, hn1⟩, htx⟩, hlo, hhi⟩, hkd⟩ := ho
  rcases hk2 with rfl | rfl | rfl | rfl | rfl | rfl | rfl | rfl | rfl | rfl | rfl | rfl | rfl | rfl | rfl | rfl | rfl | rfl | rfl | rfl
  case inr.inr.inr.inr.inr.inr.inr.inr.inl =>
    have hkd : (ks.length == ns.length) = true := hkd
    have hhi : ts.length ≤ 0 := hhi
    have htx : (text == []) = true := htx
    have hn1 : n ≤ 0 := hn1
    rw [beq_iff_eq] at hkd htx
    obtain rfl : ts = [] := len0 (by omega)
    obtain rfl : n = 0 := by omega
    subst htx
    exact .rec_ hns hks hkd.symm
  all_goals
    simp only [hasD, Int.reduceEq, if_true, if_false, or_self, or_true, true_or, Int.reduceLT, Int.reduceNeg] at hn1 htx hlo hhi hkd
    rw [Bool.and_eq_true, beq_iff_eq, beq_iff_eq] at hkd
    obtain ⟨hnl, hkl⟩ := hkd
    obtain rfl : ns = [] := len0 hnl
    clear hnl hns
  all_goals
    simp only [textB, Int.reduceEq, if_true, if_false, Bool.false_eq_true, beq_iff_eq, List.contains_iff_mem] at htx
  · subst htx
    obtain rfl := len0 (l := ts) (by omega)
    obtain rfl := len0 (l := ks) (by omega)
    exact .int hn0 hn1
  · obtain rfl : n = 0 := by omega
    obtain rfl := len0 (l := ts) (by omega)
    obtain rfl := len0 (l := ks) (by omega)
    exact .str htx
  · subst htx
    obtain rfl := len0 (l := ts) (by omega)
    obtain rfl := len0 (l := ks) (by omega)
    exact .bool (by omega)
  · subst htx
    obtain rfl : n = 0 := by omega
    obtain rfl := len0 (l := ts) (by omega)
    obtain rfl := len0 (l := ks) (by omega)
    exact .null
  · obtain rfl : n = 0 := by omega
    obtain rfl := len0 (l := ts) (by omega)
    obtain rfl := len0 (l := ks) (by omega)
    exact .name htx
  · obtain rfl : n = 0 := by omega
    obtain ⟨a, b, rfl⟩ := len2 (l := ks) (by omega)
    rcases Nat.lt_or_ge ts.length 1 with h | h
    · obtain rfl := len0 (l := ts) (by omega)
      exact .let0 htx (hks a (by simp)) (hks b (by simp))
    · obtain ⟨x, rfl⟩ := len1 (l := ts) (by omega)
      exact .let1 htx (hts x (by simp)) (hks a (by simp)) (hks b (by simp))
  · obtain rfl : n = 0 := by omega
    obtain ⟨a, rfl⟩ := len1 (l := ks) (by omega)
    rcases Nat.lt_or_ge ts.length 2 with h | h
    · obtain ⟨x, rfl⟩ := len1 (l := ts) (by omega)
      exact .fn1 htx (hts x (by simp)) (hks a (by simp))
    · obtain ⟨x, y, rfl⟩ := len2 (l := ts) (by omega)
      exact .fn2 htx (hts x (by simp)) (hts y (by simp)) (hks a (by simp))
  · subst htx
    obtain rfl : n = 0 := by omega
    obtain rfl := len0 (l := ts) (by omega)
    obtain ⟨a, b, rfl⟩ := len2 (l := ks) (by omega)
    exact .call (hks a (by simp)) (hks b (by simp))
  · obtain rfl : n = 0 := by omega
    obtain rfl := len0 (l := ts) (by omega)
    obtain ⟨a, rfl⟩ := len1 (l := ks) (by omega)
    exact .sel htx (hks a (by simp))
  · obtain rfl : n = 0 := by omega
    obtain rfl := len0 (l := ts) (by omega)
    obtain ⟨a, b, rfl⟩ := len2 (l := ks) (by omega)
    exact .with_ htx (hks a (by simp)) (hks b (by simp))
  · subst htx
    obtain rfl : n = 0 := by omega
    obtain rfl := len0 (l := ts) (by omega)
    obtain ⟨a, b, c, rfl⟩ := len3 (l := ks) (by omega)
    exact .if_ (hks a (by simp)) (hks b (by simp)) (hks c (by simp))
  · subst htx
    obtain rfl := len0 (l := ts) (by omega)
    obtain ⟨a, rfl⟩ := len1 (l := ks) (by omega)
    exact .is_ hn0 hn1 (hks a (by simp))
  · subst htx
    obtain rfl : n = 0 := by omega
    obtain ⟨a, rfl⟩ := len1 (l := ks) (by omega)
    obtain ⟨x, rfl⟩ := len1 (l := ts) (by omega)
    exact .as_ (hts x (by simp)) (hks a (by simp))
  · obtain rfl : n = 0 := by omega
    obtain rfl := len0 (l := ts) (by omega)
    obtain ⟨a, b, rfl⟩ := len2 (l := ks) (by omega)
    exact .op_ htx (hks a (by simp)) (hks b (by simp))
  · subst htx
    obtain rfl : n = 0 := by omega
    obtain rfl := len0 (l := ts) (by omega)
    obtain ⟨a, rfl⟩ := len1 (l := ks) (by omega)
    exact .not_ (hks a (by simp))
  · subst htx
    obtain rfl : n = 0 := by omega
    obtain rfl := len0 (l := ts) (by omega)
    obtain ⟨a, rfl⟩ := len1 (l := ks) (by omega)
    exact .neg_ (hks a (by simp))
  · subst htx
    obtain rfl : n = 0 := by omega
    obtain rfl := len0 (l := ts) (by omega)
    obtain ⟨a, rfl⟩ := len1 (l := ks) (by omega)
    exact .print_ (hks a (by simp))
  · subst htx
    obtain rfl : n = 0 := by omega
    obtain rfl := len0 (l := ts) (by omega)
    obtain rfl := len0 (l := ks) (by omega)
    exact .read_
  · obtain rfl : n = 0 := by omega
    obtain rfl := len0 (l := ks) (by omega)
    match ts, hlo with
    | x :: ts, _ => exact .inst htx hts
end Go.Proofs.YtbpedjkebemhnaaGreatDoor
end
section
/- Modules in plain Lean: which of them may be printed, how, and one without places. -/
set_option linter.unusedVariables false
namespace Go.Proofs.YtbpedjkebemhnaaGreatDoor

/-- An import. -/
structure ImD where
  from_ : Bt
  names : List Bt
  line : Int
  col : Int
/-- A variable for a type. -/
structure VaD where
  name : Bt
  bound : TyD
/-- A function. -/
structure DeD where
  name : Bt
  exp : Bool
  vars : List VaD
  param : Bt
  types : List TyD
  body : NoD
  line : Int
  col : Int
/-- A module. -/
structure MoD where
  imps : List ImD
  decls : List DeD

end Go.Proofs.YtbpedjkebemhnaaGreatDoor
end
