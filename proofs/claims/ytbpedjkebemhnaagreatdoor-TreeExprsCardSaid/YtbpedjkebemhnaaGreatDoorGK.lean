/- Texts that belong together: TG, TH, TI, UA, UB, UC. -/
import Derived.Test.YtbpedjkebemhnaaGreatDoorGJ
import Derived.Test.YtbpedjkebemhnaaGreatDoorShelf
import Derived.Lib.Join
import Derived.Test.YtbpedjkebemhnaaGreatDoorGI
import Derived.Lib.ItoaLen
/- How long a written type's text may be. -/
set_option linter.unusedVariables false
namespace Go.Proofs.YtbpedjkebemhnaaGreatDoor

mutual
/-- How many types there are. -/
def cntT : TyD → Nat
  | .mk _ _ _ ks => 1 + cntTs ks
def cntTs : List TyD → Nat
  | [] => 0
  | t :: l => cntT t + cntTs l
end
def lenS (l : List Bt) : Nat := (l.map List.length).sum
theorem lenS_cons (x : Bt) (l : List Bt) : lenS (x :: l) = x.length + lenS l := by simp [lenS]
theorem joinS_len (sep : Bt) : ∀ l : List Bt, (joinS sep l).length ≤ lenS l + sep.length * l.length
  | [] => by simp [joinS]
  | [x] => by simp [joinS, lenS]
  | x :: y :: l => by
    have h := joinS_len sep (y :: l)
    rw [joinS, List.length_append, List.length_append, lenS_cons, List.length_cons, Nat.mul_succ]
    omega
theorem nameL_len {s : Bt} (h : nameL s = true) : s.length ≤ 32 := by
  rcases Nat.lt_or_ge 32 s.length with h1 | h1
  · rw [nameL_long h1] at h; cases h
  · exact h1
theorem field_len : ∀ (ns l : List Bt), (∀ n ∈ ns, n.length ≤ 32) → lenS (List.zipWith fieldS ns l) ≤ lenS l + 34 * l.length
  | [], l, _ => by simp [lenS]
  | n :: ns, [], _ => by simp [lenS]
  | n :: ns, x :: l, h => by
    have h1 := field_len ns l fun y hy => h y (List.mem_cons_of_mem _ hy)
    have h2 := h n (List.mem_cons_self ..)
    rw [List.zipWith_cons_cons, lenS_cons, lenS_cons, List.length_cons]
    have h3 : (fieldS n x).length = n.length + (2 + x.length) := by unfold fieldS; simp only [List.length_append, List.length_cons, List.length_nil]
    omega
theorem zip_len {α β γ : Type} (f : α → β → γ) : ∀ (a : List α) (b : List β), (List.zipWith f a b).length ≤ b.length
  | [], b => by simp
  | x :: a, [] => by simp
  | x :: a, y :: b => by rw [List.length_zipWith]; omega
theorem innerS_len (ks : List Int) (k : Int) (s : Bt) : (innerS ks k s).length ≤ s.length + 2 := by
  unfold innerS
  split
  · simp
  · omega
theorem inner_len (kk : List Int) : ∀ (ks : List Int) (l : List Bt), lenS (List.zipWith (innerS kk) ks l) ≤ lenS l + 2 * l.length
  | [], l => by simp [lenS]
  | k :: ks, [] => by simp [lenS]
  | k :: ks, x :: l => by
    have h1 := inner_len kk ks l
    have h2 := innerS_len kk k x
    rw [List.zipWith_cons_cons, lenS_cons, lenS_cons, List.length_cons]
    omega
theorem getD_len (l : List Bt) (i : Nat) : (l.getD i []).length ≤ lenS l := by
  induction l generalizing i with
  | nil => simp [lenS]
  | cons x l ih =>
    rw [lenS_cons]
    cases i with
    | zero => simp
    | succ i => have := ih i; simp only [List.getD_cons_succ]; omega
theorem two_len (l : List Bt) : (l.getD 0 []).length + (l.getD 1 []).length ≤ lenS l := by
  match l with
  | [] => simp [lenS]
  | [x] => simp [lenS]
  | x :: y :: l => simp [lenS]
theorem showTs_length (l : List TyD) : (showTs l).length = l.length := by rw [showTs_map, List.length_map]
mutual
theorem show_len : ∀ (t : TyD) (m : Nat), writtenB m t = true → (showT t).length + 44 ≤ 80 * cntT t
  | .mk k nm ns ks, m, h => by
    obtain ⟨m, rfl⟩ : ∃ q, m = q + 1 := by
      cases m with
      | zero => cases h
      | succ q => exact ⟨q, rfl⟩
    have h : (ns.all nameL && ks.all (writtenB m) && kindT k nm ns.length ks.length) = true := h
    rw [Bool.and_eq_true, Bool.and_eq_true] at h
    obtain ⟨⟨h1, h2⟩, h3⟩ := h
    have hn : ∀ n ∈ ns, n.length ≤ 32 := fun n hn => nameL_len (List.all_eq_true.1 h1 n hn)
    have hk := shows_len ks m h2
    have hl := showTs_length ks
    rw [showT, cntT]
    split
    · simp; omega
    split
    · simp; omega
    split
    · simp; omega
    split
    · simp; omega
    split
    · simp; omega
    split
    · have a1 := joinS_len [44, 32] (List.zipWith fieldS ns (showTs ks))
      have a2 := field_len ns (showTs ks) hn
      have a3 := zip_len fieldS ns (showTs ks)
      simp only [List.length_append, List.length_cons, List.length_nil] at a1 ⊢
      omega
    split
    · have a1 := innerS_len [6] ((ks.map TyD.kind).getD 0 0) ((showTs ks).getD 0 [])
      have a2 := two_len (showTs ks)
      simp only [List.length_append, List.length_cons, List.length_nil]
      omega
    split
    · have a1 := joinS_len [32, 124, 32] (List.zipWith (innerS [6, 7]) (ks.map TyD.kind) (showTs ks))
      have a2 := inner_len [6, 7] (ks.map TyD.kind) (showTs ks)
      have a3 := zip_len (innerS [6, 7]) (ks.map TyD.kind) (showTs ks)
      simp only [List.length_append, List.length_cons, List.length_nil] at a1 ⊢
      omega
    · have hnm : nm.length ≤ 32 := by
        unfold kindT at h3
        split at h3
        · rw [Bool.and_eq_true] at h3
          exact nameL_len h3.2
        · split at h3
          · cases h3
          · rename_i h4
            have : nm = [] := by
              rcases nm with _ | ⟨c, r⟩
              · rfl
              · exact absurd (.inl (by simp)) h4
            rw [this]; simp
      omega
theorem shows_len : ∀ (l : List TyD) (m : Nat), l.all (writtenB m) = true → lenS (showTs l) + 44 * l.length ≤ 80 * cntTs l
  | [], _, _ => by simp [lenS, showTs]
  | t :: l, m, h => by
    rw [List.all_cons, Bool.and_eq_true] at h
    have h1 := show_len t m h.1
    have h2 := shows_len l m h.2
    rw [showTs, lenS_cons, cntTs, List.length_cons]
    omega
end
end Go.Proofs.YtbpedjkebemhnaaGreatDoor

/- A written type as text: what is in brackets. -/
set_option linter.unusedVariables false
namespace Go.Proofs.YtbpedjkebemhnaaGreatDoor
open Go.RowKit

/-- The contract of show, of a written type of not too many. -/
def ShowC (t : TyD) : Prop := ∀ (w : World) (z : List Value) (m : Nat), TyR w w.heap.size z t → writtenB m t = true → cntT t ≤ 100000 →
  Calls Tryz.prog 37 #[.agg z.toArray] w fun e w' => e = .returned (sv (showT t)) ∧ Below w.heap.size w w'
set_option maxHeartbeats 2000000 in
theorem tinner_any (t : TyD) (hS : ShowC t) (w : World) (z : List Value) (m : Nat) (hr : TyR w w.heap.size z t) (hw : writtenB m t = true) (hc : cntT t ≤ 100000) (bq : Nat) (kk : List Int) (hk : kk.length ≤ 10) (hq : ∀ j, j < kk.length → w.cell? ⟨bq, 0 + j, none⟩ = some (.int .i64 (kk.getD j 0))) (hbq : bq < w.heap.size) :
    Calls Tryz.prog 84 #[.agg z.toArray, .slice (some ⟨bq, 0, none⟩) kk.length kk.length] w fun e w' => e = .returned (sv (innerS kk t.kind (showT t))) ∧ Below w.heap.size w w' := by
  have hlen := show_len t m hw
  obtain ⟨k, nm, ns, ks⟩ := t
  obtain ⟨A1, c1, A2, c2, xk, hz, s1, s2, r2⟩ := hr.parts
  have hb1 : Below w.heap.size w (w.alloc (.cells z.toArray 32)) := (Below.refl _ _).alloc (Nat.le_refl _) _
  have HS := hid (hS _ z m (hr.far (Nat.le_refl _) hb1) hw hc)
  have HC := hid (Tryz.slices_Contains_int bq 0 kk.length kk.length kk k (w.alloc (.cells z.toArray 32)) (Nat.le_refl _) (by omega) (fun j hj => t_keep hb1 (hq j hj) hbq))
  have HB := hid hb1
  subst hz
  have hki : (TyD.mk k nm ns ks).kind = k := rfl
  rw [hki]
  generalize showT (.mk k nm ns ks) = s at *
  generalize cntT (.mk k nm ns ks) = N at *
  rw [List.take_length] at HC
  have hsz := sv_size s
  have h1 : ¬ (9223372036854775807 < 1 + s.length) := by omega
  have h2 : ¬ (9223372036854775807 < 1 + s.length + 1) := by omega
  clear hr hw hS hb1 hq hbq s1 s2 r2 hki hlen hc
  cases hcn : kk.contains k with
  | true =>
    rw [hcn] at HC
    have HT : Hid (innerS kk k s = [40] ++ (s ++ [41])) := hid (by unfold innerS; rw [hcn]; rfl)
    clear hcn
    go_enter Tryz.func84, Tryz.ntmps84
    go_wp2_with fail
    refine HC.out.mono ?_
    rintro e w2 ⟨rfl, rfl⟩
    go_wp2_with fail
    refine HS.out.mono ?_
    rintro e w3 ⟨rfl, hb3⟩
    go_wp2_with fail
    go_ret
    refine ⟨?_, HB.out.trans (hb3.mono HB.out.size)⟩
    rw [HT.out]
    have e : (⟨#[40]⟩ : ByteArray) ++ ⟨s.toArray⟩ ++ ⟨#[41]⟩ = ⟨([40] ++ (s ++ [41])).toArray⟩ := by
      rw [show (⟨#[40]⟩ : ByteArray) = ⟨([40] : Bt).toArray⟩ from rfl, show (⟨#[41]⟩ : ByteArray) = ⟨([41] : Bt).toArray⟩ from rfl, str_append, str_append, List.append_assoc]
    exact congrArg (fun b => Ending.returned (Value.string b)) e
  | false =>
    rw [hcn] at HC
    have HT : Hid (innerS kk k s = s) := hid (by unfold innerS; rw [hcn]; rfl)
    clear hcn
    go_enter Tryz.func84, Tryz.ntmps84
    go_wp2_with fail
    refine HC.out.mono ?_
    rintro e w2 ⟨rfl, rfl⟩
    go_wp2_with fail
    refine HS.out.mono ?_
    rintro e w3 ⟨rfl, hb3⟩
    go_wp2_with fail
    go_ret
    exact ⟨by rw [HT.out]; rfl, HB.out.trans (hb3.mono HB.out.size)⟩
end Go.Proofs.YtbpedjkebemhnaaGreatDoor

/- Texts put together: the library's Join. -/
set_option linter.unusedVariables false
namespace Go.Proofs.YtbpedjkebemhnaaGreatDoor
open Go.RowKit

theorem join_joinS (sep : Bt) : ∀ l : List Bt, Lib.join l sep = joinS sep l
  | [] => rfl
  | [x] => Lib.join_one x sep
  | x :: y :: l => by
    have h := join_joinS sep (y :: l)
    rw [joinS, ← h]
    simp [Lib.join, List.intercalate]
/-- strings.Join of texts that lie in a slice. -/
theorem join_any (w : World) (v : Value) (l : List Bt) (sep : Bt) (hv : Ss w w.heap.size v l) (hn : l.length ≤ 140737488355328) (hlen : (joinS sep l).length ≤ 140737488355328) :
    Calls Tryz.prog 49 #[v, sv sep] w fun e w' => e = .returned (sv (joinS sep l)) ∧ Below w.heap.size w w' := by
  obtain ⟨A, c, rfl, hlc, hcm, hcell⟩ := hv.open_
  rcases Nat.eq_zero_or_pos l.length with h0 | h0
  · have hl : l = [] := List.length_eq_zero_iff.1 h0
    subst hl
    refine (Tryz.strings_Join_none A c ⟨sep.toArray⟩ w).mono ?_
    rintro e w2 ⟨rfl, rfl⟩
    exact ⟨rfl, Below.refl _ _⟩
  · obtain ⟨b, off, rfl, hb, hc⟩ := hcell h0
    have hmap : (l.map fun x : Bt => (⟨x.toArray⟩ : ByteArray)).map (·.data.toList) = l := by
      rw [List.map_map]
      conv => rhs; rw [← List.map_id l]
      apply List.map_congr_left
      intro x _
      simp
    have h := Tryz.strings_Join b off c (l.map fun x : Bt => ⟨x.toArray⟩) ⟨sep.toArray⟩ w (fun j x hx => by
      rw [List.getElem?_map] at hx
      rcases hj : l[j]? with _ | y
      · rw [hj] at hx; cases hx
      · rw [hj] at hx
        injection hx with hx
        obtain ⟨hjl, rfl⟩ := List.getElem?_eq_some_iff.1 hj
        rw [← hx]
        exact hc j hjl) hb (by rw [List.length_map]; exact hn) (by rw [List.length_map]; exact hlc) (by rw [hmap]; show (Lib.join l sep.toArray.toList).length ≤ _; rw [List.toList_toArray, join_joinS]; exact hlen)
    rw [hmap, List.length_map] at h
    refine h.mono ?_
    rintro e w2 ⟨rfl, hb2⟩
    refine ⟨?_, hb2⟩
    show Ending.returned (Value.string ⟨(Lib.join l sep.toArray.toList).toArray⟩) = _
    rw [List.toList_toArray, join_joinS]
end Go.Proofs.YtbpedjkebemhnaaGreatDoor

/- How many types and nodes there are, counted down from so many. -/
set_option linter.unusedVariables false
namespace Go.Proofs.YtbpedjkebemhnaaGreatDoor

mutual
/-- Types, counted down. -/
def heavyB : TyD → Nat → Nat
  | .mk _ _ ns ks, m => if m < ks.length ∨ m < ns.length then 0 else heaviesB ks (m - 1)
def heaviesB : List TyD → Nat → Nat
  | [], m => m
  | t :: l, m => if m = 0 then 0 else heaviesB l (heavyB t m)
end
theorem heavies_zero (l : List TyD) : heaviesB l 0 = 0 := by
  cases l with
  | nil => simp [heaviesB]
  | cons t l => simp [heaviesB]
theorem heavies_cons {t : TyD} {l : List TyD} {m : Nat} (h : 0 < m) : heaviesB (t :: l) m = heaviesB l (heavyB t m) := by
  rw [heaviesB, if_neg (by omega)]
mutual
theorem heavy_cnt : ∀ (t : TyD) (m : Nat), 0 < heavyB t m → cntT t + heavyB t m ≤ m
  | .mk k nm ns ks, m, h => by
    rw [heavyB] at h ⊢
    split at h
    · omega
    · rename_i h1
      rw [if_neg h1, cntT]
      have := heavies_cnt ks (m - 1) h
      omega
theorem heavies_cnt : ∀ (l : List TyD) (m : Nat), 0 < heaviesB l m → cntTs l + heaviesB l m ≤ m
  | [], m, h => by simp [heaviesB, cntTs]
  | t :: l, m, h => by
    rcases Nat.eq_zero_or_pos m with rfl | hm
    · rw [heavies_zero] at h; omega
    · rw [heavies_cons hm] at h ⊢
      have h1 := heavies_cnt l _ h
      have h2 := heavy_cnt t m (by omega)
      rw [cntTs]
      omega
end
theorem heavy_le (t : TyD) (m : Nat) : heavyB t m ≤ m := by
  rcases Nat.eq_zero_or_pos (heavyB t m) with h | h
  · omega
  · have := heavy_cnt t m h; omega
theorem cnt_mem : ∀ {l : List TyD} {t : TyD}, t ∈ l → cntT t ≤ cntTs l
  | [], _, h => by cases h
  | x :: l, t, h => by
    rw [cntTs]
    rcases List.mem_cons.1 h with rfl | h
    · omega
    · have := cnt_mem h; omega
theorem cnt_pos (t : TyD) : 0 < cntT t := by cases t; rw [cntT]; omega
theorem cnts_len : ∀ l : List TyD, l.length ≤ cntTs l
  | [] => by simp
  | t :: l => by have := cnts_len l; have := cnt_pos t; rw [cntTs, List.length_cons]; omega
mutual
/-- How many nodes and types there are. -/
def cntN : NoD → Nat
  | .mk _ _ _ _ _ ts _ ks => 1 + cntTs ts + cntNs ks
def cntNs : List NoD → Nat
  | [] => 0
  | t :: l => cntN t + cntNs l
end
theorem cntN_mem : ∀ {l : List NoD} {t : NoD}, t ∈ l → cntN t ≤ cntNs l
  | [], _, h => by cases h
  | x :: l, t, h => by
    rw [cntNs]
    rcases List.mem_cons.1 h with rfl | h
    · omega
    · have := cntN_mem h; omega
theorem cntN_pos (t : NoD) : 0 < cntN t := by cases t; rw [cntN]; omega
theorem cntNs_len : ∀ l : List NoD, l.length ≤ cntNs l
  | [] => by simp
  | t :: l => by have := cntNs_len l; have := cntN_pos t; rw [cntNs, List.length_cons]; omega
mutual
/-- Nodes and types, counted down. -/
def weightB : NoD → Nat → Nat
  | .mk _ text _ _ _ ts ns ks, m => if m < ks.length ∨ m < ts.length ∨ m < ns.length ∨ 5000 < text.length then 0 else weightsB ks (heaviesB ts (m - 1))
def weightsB : List NoD → Nat → Nat
  | [], m => m
  | t :: l, m => if m = 0 then 0 else weightsB l (weightB t m)
end
theorem weights_zero (l : List NoD) : weightsB l 0 = 0 := by
  cases l with
  | nil => simp [weightsB]
  | cons t l => simp [weightsB]
theorem weights_cons {t : NoD} {l : List NoD} {m : Nat} (h : 0 < m) : weightsB (t :: l) m = weightsB l (weightB t m) := by
  rw [weightsB, if_neg (by omega)]
mutual
theorem weight_cnt : ∀ (t : NoD) (m : Nat), 0 < weightB t m → cntN t + weightB t m ≤ m
  | .mk k text n li co ts ns ks, m, h => by
    rw [weightB] at h ⊢
    split at h
    · omega
    · rename_i h1
      rw [if_neg h1, cntN]
      have h2 := weights_cnt ks _ h
      have h3 := heavies_cnt ts (m - 1) (by omega)
      omega
theorem weights_cnt : ∀ (l : List NoD) (m : Nat), 0 < weightsB l m → cntNs l + weightsB l m ≤ m
  | [], m, h => by simp [weightsB, cntNs]
  | t :: l, m, h => by
    rcases Nat.eq_zero_or_pos m with rfl | hm
    · rw [weights_zero] at h; omega
    · rw [weights_cons hm] at h ⊢
      have h1 := weights_cnt l _ h
      have h2 := weight_cnt t m (by omega)
      rw [cntNs]
      omega
end
theorem weight_le (t : NoD) (m : Nat) : weightB t m ≤ m := by
  rcases Nat.eq_zero_or_pos (weightB t m) with h | h
  · omega
  · have := weight_cnt t m h; omega
end Go.Proofs.YtbpedjkebemhnaaGreatDoor

/- How long a written expression's text may be. -/
set_option linter.unusedVariables false
namespace Go.Proofs.YtbpedjkebemhnaaGreatDoor

theorem ite_p {α : Type} {c : Prop} [Decidable c] {P : α → Prop} {a b : α} (ha : P a) (hb : P b) : P (if c then a else b) := by
  by_cases h : c
  · rw [if_pos h]; exact ha
  · rw [if_neg h]; exact hb
theorem op_len {s : Bt} (h : opsL.contains s = true) : s.length ≤ 3 := by
  have h1 : s ∈ opsL := by simpa using h
  have h2 : ∀ x ∈ opsL, x.length ≤ 3 := by decide
  exact h2 s h1
theorem text_len {k : Int} {s : Bt} {b : Bool} (h : textB k s b = true) : s.length ≤ 256 := by
  unfold textB at h
  split at h
  · have := nameL_len h; omega
  split at h
  · unfold strB at h
    rw [Bool.and_eq_true, decide_eq_true_eq] at h
    exact h.1
  split at h
  · have := op_len h; omega
  · have : s = [] := by simpa using h
    rw [this]; simp
theorem quote_len (s : Bt) : (quoteW s).length ≤ 2 * s.length + 2 := by
  have h1 := esc_len s
  have h2 := escN_le s
  unfold quoteW
  rw [List.length_cons, List.length_append]
  simp only [List.length_cons, List.length_nil]
  omega
theorem note_two (ts : List TyD) (m : Nat) (h : ts.all (writtenB m) = true) : (noteS ts 0).length + (noteS ts 1).length ≤ 80 * cntTs ts := by
  have h1 := shows_len ts m h
  match ts, h1 with
  | [], _ => simp [noteS]
  | [t], h1 =>
    simp [noteS, showTs, lenS] at h1 ⊢
    omega
  | t :: u :: l, h1 =>
    simp [noteS, showTs, lenS] at h1 ⊢
    omega
theorem tags_len (i : Nat) : (tagsL.getD i []).length ≤ 28 := by
  have := getD_len tagsL i
  have h : lenS tagsL = 28 := by decide
  omega
theorem cat_len : ∀ l : List Bt, (cat l).length = lenS l
  | [] => rfl
  | x :: l => by
    have := cat_len l
    rw [lenS_cons, ← this]
    simp [cat]
theorem three_len (l : List Bt) : (l.getD 0 []).length + (l.getD 1 []).length + (l.getD 2 []).length ≤ lenS l := by
  match l with
  | [] => simp [lenS]
  | [x] => simp [lenS]
  | [x, y] => simp [lenS]
  | x :: y :: z :: l => simp [lenS]; omega
theorem exprSs_length (l : List NoD) : (exprSs l).length = l.length := by rw [exprSs_map, List.length_map]
theorem In64.itoa {n : Int} (h : 0 ≤ n ∧ n ≤ 9223372036854775807) : (Lib.itoa n).length ≤ 40 := by
  have := Lib.itoa_length_le n (by omega) (by omega)
  omega
theorem node_len (k : Int) (text : Bt) (n : Int) (ts : List TyD) (ns : List Bt) (s : List Bt) (m : Nat) (ht : text.length ≤ 256) (hn : 0 ≤ n ∧ n ≤ 9223372036854775807) (hts : ts.all (writtenB m) = true) (hns : ∀ x ∈ ns, x.length ≤ 32) :
    (nodeS k text n ts ns s).length + 44 ≤ 700 + 80 * cntTs ts + (lenS s + 36 * s.length) := by
  have a1 := note_two ts m hts
  have a2 := shows_len ts m hts
  have a3 := three_len s
  have a4 := tags_len n.toNat
  have a5 := quote_len text
  have a6 := joinS_len [44, 32] (ts.map showT)
  have a7 := joinS_len [44, 32] (List.zipWith fieldS ns s)
  have a8 := field_len ns s hns
  have a9 := zip_len fieldS ns s
  have a10 := getD_len (ts.map showT) 0
  have a11 := In64.itoa hn
  rw [showTs_map] at a2
  rw [List.length_map] at a6
  simp only [List.length_cons, List.length_nil] at a6 a7
  unfold nodeS simpleS
  generalize Lib.itoa n = it at *
  repeat' (refine ite_p (P := fun l : Bt => l.length + 44 ≤ 700 + 80 * cntTs ts + (lenS s + 36 * s.length)) ?_ ?_)
  all_goals first
    | omega
    | (rw [cat_len]; simp only [lenS, List.map_cons, List.map_nil, List.sum_cons, List.sum_nil, List.length_cons, List.length_nil]; simp only [lenS] at *; omega)
    | (simp only [List.length_cons, List.length_nil]; omega)
theorem own_text {k : Int} {text : Bt} {n : Int} {a b c : Nat} (h : ownN k text n a b c = true) : text.length ≤ 256 ∧ 0 ≤ n ∧ n ≤ 9223372036854775807 := by
  unfold ownN at h
  rw [Bool.and_eq_true, Bool.and_eq_true, Bool.and_eq_true, decide_eq_true_eq] at h
  refine ⟨text_len h.1.1.2, h.1.1.1.1, ?_⟩
  have h1 := h.1.1.1.2
  have h2 : (hasD k).most ≤ 9223372036854775807 := by
    show (fun h : HasD => h.most ≤ 9223372036854775807) (hasD k)
    unfold hasD
    repeat' (refine ite_p (P := fun h : HasD => h.most ≤ 9223372036854775807) ?_ ?_)
    all_goals (show (_ : Int) ≤ _; decide)
  omega
mutual
theorem expr_len : ∀ (x : NoD) (m : Nat), nodeB m x = true → (exprS x).length + 44 ≤ 700 * cntN x
  | .mk k text n li co ts ns ks, m, h => by
    obtain ⟨m, rfl⟩ : ∃ q, m = q + 1 := by
      cases m with
      | zero => cases h
      | succ q => exact ⟨q, rfl⟩
    have h : (decide (0 ≤ k ∧ k < 20) && ownN k text n ts.length ns.length ks.length && ns.all nameL && ts.all (writtenB 16) && ks.all (nodeB m)) = true := h
    rw [Bool.and_eq_true, Bool.and_eq_true, Bool.and_eq_true, Bool.and_eq_true] at h
    obtain ⟨⟨⟨⟨h1, h2⟩, h3⟩, h4⟩, h5⟩ := h
    obtain ⟨o1, o2⟩ := own_text h2
    have hk := exprs_len ks m h5
    have hl := exprSs_length ks
    have hh := node_len k text n ts ns (exprSs ks) 16 o1 o2 h4 (fun x hx => nameL_len (List.all_eq_true.1 h3 x hx))
    rw [exprS, cntN]
    omega
theorem exprs_len : ∀ (l : List NoD) (m : Nat), l.all (nodeB m) = true → lenS (exprSs l) + 44 * l.length ≤ 700 * cntNs l
  | [], _, _ => by simp [lenS, exprSs]
  | t :: l, m, h => by
    rw [List.all_cons, Bool.and_eq_true] at h
    have h1 := expr_len t m h.1
    have h2 := exprs_len l m h.2
    rw [exprSs, lenS_cons, cntNs, List.length_cons]
    omega
end
end Go.Proofs.YtbpedjkebemhnaaGreatDoor

/- Texts put together one by one. -/
set_option linter.unusedVariables false
namespace Go.Proofs.YtbpedjkebemhnaaGreatDoor

theorem joinS_snoc (sep : Bt) : ∀ (l : List Bt) (x : Bt), l ≠ [] → joinS sep (l ++ [x]) = joinS sep l ++ (sep ++ x)
  | [], x, h => absurd rfl h
  | [y], x, _ => rfl
  | y :: z :: l, x, _ => by
    have h := joinS_snoc sep (z :: l) x (by simp)
    show y ++ (sep ++ joinS sep (z :: l ++ [x])) = (y ++ (sep ++ joinS sep (z :: l))) ++ (sep ++ x)
    rw [h]
    simp
theorem join_first (sep : Bt) {l : List Bt} (h : 0 < l.length) : joinS sep (l.take 1) = l[0] := by
  match l, h with
  | x :: l, _ => simp [joinS]
theorem join_next (sep : Bt) {l : List Bt} {i : Nat} (h : i < l.length) (h0 : 0 < i) : joinS sep (l.take (i + 1)) = joinS sep (l.take i) ++ (sep ++ l[i]) := by
  rw [List.take_succ_eq_append_getElem h, joinS_snoc]
  intro h1
  have := congrArg List.length h1
  rw [List.length_take, List.length_nil] at this
  omega
theorem joinS_le (sep : Bt) (l : List Bt) (i : Nat) : (joinS sep (l.take i)).length ≤ (joinS sep l).length := by
  induction h : l.length - i generalizing i with
  | zero => rw [List.take_of_length_le (by omega)]; omega
  | succ n ih =>
    have hi : i < l.length := by omega
    have h1 := ih (i + 1) (by omega)
    rcases Nat.eq_zero_or_pos i with rfl | h0
    · rw [List.take_zero]; simp [joinS]
    · rw [join_next sep hi h0, List.length_append] at h1
      omega
/-- The kinds that are in brackets. -/
def brK : Nat → List Int
  | 0 => []
  | 1 => [6]
  | _ => [6, 7]
theorem innerS_nil (k : Int) (s : Bt) : innerS [] k s = s := rfl
end Go.Proofs.YtbpedjkebemhnaaGreatDoor
