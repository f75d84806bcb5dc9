/- The reference's reader of bytes: what it has, what it gives; once it is bad, it stays so. -/
import Derived.Test.YtpnggkkfoipfhaaCS
set_option linter.unusedVariables false
namespace Go.Proofs.Ytpnggkkfoipfhaa
open Go.RowKit

/-- The reader's block: the bytes that are left, and whether they are none of these. -/
def RsAt (w : World) (bk B : Nat) (l : Bt) (bad : Bool) : Prop := B ≤ bk ∧ l.length ≤ 1048576 ∧ ∃ v, w.heap[bk]? = some (.cells #[v, .bool bad] 74 (0, 0)) ∧ Bs w B v l
/-- A reader with bytes that are left, or a bad one. -/
def RsO (w : World) (bk B : Nat) : Option Bt → Prop
  | some l => RsAt w bk B l false
  | none => ∃ l, RsAt w bk B l true
theorem RsAt.lt {w : World} {bk B : Nat} {l : Bt} {b : Bool} (h : RsAt w bk B l b) : bk < w.heap.size := by
  obtain ⟨_, _, v, h, _⟩ := h
  exact block_lt h
theorem RsO.lt {w : World} {bk B : Nat} {σ : Option Bt} (h : RsO w bk B σ) : bk < w.heap.size := by
  cases σ with
  | some l => exact RsAt.lt h
  | none => obtain ⟨l, h⟩ := h; exact h.lt
theorem RsO.base {w : World} {bk B : Nat} {σ : Option Bt} (h : RsO w bk B σ) : B ≤ bk := by
  cases σ with
  | some l => exact h.1
  | none => obtain ⟨l, h⟩ := h; exact h.1
theorem RsAt.turn {G : Nat → Prop} {w w' : World} {bk B : Nat} {l : Bt} {b : Bool} (h : RsAt w bk B l b) (t : Turn G w w') (hk : ¬ G bk) (hB : ∀ k, k < B → ¬ G k) : RsAt w' bk B l b := by
  have hlt := h.lt
  obtain ⟨h1, h2, v, h3, h4⟩ := h
  exact ⟨h1, h2, v, block_turn h3 t hk, h4.turn (by omega) t hB⟩
theorem RsO.turn {G : Nat → Prop} {w w' : World} {bk B : Nat} {σ : Option Bt} (h : RsO w bk B σ) (t : Turn G w w') (hk : ¬ G bk) (hB : ∀ k, k < B → ¬ G k) : RsO w' bk B σ := by
  cases σ with
  | some l => exact RsAt.turn h t hk hB
  | none => obtain ⟨l, h⟩ := h; exact ⟨l, h.turn t hk hB⟩
theorem RsO.below {w w' : World} {bk B : Nat} {σ : Option Bt} (h : RsO w bk B σ) (hb : Below w.heap.size w w') : RsO w' bk B σ :=
  h.turn (Turn.of_below (F := fun _ => False) hb) id (fun _ _ => id)
/-- What one reading gives: a value in memory that is new, or a nought and a bad reader. -/
def SobF {α : Type} (F : Nat → Prop) (P : World → Value → α → Prop) (Z : Value → Prop) (bk B : Nat) (w : World) (q : Option (α × Bt)) (v : Value) (w' : World) : Prop :=
  Turn F w w' ∧ match q with
    | some (x, r) => (∀ w'', Turn (fun k => k < w.heap.size) w' w'' → P w'' v x) ∧ RsAt w' bk B r false
    | none => Z v ∧ ∃ l, RsAt w' bk B l true
abbrev SobR {α : Type} (P : World → Value → α → Prop) (Z : Value → Prop) (bk B : Nat) (w : World) (q : Option (α × Bt)) (v : Value) (w' : World) : Prop := SobF (fun k => k = bk) P Z bk B w q v w'
def Sob {α : Type} (P : World → Value → α → Prop) (Z : Value → Prop) (bk B : Nat) (w : World) (q : Option (α × Bt)) (e : Ending) (w' : World) : Prop := ∃ v, e = .returned v ∧ SobR P Z bk B w q v w'
section
variable {α : Type} {F : Nat → Prop} {P : World → Value → α → Prop} {Z : Value → Prop} {bk B : Nat} {w w' : World} {q : Option (α × Bt)} {v : Value}
theorem SobF.rs (h : SobF F P Z bk B w q v w') : RsO w' bk B (q.map (·.2)) := by
  rcases q with _ | ⟨x, r⟩
  · exact h.2.2
  · exact h.2.2
theorem SobF.some_ {x : α} {r : Bt} (h : SobF F P Z bk B w q v w') (hq : q = some (x, r)) : (∀ w'', Turn (fun k => k < w.heap.size) w' w'' → P w'' v x) ∧ RsAt w' bk B r false := by
  subst hq; exact h.2
theorem SobF.none_ (h : SobF F P Z bk B w q v w') (hq : q = none) : Z v ∧ ∃ l, RsAt w' bk B l true := by
  subst hq; exact h.2
/-- What a value looks like in either case. -/
theorem SobF.shape {S : Prop} (h : SobF F P Z bk B w q v w') (hP : ∀ w x, P w v x → S) (hZ : Z v → S) : S := by
  rcases q with _ | ⟨x, r⟩
  · exact hZ h.2.1
  · exact hP _ _ (h.2.1 w' (Turn.refl _ _))
theorem SobF.good {x : α} {r : Bt} (hq : q = some (x, r)) (t : Turn F w w') (hP : ∀ w'', Turn (fun k => k < w.heap.size) w' w'' → P w'' v x) (hR : RsAt w' bk B r false) : SobF F P Z bk B w q v w' := by
  subst hq; exact ⟨t, hP, hR⟩
theorem SobF.bad (hq : q = none) (t : Turn F w w') (hZ : Z v) {l : Bt} (hR : RsAt w' bk B l true) : SobF F P Z bk B w q v w' := by
  subst hq; exact ⟨t, hZ, l, hR⟩
end
theorem RsAt.parts {w : World} {bk B : Nat} {l : Bt} {b : Bool} (h : RsAt w bk B l b) : ∃ A c, l.length ≤ c ∧ c ≤ 2 ^ 63 - 1 ∧ l.length ≤ 1048576 ∧ B ≤ bk ∧ Bs w B (.slice A l.length c) l ∧ w.heap[bk]? = some (.cells #[.slice A l.length c, .bool b] 74 (0, 0)) ∧
    w.cell? ⟨bk, 0, none⟩ = some (.slice A l.length c) ∧ w.cell? ⟨bk, 1, none⟩ = some (.bool b) ∧ w.frozen? ⟨bk, 0, none⟩ = false ∧ w.frozen? ⟨bk, 1, none⟩ = false := by
  obtain ⟨hB, hL, v, hb, hv⟩ := h
  have hv' := hv
  obtain ⟨A, c, rfl, hn, hc, _⟩ := hv'.open_
  unfold maxLen at hc
  exact ⟨A, c, hn, hc, hL, hB, hv, hb, by simp [World.cell?, hb], by simp [World.cell?, hb], by simp [World.frozen?, hb], by simp [World.frozen?, hb]⟩
/-- Bytes that are left, and whether the reader is bad: in either case. -/
theorem RsO.open_ {w : World} {bk B : Nat} {σ : Option Bt} (h : RsO w bk B σ) : ∃ l b, RsAt w bk B l b ∧ ((b = false ∧ σ = some l) ∨ (b = true ∧ σ = none)) := by
  cases σ with
  | some l => exact ⟨l, false, h, .inl ⟨rfl, rfl⟩⟩
  | none => obtain ⟨l, h⟩ := h; exact ⟨l, true, h, .inr ⟨rfl, rfl⟩⟩
/-- The reader is told that it is bad. -/
theorem RsAt.spoil {w : World} {bk B : Nat} {l : Bt} {b : Bool} (h : RsAt w bk B l b) : RsAt (w.setCell ⟨bk, 1, none⟩ (.bool true)) bk B l true := by
  have hlt := h.lt
  obtain ⟨hB, hL, v, hb, hv⟩ := h
  exact ⟨hB, hL, v, heap_setCell_same _ bk 1 _ _ _ hb, Bs.turn hv (by omega) (turn_set _ bk 1 _) (fun j hj e => by omega)⟩
/-- The reader goes on behind the first k bytes. -/
theorem RsAt.move {w : World} {bk B : Nat} {l : Bt} {b : Bool} (h : RsAt w bk B l b) {k : Nat} {v : Value} (hv : Bs w B v (l.drop k)) : RsAt (w.setCell ⟨bk, 0, none⟩ v) bk B (l.drop k) b := by
  have hlt := h.lt
  obtain ⟨hB, hL, v0, hb, _⟩ := h
  exact ⟨hB, by rw [List.length_drop]; omega, v, heap_setCell_same _ bk 0 _ _ _ hb, Bs.turn hv (by omega) (turn_set _ bk 0 _) (fun j hj e => by omega)⟩
set_option maxHeartbeats 1000000 in
theorem sonum_any (w : World) (bk B : Nat) (σ : Option Bt) (hR : RsO w bk B σ) :
    Calls Try.prog 31 #[.pointer (some ⟨bk, 0, none⟩)] w (Sob (fun _ v x => v = .int .i64 x) (fun v => v = .int .i64 0) bk B w (σ.bind numD)) := by
  obtain ⟨l, b, hR, hσ⟩ := hR.open_
  have hlt := hR.lt
  have HR := hid hR
  obtain ⟨A, c, hn, hc, hL, hB, hbs, hb, d1, d2, z1, z2⟩ := hR.parts
  have HG := hid (refget_any _ l w (hbs.more (by omega)))
  have HBS := hid hbs
  clear hR hbs hb
  rcases getV_sign l with h0 | ⟨k, hk, hk0, hkl⟩
  · have hq : σ.bind numD = none := by
      rcases hσ with ⟨_, rfl⟩ | ⟨_, rfl⟩
      · show numD l = none
        unfold numD; rw [if_pos h0]
      · rfl
    rw [hq]
    generalize (getV l).1 = N at *
    generalize (getV l).2 = K at *
    subst h0
    clear hσ
    go_enter Try.func31, Try.ntmps31
    go_wp2_with fail
    refine HG.out.mono ?_
    rintro e w2 ⟨rfl, rfl⟩
    go_wp2_with fail
    go_ret
    exact ⟨_, rfl, SobF.bad rfl (turn_set _ bk 1 _) rfl HR.out.spoil⟩
  · have hK : ((k : Int) == 0) = false := by simp; omega
    obtain ⟨A', hA', hrun⟩ := HBS.out.from_ hkl
    have HD := hid hA'
    clear hA'
    rcases hσ with ⟨rfl, rfl⟩ | ⟨rfl, rfl⟩
    · have hq : (some l).bind numD = some ((getV l).1, l.drop k) := by
        show numD l = _
        unfold numD; rw [if_neg (by omega), hk]; rfl
      rw [hq]
      generalize (getV l).1 = N at *
      generalize (getV l).2 = K at *
      subst hk
      go_enter Try.func31, Try.ntmps31
      go_wp2_with fail
      refine HG.out.mono ?_
      rintro e w2 ⟨rfl, rfl⟩
      go_wp2_with fail
      go_ret
      exact ⟨_, rfl, SobF.good rfl (turn_set _ bk 0 _) (fun _ _ => rfl) (HR.out.move HD.out)⟩
    · generalize (getV l).1 = N at *
      generalize (getV l).2 = K at *
      subst hk
      go_enter Try.func31, Try.ntmps31
      go_wp2_with fail
      refine HG.out.mono ?_
      rintro e w2 ⟨rfl, rfl⟩
      go_wp2_with fail
      go_ret
      exact ⟨_, rfl, SobF.bad rfl (turn_set _ bk 1 _) rfl HR.out.spoil⟩
set_option maxHeartbeats 1000000 in
theorem somany_any (w : World) (bk B : Nat) (σ : Option Bt) (hR : RsO w bk B σ) :
    Calls Try.prog 34 #[.pointer (some ⟨bk, 0, none⟩)] w (Sob (fun _ v (x : Nat) => v = .int .i64 (x : Int)) (fun v => v = .int .i64 0) bk B w (σ.bind manyD)) := by
  have HN := hid (sonum_any w bk B σ hR)
  clear hR
  go_enter Try.func34, Try.ntmps34
  go_wp2_with fail
  refine HN.out.mono ?_
  rintro e w2 ⟨v2, rfl, h2⟩
  rcases hq : σ.bind numD with _ | ⟨N, r⟩
  · have hm : σ.bind manyD = none := by
      cases σ with
      | none => rfl
      | some l =>
        have hq : numD l = none := hq
        show manyD l = none
        unfold manyD; rw [hq]
    obtain ⟨rfl, l, hr2⟩ := h2.none_ hq
    have HT := hid h2.1
    have HR2 := hid hr2
    have HM := hid hm
    obtain ⟨A, c, hn, hc, hL, hB, hbs, hb, d1, d2, z1, z2⟩ := hr2.parts
    have hln : decide ((l.length : Int) < 0) = false := by simp
    clear hr2 hbs hb hq hm h2
    go_wp2_with fail
    go_ret
    exact ⟨_, rfl, SobF.bad HM.out HT.out rfl HR2.out⟩
  · obtain ⟨hv2, hr2⟩ := h2.some_ hq
    obtain rfl := hv2 w2 (Turn.refl _ _)
    have hm : σ.bind manyD = if 0 ≤ N ∧ N ≤ (r.length : Int) then some (N.toNat, r) else none := by
      cases σ with
      | none => cases hq
      | some l =>
        have hq : numD l = some (N, r) := hq
        show manyD l = _
        unfold manyD; rw [hq]
    have HT := hid h2.1
    have HR2 := hid hr2
    have HM := hid hm
    obtain ⟨A, c, hn, hc, hL, hB, hbs, hb, d1, d2, z1, z2⟩ := hr2.parts
    clear hr2 hbs hb hq hm h2 hv2
    by_cases h1 : N < 0
    · have g1 : decide (N < 0) = true := by simpa using h1
      go_wp2_with fail
      go_ret
      exact ⟨_, rfl, SobF.bad (by rw [HM.out, if_neg (fun h => absurd h.1 (by omega))]) (turn_same HT.out (turn_set _ bk 1 _)) rfl HR2.out.spoil⟩
    have g1 : decide (N < 0) = false := by simpa using h1
    by_cases h2 : (r.length : Int) < N
    · have g2 : decide ((r.length : Int) < N) = true := by simpa using h2
      go_wp2_with fail
      go_ret
      exact ⟨_, rfl, SobF.bad (by rw [HM.out, if_neg (fun h => absurd h.2 (by omega))]) (turn_same HT.out (turn_set _ bk 1 _)) rfl HR2.out.spoil⟩
    have g2 : decide ((r.length : Int) < N) = false := by simpa using h2
    have HNN := hid h1
    go_wp2_with fail
    go_ret
    exact ⟨_, rfl, SobF.good (x := N.toNat) (r := r) (by rw [HM.out, if_pos ⟨by omega, by omega⟩]) HT.out (fun _ _ => (congrArg (Value.int .i64) (Int.toNat_of_nonneg (by have := HNN.out; omega))).symm) HR2.out⟩
set_option maxHeartbeats 1000000 in
theorem sotext_any (w : World) (bk B : Nat) (σ : Option Bt) (hR : RsO w bk B σ) :
    Calls Try.prog 60 #[.pointer (some ⟨bk, 0, none⟩)] w (Sob (fun _ v x => v = sv x) (fun v => v = sv []) bk B w (σ.bind textD)) := by
  have HN := hid (somany_any w bk B σ hR)
  clear hR
  go_enter Try.func60, Try.ntmps60
  go_wp2_with fail
  refine HN.out.mono ?_
  rintro e w2 ⟨v2, rfl, h2⟩
  obtain ⟨N, l, b, rfl, hNl, hr2, hfin⟩ : ∃ (N : Nat) (l : Bt) (b : Bool), v2 = .int .i64 (N : Int) ∧ N ≤ l.length ∧ RsAt w2 bk B l b ∧ ((b = false ∧ σ.bind textD = some (l.take N, l.drop N)) ∨ (b = true ∧ N = 0 ∧ σ.bind textD = none)) := by
    rcases hq : σ.bind manyD with _ | ⟨N, r⟩
    · obtain ⟨rfl, l, hr2⟩ := h2.none_ hq
      refine ⟨0, l, true, rfl, by omega, hr2, .inr ⟨rfl, rfl, ?_⟩⟩
      cases σ with
      | none => rfl
      | some l =>
        have hq : manyD l = none := hq
        show textD l = none
        unfold textD; rw [hq]
    · obtain ⟨hv2, hr2⟩ := h2.some_ hq
      cases σ with
      | none => cases hq
      | some l =>
        have hq : manyD l = some (N, r) := hq
        refine ⟨N, r, false, hv2 w2 (Turn.refl _ _), (many_again hq).2.2, hr2, .inl ⟨rfl, ?_⟩⟩
        show textD l = _
        unfold textD; rw [hq]
  have HT := hid h2.1
  have HR2 := hid hr2
  have HFIN := hid hfin
  obtain ⟨A, c, hn, hc, hL, hB, hbs, hb, d1, d2, z1, z2⟩ := hr2.parts
  clear hr2 h2 hfin
  obtain ⟨A', hA', hrun⟩ := hbs.from_ hNl
  have hru := run_upto A l.length c N (by omega)
  have hst := run_string_of (P := Try.prog) (hbs.upto_ hNl) 31 5 9 Try.underlying31 Try.underlying5 Try.underlying9
  have HB := hid hb
  have HA' := hid hA'
  clear hb hbs hA'
  go_wp2_with fail
  go_ret
  rcases HFIN.out with ⟨rfl, hq⟩ | ⟨rfl, rfl, hq⟩
  · exact ⟨_, rfl, SobF.good hq (turn_same HT.out (turn_set _ bk 0 _)) (fun _ _ => rfl) (HR2.out.move HA'.out)⟩
  · exact ⟨_, rfl, SobF.bad hq (turn_same HT.out (turn_set _ bk 0 _)) rfl (HR2.out.move HA'.out)⟩
end Go.Proofs.Ytpnggkkfoipfhaa
