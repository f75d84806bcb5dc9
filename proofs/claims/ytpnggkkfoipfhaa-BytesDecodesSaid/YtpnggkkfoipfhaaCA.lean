/- A reader of bytes: what it has, what it gives, what it gives up with. -/
import Derived.Test.YtpnggkkfoipfhaaBY
import Derived.Test.YtpnggkkfoipfhaaPB
import Derived.Test.YtpnggkkfoipfhaaMR
set_option linter.unusedVariables false
namespace Go.Proofs.Ytpnggkkfoipfhaa
open Go.RowKit

/-- The reader's block: the bytes that are left, and how deep it is. -/
def RdAt (w : World) (bk B : Nat) (l : Bt) (d : Int) : Prop := B ≤ bk ∧ l.length ≤ 1048576 ∧ ∃ v, w.heap[bk]? = some (.cells #[v, .int .i64 d] 70 (0, 0)) ∧ Bs w B v l
theorem RdAt.lt {w : World} {bk B : Nat} {l : Bt} {d : Int} (h : RdAt w bk B l d) : bk < w.heap.size := by
  obtain ⟨_, _, v, h, _⟩ := h
  exact block_lt h
theorem Bs.turn {G : Nat → Prop} {w w' : World} {B : Nat} {v : Value} {l : Bt} (h : Bs w B v l) (hB : B ≤ w.heap.size) (t : Turn G w w') (hd : ∀ k, k < B → ¬ G k) : Bs w' B v l :=
  Bs.below h (t.below hB hd)
theorem RdAt.turn {G : Nat → Prop} {w w' : World} {bk B : Nat} {l : Bt} {d : Int} (h : RdAt w bk B l d) (t : Turn G w w') (hk : ¬ G bk) (hB : ∀ k, k < B → ¬ G k) : RdAt w' bk B l d := by
  have hlt := h.lt
  obtain ⟨h1, h2, v, h3, h4⟩ := h
  exact ⟨h1, h2, v, block_turn h3 t hk, h4.turn (by omega) t hB⟩
theorem RdAt.below {w w' : World} {bk B : Nat} {l : Bt} {d : Int} (h : RdAt w bk B l d) (hb : Below w.heap.size w w') : RdAt w' bk B l d :=
  h.turn (Turn.of_below (F := fun _ => False) hb) id (fun _ _ => id)
/-- What the reader gives up with. -/
abbrev Brk : Ending := .panicked [{ v := .iface 66 (.agg #[]), recovered := false }]
/-- The end of a reading: the value, which lies in memory that is new; or the reader has given up. -/
def ReadsTo {α : Type} (P : World → Value → α → Prop) (bk B : Nat) (d : Int) (w : World) (q : Option (α × Bt)) (e : Ending) (w' : World) : Prop :=
  Turn (fun k => k = bk) w w' ∧ match q with
    | some (x, r) => ∃ v, e = .returned v ∧ (∀ w'', Turn (fun k => k < w.heap.size) w' w'' → P w'' v x) ∧ RdAt w' bk B r d
    | none => e = Brk

section
variable {α : Type} {P : World → Value → α → Prop} {bk B : Nat} {d : Int} {w w' : World} {q : Option (α × Bt)} {e : Ending}
theorem ReadsTo.none_ (h : ReadsTo P bk B d w q e w') (hq : q = none) : e = Brk ∧ Turn (fun k => k = bk) w w' := by
  subst hq; exact ⟨h.2, h.1⟩
theorem ReadsTo.some_ {x : α} {r : Bt} (h : ReadsTo P bk B d w q e w') (hq : q = some (x, r)) : ∃ v, e = .returned v ∧ Turn (fun k => k = bk) w w' ∧ (∀ w'', Turn (fun k => k < w.heap.size) w' w'' → P w'' v x) ∧ RdAt w' bk B r d := by
  subst hq
  obtain ⟨t, v, h1, h2, h3⟩ := h
  exact ⟨v, h1, t, h2, h3⟩
theorem ReadsTo.fail (hq : q = none) (t : Turn (fun k => k = bk) w w') : ReadsTo P bk B d w q Brk w' := by
  subst hq; exact ⟨t, rfl⟩
theorem ReadsTo.done {x : α} {r : Bt} {v : Value} (hq : q = some (x, r)) (t : Turn (fun k => k = bk) w w') (hP : ∀ w'', Turn (fun k => k < w.heap.size) w' w'' → P w'' v x) (hR : RdAt w' bk B r d) : ReadsTo P bk B d w q (.returned v) w' := by
  subst hq; exact ⟨t, v, rfl, hP, hR⟩
end
theorem turn_same {bk : Nat} {a b c : World} (h : Turn (fun k => k = bk) a b) (k : Turn (fun k => k = bk) b c) : Turn (fun k => k = bk) a c := h.trans k fun _ _ h => h

theorem must_yes (w : World) : Calls Try.prog 51 #[.bool true] w fun e w' => e = .returned (.tuple #[]) ∧ w' = w := by
  go_enter Try.func51, Try.ntmps51
  go_wp2
  go_end0
  exact ⟨rfl, rfl⟩
theorem must_no (w : World) : Calls Try.prog 51 #[.bool false] w fun e w' => e = Brk ∧ w' = w := by
  go_enter Try.func51, Try.ntmps51
  go_wp2
  exact ⟨rfl, rfl, rfl⟩
theorem must_not (b : Bool) (hb : b = false) (w : World) : Calls Try.prog 51 #[.bool b] w fun e w' => e = .panicked [{ v := .iface 66 (.agg #[]), recovered := false }] ∧ w' = w := by
  subst hb; exact must_no w
theorem getV_sign (l : Bt) : (getV l).2 = 0 ∨ ∃ k : Nat, (getV l).2 = (k : Int) ∧ 0 < k ∧ k ≤ l.length := by
  by_cases h : (getV l).2 = 0
  · exact .inl h
  · obtain ⟨k, h1, h2, h3, h4, _⟩ := put_get h
    exact .inr ⟨k, h1, h2, h4⟩
theorem Bs.drop_ {w : World} {B : Nat} {A : Option Addr} {n c : Nat} {l : Bt} (h : Bs w B (.slice A n c) l) {k : Nat} (hk : k ≤ n) : Bs w B (.slice (if c = k then A else A.map (·.add (k * 1))) (n - k) (c - k)) (l.drop k) := by
  obtain ⟨A', n', c', hv, hl, hn, hc, hx⟩ := h
  injection hv with hv1 hv2 hv3
  subst hv1 hv2 hv3
  rw [bv_length] at hl
  refine ⟨_, _, _, rfl, by rw [bv_length, List.length_drop]; omega, by omega, by omega, fun h0 => ?_⟩
  obtain ⟨b, off, hA, hb, hcell⟩ := hx (by omega)
  subst hA
  refine ⟨b, off + k, ?_, hb, fun j u hu => ?_⟩
  · rw [if_neg (by omega), Nat.mul_one]
    exact congrArg some (plain_add b off k)
  · rw [Nat.add_assoc]
    apply hcell
    have : bv (l.drop k) = (bv l).drop k := by simp [bv]
    rw [this, List.getElem?_drop] at hu
    exact hu

theorem run_from (A : Option Addr) (n c k : Nat) (hk : k ≤ n) (w : World) : (Instr.slice 31 (.slice A n c) (some (.int .i64 k)) none none).run Try.prog w = .ok (.slice (if c = k then A else A.map (·.add (k * 1))) (n - k) (c - k)) w := by
  have h0 : (0 : Int) ≤ (k : Int) := by omega
  have h1 : (k : Int) ≤ (n : Int) := by omega
  go_simp
theorem run_upto (A : Option Addr) (n c k : Nat) (hk : k ≤ c) (w : World) : (Instr.slice 31 (.slice A n c) none (some (.int .i64 k)) none).run Try.prog w = .ok (.slice A k c) w := by
  have h0 : (0 : Int) ≤ (k : Int) := by omega
  have h1 : (k : Int) ≤ (c : Int) := by omega
  go_simp
/-- What is left behind the first k bytes: as a value, and as the model reckons it. -/
theorem Bs.from_ {w : World} {B : Nat} {A : Option Addr} {n c : Nat} {l : Bt} (h : Bs w B (.slice A n c) l) {k : Nat} (hk : k ≤ n) : ∃ A', Bs w B (.slice A' (n - k) (c - k)) (l.drop k) ∧ ∀ w, (Instr.slice 31 (.slice A n c) (some (.int .i64 k)) none none).run Try.prog w = .ok (.slice A' (n - k) (c - k)) w :=
  ⟨_, h.drop_ hk, fun w => run_from A n c k hk w⟩
theorem in64_len {l : Bt} (h : l.length ≤ 1048576) : In64 (l.length : Int) := by unfold In64; omega
set_option maxHeartbeats 1000000 in
theorem rdnum_any (w : World) (bk B : Nat) (l : Bt) (d : Int) (hR : RdAt w bk B l d) :
    Calls Try.prog 50 #[.pointer (some ⟨bk, 0, none⟩)] w fun e w' => ReadsTo (fun _ v x => v = .int .i64 x) bk B d w (numD l) e w' := by
  have hlt := hR.lt
  obtain ⟨hB, hL, v, hb, hv⟩ := hR
  have HG := hid (get_any v l w (hv.more (by omega)))
  have HV := hid hv
  obtain ⟨A, c, rfl, hn, hc, _⟩ := hv.open_
  unfold maxLen at hc
  clear hv
  have d1 : w.cell? ⟨bk, 0, none⟩ = some (.slice A l.length c) := by simp [World.cell?, hb]
  have hz : w.frozen? ⟨bk, 0, none⟩ = false := by simp [World.frozen?, hb]
  have HB := hid hb
  clear hb
  rcases getV_sign l with h0 | ⟨k, hk, hk0, hkl⟩
  · have hq : numD l = none := by unfold numD; rw [if_pos h0]
    rw [hq]
    generalize (getV l).1 = N at *
    generalize (getV l).2 = K at *
    subst h0
    go_enter Try.func50, Try.ntmps50
    go_wp2_with fail
    refine HG.out.mono ?_
    rintro e w2 ⟨rfl, rfl⟩
    go_wp2_with fail
    refine (must_no w).mono ?_
    rintro e w2 ⟨rfl, rfl⟩
    go_wp2_with fail
    exact ⟨rfl, Turn.refl _ _, rfl⟩
  · have hq : numD l = some ((getV l).1, l.drop k) := by unfold numD; rw [if_neg (by omega), hk]; rfl
    rw [hq]
    generalize (getV l).1 = N at *
    generalize (getV l).2 = K at *
    subst hk
    obtain ⟨A', hA', hrun⟩ := HV.out.from_ hkl
    have HD := hid hA'
    clear hA'
    go_enter Try.func50, Try.ntmps50
    go_wp2_with fail
    refine HG.out.mono ?_
    rintro e w2 ⟨rfl, rfl⟩
    go_wp2_with fail
    refine (must_yes w).mono ?_
    rintro e w2 ⟨rfl, rfl⟩
    go_wp2_with fail
    go_ret
    refine ⟨turn_set _ bk 0 _, _, rfl, fun _ _ => rfl, hB, by rw [List.length_drop]; omega, _, heap_setCell_same _ bk 0 _ _ _ HB.out, ?_⟩
    exact Bs.turn HD.out (by omega) (turn_set _ bk 0 _) (fun j hj e => by omega)
theorem RdAt.parts {w : World} {bk B : Nat} {l : Bt} {d : Int} (h : RdAt w bk B l d) : ∃ A c, l.length ≤ c ∧ c ≤ 2 ^ 63 - 1 ∧ l.length ≤ 1048576 ∧ B ≤ bk ∧ Bs w B (.slice A l.length c) l ∧ w.heap[bk]? = some (.cells #[.slice A l.length c, .int .i64 d] 70 (0, 0)) ∧
    w.cell? ⟨bk, 0, none⟩ = some (.slice A l.length c) ∧ w.cell? ⟨bk, 1, none⟩ = some (.int .i64 d) ∧ w.frozen? ⟨bk, 0, none⟩ = false ∧ w.frozen? ⟨bk, 1, none⟩ = false := by
  obtain ⟨hB, hL, v, hb, hv⟩ := h
  have hv' := hv
  obtain ⟨A, c, rfl, hn, hc, _⟩ := hv'.open_
  unfold maxLen at hc
  exact ⟨A, c, hn, hc, hL, hB, hv, hb, by simp [World.cell?, hb], by simp [World.cell?, hb], by simp [World.frozen?, hb], by simp [World.frozen?, hb]⟩
set_option maxHeartbeats 1000000 in
theorem rdmany_any (w : World) (bk B : Nat) (l : Bt) (d : Int) (hR : RdAt w bk B l d) :
    Calls Try.prog 64 #[.pointer (some ⟨bk, 0, none⟩)] w fun e w' => ReadsTo (fun _ v x => v = .int .i64 ((x : Nat) : Int)) bk B d w (manyD l) e w' := by
  have HN := hid (rdnum_any w bk B l d hR)
  clear hR
  rcases hq : numD l with _ | ⟨N, r⟩
  · have hm : manyD l = none := by unfold manyD; rw [hq]
    have HQ := hid hq
    have HM := hid hm
    clear hq hm
    go_enter Try.func64, Try.ntmps64
    go_wp2_with fail
    refine HN.out.mono ?_
    rintro e w2 h2
    obtain ⟨rfl, t2⟩ := h2.none_ HQ.out
    clear h2
    go_wp2_with fail
    exact ⟨rfl, ReadsTo.fail HM.out t2⟩
  · have hm : manyD l = if 0 ≤ N ∧ N ≤ (r.length : Int) then some (N.toNat, r) else none := by unfold manyD; rw [hq]
    have HQ := hid hq
    have HM := hid hm
    clear hq hm
    go_enter Try.func64, Try.ntmps64
    go_wp2_with fail
    refine HN.out.mono ?_
    rintro e w2 h2
    obtain ⟨v2, rfl, t2, hv2, hr2⟩ := h2.some_ HQ.out
    obtain rfl := hv2 w2 (Turn.refl _ _)
    clear h2 hv2
    have HR2 := hid hr2
    obtain ⟨A, c, hn, hc, hL, hB, hbs, hb, d1, d2, z1, z2⟩ := hr2.parts
    clear hr2 hbs hb
    by_cases h1 : 0 ≤ N
    · by_cases h2 : N ≤ (r.length : Int)
      · go_wp2_with fail
        refine (must_yes w2).mono ?_
        rintro e w3 ⟨rfl, rfl⟩
        go_wp2_with fail
        go_ret
        refine ReadsTo.done (x := N.toNat) (r := r) (by rw [HM.out, if_pos ⟨h1, h2⟩]) t2 (fun _ _ => ?_) HR2.out
        exact (congrArg (Value.int .i64) (Int.toNat_of_nonneg h1)).symm
      · go_wp2_with fail
        refine (must_not _ (by simp [*]) w2).mono ?_
        rintro e w3 ⟨rfl, rfl⟩
        go_wp2_with fail
        exact ⟨rfl, ReadsTo.fail (by rw [HM.out, if_neg (fun h => absurd h.2 (by omega))]) t2⟩
    · go_wp2_with fail
      refine (must_not _ (by simp [*]) w2).mono ?_
      rintro e w3 ⟨rfl, rfl⟩
      go_wp2_with fail
      exact ⟨rfl, ReadsTo.fail (by rw [HM.out, if_neg (fun h => absurd h.1 (by omega))]) t2⟩
set_option maxHeartbeats 1000000 in
theorem rdtext_any (w : World) (bk B : Nat) (l : Bt) (d : Int) (hR : RdAt w bk B l d) :
    Calls Try.prog 66 #[.pointer (some ⟨bk, 0, none⟩)] w fun e w' => ReadsTo (fun _ v x => v = sv x) bk B d w (textD l) e w' := by
  have HN := hid (rdmany_any w bk B l d hR)
  clear hR
  rcases hq : manyD l with _ | ⟨N, r⟩
  · have hm : textD l = none := by unfold textD; rw [hq]
    have HQ := hid hq
    have HM := hid hm
    clear hq hm
    go_enter Try.func66, Try.ntmps66
    go_wp2_with fail
    refine HN.out.mono ?_
    rintro e w2 h2
    obtain ⟨rfl, t2⟩ := h2.none_ HQ.out
    clear h2
    go_wp2_with fail
    exact ⟨rfl, ReadsTo.fail HM.out t2⟩
  · have hm : textD l = some (r.take N, r.drop N) := by unfold textD; rw [hq]
    have hNr := (many_again hq).2.2
    have HQ := hid hq
    have HM := hid hm
    clear hq hm
    go_enter Try.func66, Try.ntmps66
    go_wp2_with fail
    refine HN.out.mono ?_
    rintro e w2 h2
    obtain ⟨v2, rfl, t2, hv2, hr2⟩ := h2.some_ HQ.out
    obtain rfl := hv2 w2 (Turn.refl _ _)
    clear h2 hv2
    have HR2 := hid hr2
    obtain ⟨A, c, hn, hc, hL, hB, hbs, hb, d1, d2, z1, z2⟩ := hr2.parts
    clear hr2
    obtain ⟨A', hA', hrun⟩ := hbs.from_ hNr
    have hru := run_upto A r.length c N (by omega)
    have hst := fun w' (h : Bs w' B (.slice A N c) (r.take N)) => run_string_of (P := Try.prog) h 31 5 9 Try.underlying31 Try.underlying5 Try.underlying9
    have hst2 := hst w2 (hbs.take_ hNr)
    clear hst
    have HB := hid hb
    have HBS := hid hbs
    have HA' := hid hA'
    clear hb hbs hA'
    go_wp2_with fail
    go_ret
    refine ReadsTo.done HM.out (turn_same t2 (turn_set _ bk 0 _)) (fun _ _ => rfl) ⟨hB, by rw [List.length_drop]; omega, _, heap_setCell_same _ bk 0 _ _ _ HB.out, ?_⟩
    have := block_lt HB.out
    exact Bs.turn HA'.out (by omega) (turn_set _ bk 0 _) (fun j hj e => by omega)
end Go.Proofs.Ytpnggkkfoipfhaa
