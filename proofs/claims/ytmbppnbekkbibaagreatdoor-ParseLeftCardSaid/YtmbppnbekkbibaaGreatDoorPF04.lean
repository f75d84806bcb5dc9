/- GG, FA, FB, MC, FC -/
import Derived.Test.YtmbppnbekkbibaaGreatDoorPF03
import Derived.Test.YtmbppnbekkbibaaGreatDoorPF01
import Derived.Laws.Rows
import Derived.Test.YtmbppnbekkbibaaGreatDoorPF02
import Derived.WalkKit
set_option linter.unusedSimpArgs false
set_option linter.unusedVariables false
section
/- Texts that belong together: XI, XJ, XK. -/
/- The map of pairs is made. -/
set_option linter.unusedVariables false
namespace Go.Proofs.YtmbppnbekkbibaaGreatDoor
open Go.RowKit
open Go.Maps (has IsMap Keyed)

theorem pairV_inj {a b a' b' : UInt8} (h : pairV a b = pairV a' b') : a = a' ∧ b = b' := by
  unfold pairV at h
  injection h with h
  injection h with h
  injection h with h1 h2
  injection h2 with h2 _
  injection h1 with _ h1
  injection h2 with _ h2
  exact ⟨UInt8.toNat_inj.1 (by omega), UInt8.toNat_inj.1 (by omega)⟩
theorem pairs_put {D : DataW Unit} {l : List Bt} (hD : IsMap D) (h : PairsOf D l) {a b : UInt8} {kl : Lit} (hk : keyOf Tryz.prog 160 (pairV a b) = some kl) : PairsOf (D.put kl (.lit (.bool true))) (l ++ [[a, b]]) := by
  intro a' b' kl' hk' z
  by_cases he : kl' = kl
  · subst he
    obtain ⟨rfl, rfl⟩ := pairV_inj (law_pair.inj hk' hk)
    rw [Maps.atKey_put_same hD (law_pair.key hk), if_pos (by simp)]
  · have hne : [a', b'] ≠ [a, b] := by
      intro e
      injection e with e1 e2
      injection e2 with e2 _
      subst e1 e2
      rw [hk'] at hk
      exact he (Option.some.inj hk)
    rw [Maps.atKey_put_other he, h a' b' kl' hk' z]
    by_cases hin : [a', b'] ∈ l
    · rw [if_pos hin, if_pos (List.mem_append_left _ hin)]
    · rw [if_neg hin, if_neg (by simp only [List.mem_append, List.mem_singleton]; rintro (h1 | h1); exact hin h1; exact hne h1)]
theorem pairsOf_nil : PairsOf (.map []) [] := fun _ _ _ _ z => rfl

/-- A store into a map, as one step. -/
theorem step_update {H : Type} {P : Program} {ops : Array Oper} {o : Oper} {a : Act} {w : World} {K : Act → World → Prop} {Q : Exit → Act → World → Prop} {E : Prop}
    (hg : o.guard = none) (m x v : Operand) (t : TypeId) (hop : o.op = Op.mapUpdate t m x v)
    (k e : TypeId) (Kd : Keyed P k) (ht : P.underlying t = some (.map k e)) (R : Value → Option (DataW H × List MemPlace)) (b n : Nat) (D : DataW H)
    (hm : a.eval m = .map (some b)) (hown : w.ownsMap P k R b n D) (hn : n < maxLen) (key val : Value) (kl : Lit) (hx : a.eval x = key) (hv : a.eval v = val) (hkey : keyOf P k key = some kl)
    (d : DataW H) (ps : List MemPlace) (hval : R val = some (d, ps))
    (hK : ∀ w', w'.ownsMap P k R b (n + 1) (D.put kl d) → w.grownBy w' (some b) → K (a.put o.dst undef) w') :
    if Region.wanted o (yielded ops a.tmps) = true then Oper.wp P o a w K Q else E := by
  have hw : Region.wanted o (yielded ops a.tmps) = true := by simp [Region.wanted, hg]
  rw [if_pos hw]
  obtain ⟨w', hrun, r1, r2⟩ := hown.update Kd ht hn hkey hval
  unfold Oper.wp
  simp [execOp, hop, hm, hx, hv, hrun, Result.andThen]
  exact hK w' r1 r2

set_option maxRecDepth 100000 in
set_option maxHeartbeats 1000000 in
theorem pairs_any (w : World) : Calls Tryz.prog 55 #[] w fun e w' => ∃ bp, e = .returned (.map (some bp)) ∧ w.heap.size ≤ bp ∧ PairsAt w' bp pairsL ∧ Below w.heap.size w w' := by
  have hmm := @run_makeMap Tryz.prog
  have h8 : pairsL.length = 8 := rfl
  go_enter Tryz.func55, Tryz.ntmps55
  go_wp2_with fail
  have s1 : (w.alloc (.map #[] 0)).heap.size = w.heap.size + 1 := by simp
  have hss : Ss ((w.alloc (.map #[] 0)).alloc (.cells (svs pairsL).toArray 9)) (w.heap.size + 2) (.slice (some ⟨w.heap.size + 1, 0, none⟩) 8 8) pairsL := by
    have := sl_new (w.alloc (.map #[] 0)) (svs pairsL).toArray 9 1 8 (by simp [svs_length, h8]) (by decide)
    rw [s1] at this
    simpa [Ss] using this
  have hmap : PairsAt ((w.alloc (.map #[] 0)).alloc (.cells (svs pairsL).toArray 9)) w.heap.size [] :=
    ⟨0, .map [], Nat.zero_le _, (World.ownsMap_made w _ _ _).alloc _, pairsOf_nil⟩
  have hB : Below w.heap.size w ((w.alloc (.map #[] 0)).alloc (.cells (svs pairsL).toArray 9)) := ((Below.refl _ _).alloc (Nat.le_refl _) _).alloc (by simp) _
  have hsz : ((w.alloc (.map #[] 0)).alloc (.cells (svs pairsL).toArray 9)).heap.size = w.heap.size + 2 := by simp
  have hw2 : ∃ w2, w2 = ((w.alloc (.map #[] 0)).alloc (.cells (svs pairsL).toArray 9)) := ⟨_, rfl⟩
  obtain ⟨w2, hw2⟩ := hw2
  rw [← hw2] at hss hmap hB hsz
  have hgoalw : ((w.alloc (.map #[] 0)).alloc (.cells #[.string { data := #[45, 62] }, .string { data := #[61, 62] }, .string { data := #[60, 58] }, .string { data := #[60, 60] }, .string { data := #[60, 61] }, .string { data := #[62, 62] }, .string { data := #[61, 61] }, .string { data := #[43, 43] }] 9)) = w2 := by rw [hw2]; rfl
  rw [hgoalw]
  clear hw2 hgoalw
  go_loopw [7] (fun v7 wr => ∃ k : Nat, v7 = .int .i64 k ∧ k ≤ 8 ∧ PairsAt wr w.heap.size (pairsL.take k) ∧ Turn (fun j => j = w.heap.size) w2 wr) (fun v7 _ => 8 - (intOf v7).toNat)
  case atStart => exact ⟨0, rfl, by omega, hmap, Turn.refl _ _⟩
  case round =>
    obtain ⟨k, rfl, hk, ⟨n, D, hn, hown, hD⟩, htr⟩ := hrel
    by_cases hlt : k < 8
    · obtain ⟨A, c, hA, _, _, hx⟩ := hss.open_
      obtain ⟨b0, o0, hA2, hb0, hcell⟩ := hx (by decide)
      rw [hA2] at hA
      simp only [Value.slice.injEq, Option.some.injEq, Addr.mk.injEq, and_true] at hA
      obtain ⟨⟨rfl, rfl⟩, hjunk⟩ := hA
      clear hjunk
      have d1 := ss_cell' htr (by omega) (by omega) (hcell k (by rw [h8]; exact hlt))
      rw [Nat.zero_add] at d1
      have hnext : pairsL.take (k + 1) = pairsL.take k ++ [pairsL[k]'(by rw [h8]; exact hlt)] := List.take_succ_eq_append_getElem _
      have h2 : (pairsL[k]'(by rw [h8]; exact hlt)).length = 2 := by
        have hall : ∀ m ∈ pairsL, m.length = 2 := by decide
        exact hall _ (List.getElem_mem _)
      have hnl : (pairsL.take k).length = k := by rw [List.length_take, h8]; omega
      generalize (pairsL[k]'(by rw [h8]; exact hlt)) = m at *
      obtain ⟨a, b, rfl⟩ : ∃ a b, m = [a, b] := by
        match m, h2 with
        | [a, b], _ => exact ⟨a, b, rfl⟩
      have hix := sv_index [a, b] 0 (by simp)
      have hix1 := sv_index [a, b] 1 (by simp)
      have hszm := sv_size [a, b]
      obtain ⟨kl, hkl⟩ := key_pair a b
      have HKL := hid hkl
      have HPUT := hid (pairs_put hown.isMap hD hkl)
      have HNX := hid hnext
      have HSS := hid hss
      clear hss hmap hcell hx hkl hnext h8
      go_wp2_with fail
      refine wp_region_held_drew (S := fun _ => True) (by kernel_rfl) trivial (fun _ => ?_)
      try simp only [Act.put, List.getElem_toArray, List.getElem_cons_zero, List.getElem_cons_succ, List.setIfInBounds_toArray, List.set_cons_zero, List.set_cons_succ]
      refine wpAnyH_take (i := 0) (v := (.map (some w.heap.size))) rfl (by kernel_rfl) (by kernel_rfl) (by kernel_rfl) (fun _ _ _ h => h) (Or.inl ⟨by kernel_rfl, by intro w hSw; go_simp⟩) trivial ?_
      try simp only [Act.put, List.getElem_toArray, List.getElem_cons_zero, List.getElem_cons_succ, List.setIfInBounds_toArray, List.set_cons_zero, List.set_cons_succ]
      refine wpAnyH_take (i := 1) (v := (sv [a, b])) rfl (by kernel_rfl) (by kernel_rfl) (by kernel_rfl) (fun _ _ _ h => h) (Or.inl ⟨by kernel_rfl, by intro w hSw; go_simp⟩) trivial ?_
      try simp only [Act.put, List.getElem_toArray, List.getElem_cons_zero, List.getElem_cons_succ, List.setIfInBounds_toArray, List.set_cons_zero, List.set_cons_succ]
      refine wpAnyH_take (i := 2) (v := (.int .u8 (a.toNat : Int))) rfl (by kernel_rfl) (by kernel_rfl) (by kernel_rfl) (fun _ _ _ h => h) (Or.inl ⟨by kernel_rfl, by intro w hSw; go_simp⟩) trivial ?_
      try simp only [Act.put, List.getElem_toArray, List.getElem_cons_zero, List.getElem_cons_succ, List.setIfInBounds_toArray, List.set_cons_zero, List.set_cons_succ]
      refine wpAnyH_take (i := 3) (v := (sv [a, b])) rfl (by kernel_rfl) (by kernel_rfl) (by kernel_rfl) (fun _ _ _ h => h) (Or.inl ⟨by kernel_rfl, by intro w hSw; go_simp⟩) trivial ?_
      try simp only [Act.put, List.getElem_toArray, List.getElem_cons_zero, List.getElem_cons_succ, List.setIfInBounds_toArray, List.set_cons_zero, List.set_cons_succ]
      refine wpAnyH_take (i := 4) (v := (.int .u8 (b.toNat : Int))) rfl (by kernel_rfl) (by kernel_rfl) (by kernel_rfl) (fun _ _ _ h => h) (Or.inl ⟨by kernel_rfl, by intro w hSw; go_simp⟩) trivial ?_
      try simp only [Act.put, List.getElem_toArray, List.getElem_cons_zero, List.getElem_cons_succ, List.setIfInBounds_toArray, List.set_cons_zero, List.set_cons_succ]
      refine wpAnyH_take (i := 5) (v := (.agg #[.int .u8 (a.toNat : Int), .int .u8 (b.toNat : Int)])) rfl (by kernel_rfl) (by kernel_rfl) (by kernel_rfl) (fun _ _ _ h => h) (Or.inl ⟨by kernel_rfl, by intro w hSw; go_simp⟩) trivial ?_
      try simp only [Act.put, List.getElem_toArray, List.getElem_cons_zero, List.getElem_cons_succ, List.setIfInBounds_toArray, List.set_cons_zero, List.set_cons_succ]
      refine wpAnyH_ready (rs := [6]) (by kernel_rfl) (by simp) ?_
      refine AllReadyH.cons rfl (fun K hK => ?_) AllReadyH.nil
      refine step_update rfl _ _ _ 107 rfl 160 4 law_pair Tryz.underlying107 (plainElem Tryz.prog 4) w.heap.size n D rfl (w := wr.drew) hown (by unfold maxLen; omega) (pairV a b) _ kl rfl rfl HKL.out (.lit (.bool true)) [] (plainElem_bool Tryz.underlying4 true) (fun w6 hown6 hgrow6 => ?_)
      refine hK.out _ _ trivial (fun _ => ?_)
      clear hK K
      try simp only [Act.put, List.getElem_toArray, List.getElem_cons_zero, List.getElem_cons_succ, List.setIfInBounds_toArray, List.set_cons_zero, List.set_cons_succ]
      refine wpAnyH_done (by kernel_rfl) ?_ _
      have ht6 : Turn (fun j => j = w.heap.size) wr w6 := (Turn.drewN (fun j => j = w.heap.size) wr 1).trans (Turn.of_grown (F := fun j => j = w.heap.size) hgrow6 (fun j h => by injection h with h; exact h.symm)) (fun _ _ h => h)
      go_wp2_with fail
      go_roundw
      case rel => exact ⟨k + 1, rfl, by omega, ⟨n + 1, _, by rw [HNX.out, List.length_append]; simp only [List.length_cons, List.length_nil]; omega, hown6, by rw [HNX.out]; exact HPUT.out⟩, htr.trans ht6 (fun _ _ h => h)⟩
      case measure => simp [intOf]; omega
    · obtain rfl : k = 8 := by omega
      have hfin : PairsAt wr w.heap.size pairsL := ⟨n, D, by have := hn; simpa [h8] using this, hown, hD⟩
      have hB9 : Below w.heap.size w wr := hB.trans (htr.below hB.size (fun j hj e => by omega))
      clear hss hmap hown hD
      go_wp2_with fail
      go_ret
      exact ⟨_, rfl, Nat.le_refl _, hfin, hB9⟩
end Go.Proofs.YtmbppnbekkbibaaGreatDoor

/- Lex's own state in memory, and what a round of it keeps. -/
set_option linter.unusedVariables false
namespace Go.Proofs.YtmbppnbekkbibaaGreatDoor
open Go.RowKit

def tokV (t : TokD) : List Value := [.int .i64 t.kind, sv t.text, .int .i64 (t.line : Nat), .int .i64 (t.col : Nat)]
def tokCells (l : List TokD) : List Value := l.flatMap tokV
theorem tokCells_length (l : List TokD) : (tokCells l).length = l.length * 4 := by
  induction l with
  | nil => rfl
  | cons t l ih =>
    have h : tokCells (t :: l) = tokV t ++ tokCells l := rfl
    rw [h, List.length_append, ih, List.length_cons]
    have : (tokV t).length = 4 := rfl
    omega
theorem tokCells_snoc (l : List TokD) (t : TokD) : tokCells (l ++ [t]) = tokCells l ++ tokV t := by
  unfold tokCells; rw [List.flatMap_append]; simp
theorem el_tok : ElemIs Tryz.prog 66 70 (.agg #[.int .i64 0, sv [], .int .i64 0, .int .i64 0]) 4 40 := ⟨Tryz.underlying66, by kernel_rfl, rfl, by decide⟩
/-- The tokens from behind the blanks on. -/
def lexB (f : Nat) (s1 : Bt) (p1 : Nat × Nat) (out : List TokD) : List TokD × (Nat × Nat × Int) :=
  if s1 = [] then (out ++ [⟨0, [], p1.1, p1.2⟩], (0, 0, 0)) else
  match nextT s1 with
  | .inl e => ([], (p1.1, p1.2, e))
  | .inr (kd, t, n) => if out.length = 8192 then ([], (p1.1, p1.2, 19)) else lexF f (s1.drop n) (advL p1 (s1.take n)) (out ++ [⟨kd, t, p1.1, p1.2⟩])
theorem lexF_succ (f : Nat) (s : Bt) (p : Nat × Nat) (out : List TokD) : lexF (f + 1) s p out = lexB f (s.drop (skipL s)) (advL p (s.take (skipL s))) out := rfl
/-- What a round keeps: where all lies, and that the tokens to come with those at hand are the answer. -/
structure LexR (base bd bl bp N : Nat) (ans : List TokD × (Nat × Nat × Int)) (wr : World) (f : Nat) (s1 : Bt) (p1 : Nat × Nat) (outv : Value) (out : List TokD) : Prop where
  diag : wr.heap[bd]? = some (.cells #[.int .i64 0, .int .i64 0, .int .i64 0, .int .i64 0] 55 (0, 0))
  lex : LexAt wr bl bp s1 p1 outv
  pairs : PairsAt wr bp pairsL
  row : wr.ownsRow 0 70 4 outv out.length (tokCells out)
  fuel : s1.length ≤ f
  eq : lexB f s1 p1 out = ans
  b1 : p1.1 + s1.length ≤ N
  b2 : p1.2 + s1.length ≤ N
  b3 : 1 ≤ p1.2
  outl : out.length ≤ 8192
  hd : base ≤ bd
  hl : base ≤ bl
  hp : base ≤ bp
  dl : bd ≠ bl
  dp : bd ≠ bp
  lp : bl ≠ bp
  fo : ∀ g, outv.ownBlock = some g → base ≤ g ∧ g ≠ bd ∧ g ≠ bl ∧ g ≠ bp
theorem LexR.below {base bd bl bp N : Nat} {ans : List TokD × (Nat × Nat × Int)} {w w' : World} {f : Nat} {s1 : Bt} {p1 : Nat × Nat} {outv : Value} {out : List TokD} (h : LexR base bd bl bp N ans w f s1 p1 outv out) (hb : Below w.heap.size w w') : LexR base bd bl bp N ans w' f s1 p1 outv out :=
  { h with
    diag := block_turn h.diag (Turn.of_below (F := fun _ => False) hb) id
    lex := h.lex.turn (Turn.of_below (F := fun _ => False) hb) id
    pairs := h.pairs.turn (Turn.of_below (F := fun _ => False) hb) id
    row := own_below h.row hb }
/-- A token has been put behind the others, the bytes of it passed over, and the blanks behind it. -/
theorem LexR.next {base bd bl bp N : Nat} {ans : List TokD × (Nat × Nat × Int)} {w w' : World} {f : Nat} {s1 : Bt} {p1 : Nat × Nat} {outv outv' : Value} {out : List TokD} (h : LexR base bd bl bp N ans w f s1 p1 outv out)
    {kd : Int} {t : Bt} {n : Nat} (hn : nextT s1 = .inr (kd, t, n)) (ho : out.length ≠ 8192)
    (hrow : w'.ownsRow 0 70 4 outv' (out.length + 1) (tokCells out ++ tokV ⟨kd, t, p1.1, p1.2⟩)) (hfo : ∀ g, outv'.ownBlock = some g → base ≤ g ∧ g ≠ bd ∧ g ≠ bl ∧ g ≠ bp)
    (hdiag : w'.heap[bd]? = some (.cells #[.int .i64 0, .int .i64 0, .int .i64 0, .int .i64 0] 55 (0, 0))) (hpairs : PairsAt w' bp pairsL)
    (hlex : LexAt w' bl bp ((s1.drop n).drop (skipL (s1.drop n))) (advL (advL p1 (s1.take n)) ((s1.drop n).take (skipL (s1.drop n)))) outv') :
    ∃ f' s2 p2 out', LexR base bd bl bp N ans w' f' s2 p2 outv' out' ∧ s2.length < s1.length := by
  obtain ⟨n1, n2⟩ := nextT_le hn
  have hne : s1 ≠ [] := by intro e; subst e; simp at n2; omega
  have hf := h.fuel
  obtain ⟨f', rfl⟩ : ∃ f', f = f' + 1 := ⟨f - 1, by omega⟩
  have heq := h.eq
  unfold lexB at heq
  rw [if_neg hne, hn] at heq
  simp only at heq
  rw [if_neg ho, lexF_succ] at heq
  have l1 := advL_le2 (s1.take n) h.b3
  rw [List.length_take, Nat.min_eq_left n2] at l1
  have hsk := skipG_le false (s1.drop n)
  have hsk' : skipL (s1.drop n) ≤ s1.length - n := by rw [List.length_drop] at hsk; exact hsk
  have l2 := advL_le2 ((s1.drop n).take (skipL (s1.drop n))) l1.2.2
  have hb1 := h.b1
  have hb2 := h.b2
  have hol := h.outl
  have ht : ((s1.drop n).take (skipL (s1.drop n))).length = skipL (s1.drop n) := by rw [List.length_take, List.length_drop]; omega
  rw [ht] at l2
  have hlen : ((s1.drop n).drop (skipL (s1.drop n))).length = s1.length - n - skipL (s1.drop n) := by rw [List.length_drop, List.length_drop]
  refine ⟨f', _, _, out ++ [⟨kd, t, p1.1, p1.2⟩], ⟨hdiag, hlex, hpairs, ?_, by rw [hlen]; omega, heq, by rw [hlen]; omega, by rw [hlen]; omega, l2.2.2, by simp; omega, h.hd, h.hl, h.hp, h.dl, h.dp, h.lp, hfo⟩, by rw [hlen]; omega⟩
  rw [tokCells_snoc, List.length_append]
  exact hrow
end Go.Proofs.YtmbppnbekkbibaaGreatDoor

/- The contract of lex's Lex. -/
set_option linter.unusedVariables false
namespace Go.Proofs.YtmbppnbekkbibaaGreatDoor
open Go.RowKit

theorem results_tmp_cell {P : Program} {fn : Func} {t0 p : Tmp} {ty : TypeId} (h : fn.results = #[.tmp t0, .cell p ty]) (tmps : Array Value) (w : World) (g : Nat) (t : TypeId) (cs : Array Value) (fr : Nat × Nat) (d : TypeDesc)
    (hp : tmps.getD p undef = .pointer (some ⟨g, 0, none⟩)) (hg : w.heap[g]? = some (.cells cs t fr))
    (hu : P.underlying ty = some d) (hd : (match d with | .struct _ | .array _ _ => true | _ => false) = true) (hi : (P.info? ty).map (·.size) = some cs.size) :
    (results fn tmps).run P w = .ok (.tuple #[tmps.getD t0 undef, .agg cs]) w := by
  have hp' : tmps[p]?.getD undef = .pointer (some ⟨g, 0, none⟩) := by simpa using hp
  simp [results, h, hp', asAddr, run_loadVar_row w g t ty cs fr d hg hu hd hi, Result.andThen]
theorem own_lift {w : World} {base : Nat} {e : TypeId} {k n : Nat} {v : Value} {xs : List Value} (h : w.ownsRow 0 e k v n xs) (hb : ∀ g, v.ownBlock = some g → base ≤ g) : w.ownsRow base e k v n xs := by
  refine ⟨h.1, ?_⟩
  rcases h.2 with h2 | ⟨g, cap, cur, hv, _, r⟩
  · exact .inl h2
  · exact .inr ⟨g, cap, cur, hv, hb g (by subst hv; rfl), r⟩
abbrev set4 (w : World) (b : Nat) (v0 v1 v2 v3 : Value) : World := (((w.setCell ⟨b, 0, none⟩ v0).setCell ⟨b, 1, none⟩ v1).setCell ⟨b, 2, none⟩ v2).setCell ⟨b, 3, none⟩ v3
theorem set4_turn (w : World) (b : Nat) (v0 v1 v2 v3 : Value) : Turn (fun k => k = b) w (set4 w b v0 v1 v2 v3) :=
  (((turn_set w b 0 v0).trans (turn_set _ b 1 v1) (fun _ _ h => h)).trans (turn_set _ b 2 v2) (fun _ _ h => h)).trans (turn_set _ b 3 v3) (fun _ _ h => h)
theorem set4_block {w : World} {b : Nat} {a0 a1 a2 a3 : Value} {t : TypeId} (h : w.heap[b]? = some (.cells #[a0, a1, a2, a3] t (0, 0))) (v0 v1 v2 v3 : Value) : (set4 w b v0 v1 v2 v3).heap[b]? = some (.cells #[v0, v1, v2, v3] t (0, 0)) :=
  heap_setCell_same _ b 3 _ _ v3 (heap_setCell_same _ b 2 _ _ v2 (heap_setCell_same _ b 1 _ _ v1 (heap_setCell_same w b 0 _ _ v0 h)))
theorem block_free {w : World} {b : Nat} {cs : Array Value} {t : TypeId} (h : w.heap[b]? = some (.cells cs t (0, 0))) (i : Nat) : w.frozen? ⟨b, i, none⟩ = false := by
  simp [World.frozen?, h]
theorem tok_one (t : TokD) : ∀ u ∈ tokV t, u.oneCell' = true := by
  intro u hu
  simp [tokV] at hu
  rcases hu with rfl | rfl | rfl | rfl <;> rfl
def diagV (d : Nat × Nat × Int) : Value := .agg #[.int .i64 0, .int .i64 (d.1 : Nat), .int .i64 (d.2.1 : Nat), .int .i64 d.2.2]
/-- What Lex leaves. -/
def LexPost (ans : List TokD × (Nat × Nat × Int)) (w : World) (e : Ending) (w' : World) : Prop :=
  ∃ v n, e = .returned (.tuple #[v, diagV ans.2]) ∧ w'.ownsRow w.heap.size 70 4 v n (tokCells ans.1) ∧ Below w.heap.size w w'
def LexRel (w : World) (bd bl bp N : Nat) (ans : List TokD × (Nat × Nat × Int)) (wr : World) : Prop :=
  Below w.heap.size w wr ∧ ∃ f s1 p1 outv out, LexR w.heap.size bd bl bp N ans wr f s1 p1 outv out

set_option maxRecDepth 100000 in
set_option maxHeartbeats 8000000 in
theorem lex_any (w : World) (s : Bt) (hX : LaidX w) : Calls Tryz.prog 28 #[sv s] w fun e w' => LexPost (lexL s) w e w' := by
  have hmm := @run_makeMap Tryz.prog
  have hsz := sv_size s
  by_cases hlong : 65536 < s.length
  · have ha : lexL s = ([], (1, 1, 2)) := by unfold lexL; rw [if_pos hlong]
    rw [ha]
    go_enter Tryz.func28, Tryz.ntmps28
    go_wp2_with fail
    refine bodyPost_ret (results_tmp_cell rfl _ _ w.heap.size _ _ _ _ rfl (heap_alloc_new w _) Tryz.underlying55 rfl (by kernel_rfl)) rfl ?_
    exact ⟨_, 0, rfl, World.ownsRow_nil _ _ _ _, (Below.refl _ _).alloc (Nat.le_refl _) _⟩
  · have ha : lexL s = lexB s.length (s.drop (skipL s)) (advL (1, 1) (s.take (skipL s))) [] := by unfold lexL; rw [if_neg hlong]; rfl
    rw [ha]
    clear ha
    generalize hans : lexB s.length (s.drop (skipL s)) (advL (1, 1) (s.take (skipL s))) [] = ans
    go_enter Tryz.func28, Tryz.ntmps28
    go_wp2_with fail
    refine (pairs_any _).mono ?_
    rintro e w2 ⟨bp, rfl, hbp, hP, hb2⟩
    have s1 : (w.alloc (.cells #[.int .i64 0, .int .i64 0, .int .i64 0, .int .i64 0] 55)).heap.size = w.heap.size + 1 := by simp
    have hd1 := heap_alloc_new w (.cells #[.int .i64 0, .int .i64 0, .int .i64 0, .int .i64 0] 55)
    have hb1 : Below w.heap.size w (w.alloc (.cells #[.int .i64 0, .int .i64 0, .int .i64 0, .int .i64 0] 55)) := (Below.refl _ _).alloc (Nat.le_refl _) _
    have hbpl : bp < w2.heap.size := by obtain ⟨_, _, _, h, _⟩ := hP; exact h.lt
    have hd2 := block_turn hd1 (Turn.of_below (F := fun _ => False) hb2) id
    have hB2 := hb1.trans (hb2.mono hb1.size)
    rw [s1] at hbp hb2
    have hs2 := hb2.size
    rw [s1] at hs2
    clear hd1 hb1 hb2
    have hL3 : LexAt (w2.alloc (.cells #[sv s, .int .i64 1, .int .i64 1, .map (some bp), .slice none 0 0] 110)) w2.heap.size bp s (1, 1) (.slice none 0 0) := heap_alloc_new w2 _
    have t3 := Turn.alloc (fun _ => False) w2 (.cells #[sv s, .int .i64 1, .int .i64 1, .map (some bp), .slice none 0 0] 110)
    have hB3 : Below w.heap.size w (w2.alloc (.cells #[sv s, .int .i64 1, .int .i64 1, .map (some bp), .slice none 0 0] 110)) := hB2.alloc hB2.size _
    go_wp2_with fail
    refine (blanks_any _ w2.heap.size bp s (1, 1) _ hL3 (by omega) (by simp) (Nat.le_refl _)).mono ?_
    rintro e w4 ⟨rfl, hL4, t4⟩
    have t24 := (t3.mono (G := fun k => k = w2.heap.size) (fun _ _ h => h.elim)).trans t4 (fun _ _ h => h)
    have hB4 : Below w.heap.size w w4 := hB3.trans (t4.below hB3.size (fun k hk e => by omega))
    have hsk := skipG_le false s
    have hsk' : skipL s ≤ s.length := hsk
    have hadv := advL_le2 (p := (1, 1)) (s.take (skipL s)) (Nat.le_refl _)
    have htl : (s.take (skipL s)).length = skipL s := by rw [List.length_take]; omega
    have hdl : (s.drop (skipL s)).length = s.length - skipL s := List.length_drop
    rw [htl] at hadv
    have hR0 : LexR w.heap.size w.heap.size w2.heap.size bp (1 + s.length) ans w4 s.length (s.drop (skipL s)) (advL (1, 1) (s.take (skipL s))) (.slice none 0 0) [] :=
      ⟨block_turn hd2 t24 (by omega), hL4, hP.turn t24 (by omega), World.ownsRow_nil _ _ _ _, by omega, hans, by omega, by omega, hadv.2.2, Nat.zero_le _, Nat.le_refl _, by omega, by omega, by omega, by omega, by omega, fun g hg => by simp [Value.ownBlock] at hg⟩
    have hrel0 : LexRel w w.heap.size w2.heap.size bp (1 + s.length) ans w4 := ⟨hB4, _, _, _, _, _, hR0⟩
    have hN : 1 + s.length ≤ 70000 := by omega
    clear hR0 hL4 hL3 t3 t4 t24 hB3 hB4 hsk hsk' hadv htl hdl hd2 hB2 hP hbp hs2 s1 hans hbpl
    generalize hbl : w2.heap.size = bl at *
    generalize 1 + s.length = N at *
    go_wp2_with fail
    go_loopw [8] (fun _ wr => LexRel w w.heap.size bl bp N ans wr) (fun _ wr => textOf wr bl)
    case atStart => exact hrel0
    case round =>
      obtain ⟨hB, f, s1, p1, outv, out, hR⟩ := hrel
      clear hrel0
      have c0 := hR.lex.c0
      have c1 := hR.lex.c1
      have c2 := hR.lex.c2
      have c4 := hR.lex.c4
      have hlen := textOf_at hR.lex
      have hbll := hR.lex.lt
      have hdl := block_lt hR.diag
      have hS0 : wr.drew.cell? ⟨bl, 1, none⟩ = some (.int .i64 (p1.1 : Nat)) ∧ wr.drew.cell? ⟨bl, 2, none⟩ = some (.int .i64 (p1.2 : Nat)) ∧ wr.drew.cell? ⟨bl, 4, none⟩ = some outv := ⟨c1, c2, c4⟩
      have hSof : ∀ w' : World, LexAt w' bl bp s1 p1 outv → w'.cell? ⟨bl, 1, none⟩ = some (.int .i64 (p1.1 : Nat)) ∧ w'.cell? ⟨bl, 2, none⟩ = some (.int .i64 (p1.2 : Nat)) ∧ w'.cell? ⟨bl, 4, none⟩ = some outv := fun w' h => ⟨h.c1, h.c2, h.c4⟩
      cases s1 with
      | nil =>
        have HA := hid (show ans = (out ++ [⟨0, [], p1.1, p1.2⟩], (0, 0, 0)) from hR.eq.symm)
        go_wp2_with fail
        have hB8 : Below wr.heap.size wr (wr.drew.alloc (.cells #[.int .i64 0, sv [], .int .i64 (p1.1 : Nat), .int .i64 (p1.2 : Nat)] 70)) := (below_drawn wr 1).alloc (Nat.le_refl _) _
        have hL8 := hR.lex.turn (Turn.of_below (F := fun _ => False) hB8) id
        have hD8 := block_turn hR.diag (Turn.of_below (F := fun _ => False) hB8) id
        have hrow8 := own_below hR.row hB8
        have hP8 := hR.pairs.turn (Turn.of_below (F := fun _ => False) hB8) id
        have hsl8 : Sl (wr.drew.alloc (.cells #[.int .i64 0, sv [], .int .i64 (p1.1 : Nat), .int .i64 (p1.2 : Nat)] 70)) (wr.heap.size + 1) 4 (.slice (some ⟨wr.heap.size, 0, none⟩) 1 1) (tokV ⟨0, [], p1.1, p1.2⟩) := sl_new wr.drew _ _ 4 1 rfl (by decide)
        have h63 : out.length * 4 + (tokV ⟨0, [], p1.1, p1.2⟩).length ≤ maxLen := by have := hR.outl; show out.length * 4 + 4 ≤ maxLen; unfold maxLen; omega
        have hbytes : (out.length * 4 + (tokV ⟨0, [], p1.1, p1.2⟩).length) * 40 ≤ 140737488355328 := by have := hR.outl; show (out.length * 4 + 4) * 40 ≤ _; omega
        generalize hw8 : wr.drew.alloc (.cells #[.int .i64 0, sv [], .int .i64 (p1.1 : Nat), .int .i64 (p1.2 : Nat)] 70) = w8 at *
        have hS8 := hSof w8 hL8
        refine wp_region_held_drew (S := fun w' => w'.cell? ⟨bl, 1, none⟩ = some (.int .i64 (p1.1 : Nat)) ∧ w'.cell? ⟨bl, 2, none⟩ = some (.int .i64 (p1.2 : Nat)) ∧ w'.cell? ⟨bl, 4, none⟩ = some outv) (by kernel_rfl) hS0 (fun _ => ?_)
        try simp only [Act.put, List.getElem_toArray, List.getElem_cons_zero, List.getElem_cons_succ, List.setIfInBounds_toArray, List.set_cons_zero, List.set_cons_succ]
        refine wpAnyH_take (i := 0) (v := (.pointer (some ⟨bl, 0, none⟩))) rfl (by kernel_rfl) (by kernel_rfl) (by kernel_rfl) (fun _ _ _ h => h) (Or.inl ⟨by kernel_rfl, by intro w hSw; obtain ⟨hSw0, hSw1, hSw2⟩ := hSw; go_simp⟩) hS0 ?_
        try simp only [Act.put, List.getElem_toArray, List.getElem_cons_zero, List.getElem_cons_succ, List.setIfInBounds_toArray, List.set_cons_zero, List.set_cons_succ]
        refine wpAnyH_take (i := 1) (v := (.pointer (some ⟨bl, 0, none⟩))) rfl (by kernel_rfl) (by kernel_rfl) (by kernel_rfl) (fun _ _ _ h => h) (Or.inl ⟨by kernel_rfl, by intro w hSw; obtain ⟨hSw0, hSw1, hSw2⟩ := hSw; go_simp⟩) hS0 ?_
        try simp only [Act.put, List.getElem_toArray, List.getElem_cons_zero, List.getElem_cons_succ, List.setIfInBounds_toArray, List.set_cons_zero, List.set_cons_succ]
        refine wpAnyH_take (i := 2) (v := (.pointer (some ⟨bl, 4, none⟩))) rfl (by kernel_rfl) (by kernel_rfl) (by kernel_rfl) (fun _ _ _ h => h) (Or.inl ⟨by kernel_rfl, by intro w hSw; obtain ⟨hSw0, hSw1, hSw2⟩ := hSw; go_simp⟩) hS0 ?_
        try simp only [Act.put, List.getElem_toArray, List.getElem_cons_zero, List.getElem_cons_succ, List.setIfInBounds_toArray, List.set_cons_zero, List.set_cons_succ]
        refine wpAnyH_take (i := 3) (v := outv) rfl (by kernel_rfl) (by kernel_rfl) (by kernel_rfl) (fun _ _ _ h => h) (Or.inl ⟨by kernel_rfl, by intro w hSw; obtain ⟨hSw0, hSw1, hSw2⟩ := hSw; go_simp⟩) hS0 ?_
        try simp only [Act.put, List.getElem_toArray, List.getElem_cons_zero, List.getElem_cons_succ, List.setIfInBounds_toArray, List.set_cons_zero, List.set_cons_succ]
        refine wpAnyH_take (i := 4) (v := (.pointer (some ⟨bl, 0, none⟩))) rfl (by kernel_rfl) (by kernel_rfl) (by kernel_rfl) (fun _ _ _ h => h) (Or.inl ⟨by kernel_rfl, by intro w hSw; obtain ⟨hSw0, hSw1, hSw2⟩ := hSw; go_simp⟩) hS0 ?_
        try simp only [Act.put, List.getElem_toArray, List.getElem_cons_zero, List.getElem_cons_succ, List.setIfInBounds_toArray, List.set_cons_zero, List.set_cons_succ]
        refine wpAnyH_take (i := 5) (v := (.pointer (some ⟨bl, 0, none⟩))) rfl (by kernel_rfl) (by kernel_rfl) (by kernel_rfl) (fun _ _ _ h => h) (Or.inl ⟨by kernel_rfl, by intro w hSw; obtain ⟨hSw0, hSw1, hSw2⟩ := hSw; go_simp⟩) hS0 ?_
        try simp only [Act.put, List.getElem_toArray, List.getElem_cons_zero, List.getElem_cons_succ, List.setIfInBounds_toArray, List.set_cons_zero, List.set_cons_succ]
        refine wpAnyH_take (i := 6) (v := (.pointer (some ⟨bl, 1, none⟩))) rfl (by kernel_rfl) (by kernel_rfl) (by kernel_rfl) (fun _ _ _ h => h) (Or.inl ⟨by kernel_rfl, by intro w hSw; obtain ⟨hSw0, hSw1, hSw2⟩ := hSw; go_simp⟩) hS0 ?_
        try simp only [Act.put, List.getElem_toArray, List.getElem_cons_zero, List.getElem_cons_succ, List.setIfInBounds_toArray, List.set_cons_zero, List.set_cons_succ]
        refine wpAnyH_take (i := 7) (v := (.int .i64 (p1.1 : Nat))) rfl (by kernel_rfl) (by kernel_rfl) (by kernel_rfl) (fun _ _ _ h => h) (Or.inl ⟨by kernel_rfl, by intro w hSw; obtain ⟨hSw0, hSw1, hSw2⟩ := hSw; go_simp⟩) hS0 ?_
        try simp only [Act.put, List.getElem_toArray, List.getElem_cons_zero, List.getElem_cons_succ, List.setIfInBounds_toArray, List.set_cons_zero, List.set_cons_succ]
        refine wpAnyH_take (i := 8) (v := (.pointer (some ⟨bl, 0, none⟩))) rfl (by kernel_rfl) (by kernel_rfl) (by kernel_rfl) (fun _ _ _ h => h) (Or.inl ⟨by kernel_rfl, by intro w hSw; obtain ⟨hSw0, hSw1, hSw2⟩ := hSw; go_simp⟩) hS0 ?_
        try simp only [Act.put, List.getElem_toArray, List.getElem_cons_zero, List.getElem_cons_succ, List.setIfInBounds_toArray, List.set_cons_zero, List.set_cons_succ]
        refine wpAnyH_take (i := 9) (v := (.pointer (some ⟨bl, 0, none⟩))) rfl (by kernel_rfl) (by kernel_rfl) (by kernel_rfl) (fun _ _ _ h => h) (Or.inl ⟨by kernel_rfl, by intro w hSw; obtain ⟨hSw0, hSw1, hSw2⟩ := hSw; go_simp⟩) hS0 ?_
        try simp only [Act.put, List.getElem_toArray, List.getElem_cons_zero, List.getElem_cons_succ, List.setIfInBounds_toArray, List.set_cons_zero, List.set_cons_succ]
        refine wpAnyH_take (i := 10) (v := (.pointer (some ⟨bl, 2, none⟩))) rfl (by kernel_rfl) (by kernel_rfl) (by kernel_rfl) (fun _ _ _ h => h) (Or.inl ⟨by kernel_rfl, by intro w hSw; obtain ⟨hSw0, hSw1, hSw2⟩ := hSw; go_simp⟩) hS0 ?_
        try simp only [Act.put, List.getElem_toArray, List.getElem_cons_zero, List.getElem_cons_succ, List.setIfInBounds_toArray, List.set_cons_zero, List.set_cons_succ]
        refine wpAnyH_take (i := 11) (v := (.int .i64 (p1.2 : Nat))) rfl (by kernel_rfl) (by kernel_rfl) (by kernel_rfl) (fun _ _ _ h => h) (Or.inl ⟨by kernel_rfl, by intro w hSw; obtain ⟨hSw0, hSw1, hSw2⟩ := hSw; go_simp⟩) hS0 ?_
        try simp only [Act.put, List.getElem_toArray, List.getElem_cons_zero, List.getElem_cons_succ, List.setIfInBounds_toArray, List.set_cons_zero, List.set_cons_succ]
        refine wpAnyH_take (i := 12) (v := (.agg #[.int .i64 0, sv [], .int .i64 (p1.1 : Nat), .int .i64 (p1.2 : Nat)])) rfl (by kernel_rfl) (by kernel_rfl) (by kernel_rfl) (fun _ _ _ h => h) (Or.inl ⟨by kernel_rfl, by intro w hSw; obtain ⟨hSw0, hSw1, hSw2⟩ := hSw; go_simp⟩) hS0 ?_
        try simp only [Act.put, List.getElem_toArray, List.getElem_cons_zero, List.getElem_cons_succ, List.setIfInBounds_toArray, List.set_cons_zero, List.set_cons_succ]
        refine wpAnyH_take (i := 15) (v := (.agg #[.int .i64 0, .int .i64 0, .int .i64 0, .int .i64 0])) rfl (by kernel_rfl) (by kernel_rfl) (by kernel_rfl) (fun _ _ _ h => h) (Or.inl ⟨by kernel_rfl, by intro w hSw; obtain ⟨hSw0, hSw1, hSw2⟩ := hSw; go_simp⟩) hS0 ?_
        try simp only [Act.put, List.getElem_toArray, List.getElem_cons_zero, List.getElem_cons_succ, List.setIfInBounds_toArray, List.set_cons_zero, List.set_cons_succ]
        refine wpAnyH_ready (rs := [13]) (by kernel_rfl) (by simp) ?_
        refine AllReadyH.cons rfl (fun K hK => ?_) AllReadyH.nil
        go_simp
        try rw [hw8]
        refine hK.out _ _ hS8 (fun _ => ?_)
        clear hK K
        try simp only [Act.put, List.getElem_toArray, List.getElem_cons_zero, List.getElem_cons_succ, List.setIfInBounds_toArray, List.set_cons_zero, List.set_cons_succ]
        refine wpAnyH_ready (rs := [14]) (by kernel_rfl) (by simp) ?_
        refine AllReadyH.cons rfl (fun K hK => ?_) AllReadyH.nil
        refine step_app rfl (.tmp 81) (.tmp 91) _ rfl 0 el_tok _ _ rfl rfl hrow8 hsl8 (tok_one ⟨0, [], p1.1, p1.2⟩) h63 hbytes (Nat.zero_le _) (fun v' w9 n' hown9 hg9 hbk9 => ?_)
        have t9 : Turn (fun j => outv.ownBlock = some j) w8 w9 := Turn.of_grown hg9 (fun j h => h)
        have hL9 := hL8.turn t9 (fun h => (hR.fo bl h).2.2.1 rfl)
        have hD9 := block_turn hD8 t9 (fun h => (hR.fo _ h).2.1 rfl)
        have hS9 := hSof w9 hL9
        have e0 : w9.cell? ⟨w.heap.size, 0, none⟩ = some (.int .i64 0) := (cell_of_row _ _ _ _ _ (0, 0) hD9).trans rfl
        have e1 : w9.cell? ⟨w.heap.size, 1, none⟩ = some (.int .i64 0) := (cell_of_row _ _ _ _ _ (0, 0) hD9).trans rfl
        have e2 : w9.cell? ⟨w.heap.size, 2, none⟩ = some (.int .i64 0) := (cell_of_row _ _ _ _ _ (0, 0) hD9).trans rfl
        have e3 : w9.cell? ⟨w.heap.size, 3, none⟩ = some (.int .i64 0) := (cell_of_row _ _ _ _ _ (0, 0) hD9).trans rfl
        have g0 := block_free hD9 0
        have g1 := block_free hD9 1
        have g2 := block_free hD9 2
        have g3 := block_free hD9 3
        refine hK.out _ _ hS9 (fun _ => ?_)
        clear hK K
        try simp only [Act.put, List.getElem_toArray, List.getElem_cons_zero, List.getElem_cons_succ, List.setIfInBounds_toArray, List.set_cons_zero, List.set_cons_succ]
        refine wpAnyH_take (i := 16) (v := v') rfl (by kernel_rfl) (by kernel_rfl) (by kernel_rfl) (fun _ _ _ h => h) (Or.inl ⟨by kernel_rfl, by intro w hSw; obtain ⟨hSw0, hSw1, hSw2⟩ := hSw; go_simp⟩) hS9 ?_
        try simp only [Act.put, List.getElem_toArray, List.getElem_cons_zero, List.getElem_cons_succ, List.setIfInBounds_toArray, List.set_cons_zero, List.set_cons_succ]
        refine wpAnyH_ready (rs := [17]) (by kernel_rfl) (by simp) ?_
        refine AllReadyH.cons rfl (fun K hK => ?_) AllReadyH.nil
        go_simp
        have t10 := set4_turn w9 w.heap.size (.int .i64 0) (.int .i64 0) (.int .i64 0) (.int .i64 0)
        refine hK.out _ (set4 w9 w.heap.size (.int .i64 0) (.int .i64 0) (.int .i64 0) (.int .i64 0)) (hSof _ (hL9.turn t10 (fun h => hR.dl h.symm))) (fun _ => ?_)
        clear hK K
        try simp only [Act.put, List.getElem_toArray, List.getElem_cons_zero, List.getElem_cons_succ, List.setIfInBounds_toArray, List.set_cons_zero, List.set_cons_succ]
        refine wpAnyH_done (by kernel_rfl) ?_ _
        go_wp2_with fail
        refine bodyPost_ret (results_tmp_cell rfl _ _ w.heap.size _ _ _ _ rfl (set4_block hD9 _ _ _ _) Tryz.underlying55 rfl (by kernel_rfl)) rfl ?_
        have hr9 : ∀ g, v'.ownBlock = some g → w.heap.size ≤ g ∧ g ≠ w.heap.size := fun g hg => by
          rcases hbk9 with h | h
          · rw [h] at hg; exact ⟨(hR.fo g hg).1, (hR.fo g hg).2.1⟩
          · rw [h] at hg; injection hg with hg; subst hg; have := hB.size; have := hB8.size; exact ⟨by omega, by omega⟩
        exact ⟨v', n', by rw [HA.out]; rfl, by rw [HA.out, tokCells_snoc]; exact own_lift (own_turn hown9 t10 (fun g hg h => (hr9 g hg).2 h)) (fun g hg => (hr9 g hg).1), ((hB.trans (hB8.mono hB.size)).trans (t9.below (by have := hB.size; have := hB8.size; omega) (fun k hk h => by have := (hR.fo k h).1; omega))).trans (t10.below (by have := hB.size; have := hB8.size; have := t9.size; omega) (fun k hk h => by omega))⟩
      | cons c r =>
        have HLEN := hid hlen
        have hNX := next_any wr bl bp c r p1 outv hR.lex (by have := hR.b1; omega) (hX.below hB) hR.pairs
        have HNX := hid hNX
        clear hNX hlen c1 c2 c4 hS0 hbll hdl
        have hnz : ¬ (c :: r : Bt) = [] := by simp
        go_wp2_with fail
        refine HNX.out.mono ?_
        rintro e w5 ⟨rfl, hb5⟩
        have hR5 := hR.below hb5
        have hB5 : Below w.heap.size w w5 := hB.trans (hb5.mono hB.size)
        have hb1 := hR5.b1
        have hb2 := hR5.b2
        clear HNX hR hB hb5 c0
        have c1 := hR5.lex.c1
        have c2 := hR5.lex.c2
        have c4 := hR5.lex.c4
        have hS05 : w5.drew.cell? ⟨bl, 1, none⟩ = some (.int .i64 (p1.1 : Nat)) ∧ w5.drew.cell? ⟨bl, 2, none⟩ = some (.int .i64 (p1.2 : Nat)) ∧ w5.drew.cell? ⟨bl, 4, none⟩ = some outv := ⟨c1, c2, c4⟩
        have heq := hR5.eq
        unfold lexB at heq
        rw [if_neg hnz] at heq
        cases hn : nextT (c :: r) with
        | inl e =>
          rw [hn] at heq
          have hans2 : ans = ([], (p1.1, p1.2, e)) := heq.symm
          have he0 := nextT_err hn
          clear heq hn
          simp only [resV]
          go_wp2_with fail
          have hA := hid hans2
          have hDd : w5.drew.heap[w.heap.size]? = _ := hR5.diag
          have e0 : w5.drew.cell? ⟨w.heap.size, 0, none⟩ = some (.int .i64 0) := (cell_of_row _ _ _ _ _ (0, 0) hDd).trans rfl
          have e1 : w5.drew.cell? ⟨w.heap.size, 1, none⟩ = some (.int .i64 0) := (cell_of_row _ _ _ _ _ (0, 0) hDd).trans rfl
          have e2 : w5.drew.cell? ⟨w.heap.size, 2, none⟩ = some (.int .i64 0) := (cell_of_row _ _ _ _ _ (0, 0) hDd).trans rfl
          have e3 : w5.drew.cell? ⟨w.heap.size, 3, none⟩ = some (.int .i64 0) := (cell_of_row _ _ _ _ _ (0, 0) hDd).trans rfl
          have g0 := block_free hDd 0
          have g1 := block_free hDd 1
          have g2 := block_free hDd 2
          have g3 := block_free hDd 3
          have g0' := block_free hR5.diag 0
          have g1' := block_free hR5.diag 1
          have g2' := block_free hR5.diag 2
          have g3' := block_free hR5.diag 3
          have e0' : w5.cell? ⟨w.heap.size, 0, none⟩ = some (.int .i64 0) := (cell_of_row _ _ _ _ _ (0, 0) hR5.diag).trans rfl
          have e1' : w5.cell? ⟨w.heap.size, 1, none⟩ = some (.int .i64 0) := (cell_of_row _ _ _ _ _ (0, 0) hR5.diag).trans rfl
          have e2' : w5.cell? ⟨w.heap.size, 2, none⟩ = some (.int .i64 0) := (cell_of_row _ _ _ _ _ (0, 0) hR5.diag).trans rfl
          have e3' : w5.cell? ⟨w.heap.size, 3, none⟩ = some (.int .i64 0) := (cell_of_row _ _ _ _ _ (0, 0) hR5.diag).trans rfl
          refine wp_region_held_drew (S := fun w' => w'.cell? ⟨bl, 1, none⟩ = some (.int .i64 (p1.1 : Nat)) ∧ w'.cell? ⟨bl, 2, none⟩ = some (.int .i64 (p1.2 : Nat)) ∧ w'.cell? ⟨bl, 4, none⟩ = some outv) (by kernel_rfl) hS05 (fun _ => ?_)
          try simp only [Act.put, List.getElem_toArray, List.getElem_cons_zero, List.getElem_cons_succ, List.setIfInBounds_toArray, List.set_cons_zero, List.set_cons_succ]
          refine wpAnyH_take (i := 10) (v := (.slice none 0 0)) rfl (by kernel_rfl) (by kernel_rfl) (by kernel_rfl) (fun _ _ _ h => h) (Or.inl ⟨by kernel_rfl, by intro w hSw; obtain ⟨hSw0, hSw1, hSw2⟩ := hSw; go_simp⟩) hS05 ?_
          try simp only [Act.put, List.getElem_toArray, List.getElem_cons_zero, List.getElem_cons_succ, List.setIfInBounds_toArray, List.set_cons_zero, List.set_cons_succ]
          refine wpAnyH_take (i := 0) (v := (.pointer (some ⟨bl, 0, none⟩))) rfl (by kernel_rfl) (by kernel_rfl) (by kernel_rfl) (fun _ _ _ h => h) (Or.inl ⟨by kernel_rfl, by intro w hSw; obtain ⟨hSw0, hSw1, hSw2⟩ := hSw; go_simp⟩) hS05 ?_
          try simp only [Act.put, List.getElem_toArray, List.getElem_cons_zero, List.getElem_cons_succ, List.setIfInBounds_toArray, List.set_cons_zero, List.set_cons_succ]
          refine wpAnyH_take (i := 1) (v := (.pointer (some ⟨bl, 0, none⟩))) rfl (by kernel_rfl) (by kernel_rfl) (by kernel_rfl) (fun _ _ _ h => h) (Or.inl ⟨by kernel_rfl, by intro w hSw; obtain ⟨hSw0, hSw1, hSw2⟩ := hSw; go_simp⟩) hS05 ?_
          try simp only [Act.put, List.getElem_toArray, List.getElem_cons_zero, List.getElem_cons_succ, List.setIfInBounds_toArray, List.set_cons_zero, List.set_cons_succ]
          refine wpAnyH_take (i := 2) (v := (.pointer (some ⟨bl, 1, none⟩))) rfl (by kernel_rfl) (by kernel_rfl) (by kernel_rfl) (fun _ _ _ h => h) (Or.inl ⟨by kernel_rfl, by intro w hSw; obtain ⟨hSw0, hSw1, hSw2⟩ := hSw; go_simp⟩) hS05 ?_
          try simp only [Act.put, List.getElem_toArray, List.getElem_cons_zero, List.getElem_cons_succ, List.setIfInBounds_toArray, List.set_cons_zero, List.set_cons_succ]
          refine wpAnyH_take (i := 3) (v := (.int .i64 (p1.1 : Nat))) rfl (by kernel_rfl) (by kernel_rfl) (by kernel_rfl) (fun _ _ _ h => h) (Or.inl ⟨by kernel_rfl, by intro w hSw; obtain ⟨hSw0, hSw1, hSw2⟩ := hSw; go_simp⟩) hS05 ?_
          try simp only [Act.put, List.getElem_toArray, List.getElem_cons_zero, List.getElem_cons_succ, List.setIfInBounds_toArray, List.set_cons_zero, List.set_cons_succ]
          refine wpAnyH_take (i := 4) (v := (.pointer (some ⟨bl, 0, none⟩))) rfl (by kernel_rfl) (by kernel_rfl) (by kernel_rfl) (fun _ _ _ h => h) (Or.inl ⟨by kernel_rfl, by intro w hSw; obtain ⟨hSw0, hSw1, hSw2⟩ := hSw; go_simp⟩) hS05 ?_
          try simp only [Act.put, List.getElem_toArray, List.getElem_cons_zero, List.getElem_cons_succ, List.setIfInBounds_toArray, List.set_cons_zero, List.set_cons_succ]
          refine wpAnyH_take (i := 5) (v := (.pointer (some ⟨bl, 0, none⟩))) rfl (by kernel_rfl) (by kernel_rfl) (by kernel_rfl) (fun _ _ _ h => h) (Or.inl ⟨by kernel_rfl, by intro w hSw; obtain ⟨hSw0, hSw1, hSw2⟩ := hSw; go_simp⟩) hS05 ?_
          try simp only [Act.put, List.getElem_toArray, List.getElem_cons_zero, List.getElem_cons_succ, List.setIfInBounds_toArray, List.set_cons_zero, List.set_cons_succ]
          refine wpAnyH_take (i := 6) (v := (.pointer (some ⟨bl, 2, none⟩))) rfl (by kernel_rfl) (by kernel_rfl) (by kernel_rfl) (fun _ _ _ h => h) (Or.inl ⟨by kernel_rfl, by intro w hSw; obtain ⟨hSw0, hSw1, hSw2⟩ := hSw; go_simp⟩) hS05 ?_
          try simp only [Act.put, List.getElem_toArray, List.getElem_cons_zero, List.getElem_cons_succ, List.setIfInBounds_toArray, List.set_cons_zero, List.set_cons_succ]
          refine wpAnyH_take (i := 7) (v := (.int .i64 (p1.2 : Nat))) rfl (by kernel_rfl) (by kernel_rfl) (by kernel_rfl) (fun _ _ _ h => h) (Or.inl ⟨by kernel_rfl, by intro w hSw; obtain ⟨hSw0, hSw1, hSw2⟩ := hSw; go_simp⟩) hS05 ?_
          try simp only [Act.put, List.getElem_toArray, List.getElem_cons_zero, List.getElem_cons_succ, List.setIfInBounds_toArray, List.set_cons_zero, List.set_cons_succ]
          refine wpAnyH_take (i := 8) (v := (.int .i64 e)) rfl (by kernel_rfl) (by kernel_rfl) (by kernel_rfl) (fun _ _ _ h => h) (Or.inl ⟨by kernel_rfl, by intro w hSw; obtain ⟨hSw0, hSw1, hSw2⟩ := hSw; go_simp⟩) hS05 ?_
          try simp only [Act.put, List.getElem_toArray, List.getElem_cons_zero, List.getElem_cons_succ, List.setIfInBounds_toArray, List.set_cons_zero, List.set_cons_succ]
          refine wpAnyH_take (i := 9) (v := (.agg #[.int .i64 0, .int .i64 (p1.1 : Nat), .int .i64 (p1.2 : Nat), .int .i64 e])) rfl (by kernel_rfl) (by kernel_rfl) (by kernel_rfl) (fun _ _ _ h => h) (Or.inl ⟨by kernel_rfl, by intro w hSw; obtain ⟨hSw0, hSw1, hSw2⟩ := hSw; go_simp⟩) hS05 ?_
          try simp only [Act.put, List.getElem_toArray, List.getElem_cons_zero, List.getElem_cons_succ, List.setIfInBounds_toArray, List.set_cons_zero, List.set_cons_succ]
          refine wpAnyH_ready (rs := [11]) (by kernel_rfl) (by simp) ?_
          refine AllReadyH.cons rfl (fun K hK => ?_) AllReadyH.nil
          go_simp
          have t10 := set4_turn w5.drew w.heap.size (.int .i64 0) (.int .i64 (p1.1 : Nat)) (.int .i64 (p1.2 : Nat)) (.int .i64 e)
          refine hK.out _ (set4 w5.drew w.heap.size (.int .i64 0) (.int .i64 (p1.1 : Nat)) (.int .i64 (p1.2 : Nat)) (.int .i64 e)) (hSof _ ((hR5.lex.turn (Turn.drewN (fun _ => False) w5 1) id).turn t10 (fun h => hR5.dl h.symm))) (fun _ => ?_)
          clear hK K
          try simp only [Act.put, List.getElem_toArray, List.getElem_cons_zero, List.getElem_cons_succ, List.setIfInBounds_toArray, List.set_cons_zero, List.set_cons_succ]
          refine wpAnyH_done (by kernel_rfl) ?_ _
          go_wp2_with fail
          refine bodyPost_ret (results_tmp_cell rfl _ _ w.heap.size _ _ _ _ rfl (set4_block hDd _ _ _ _) Tryz.underlying55 rfl (by kernel_rfl)) rfl ?_
          exact ⟨.slice none 0 0, 0, by rw [hA.out]; rfl, by rw [hA.out]; exact World.ownsRow_nil _ _ _ _, (hB5.trans (below_drawn w5 1 |>.mono hB5.size)).trans (t10.below hB5.size (fun k hk h => by omega))⟩
        | inr x =>
          obtain ⟨kd, t, n⟩ := x
          rw [hn] at heq
          obtain ⟨n1, n2⟩ := nextT_le hn
          obtain ⟨A0, C0, rfl⟩ : ∃ A C, outv = .slice A out.length C := by
            rcases hR5.row.2 with ⟨h, h0⟩ | ⟨g, cap, cur, h, _⟩
            · exact ⟨none, 0, by rw [h, h0]⟩
            · exact ⟨_, _, h⟩
          by_cases h8 : out.length = 8192
          · have hans2 : ans = ([], (p1.1, p1.2, 19)) := by simp only at heq; rw [if_pos h8] at heq; exact heq.symm
            have h8' : (out.length : Int) = 8192 := by omega
            clear heq hn
            simp only [resV]
            go_wp2_with fail
            have hA := hid hans2
            have hDd : w5.drew.heap[w.heap.size]? = _ := hR5.diag
            have e0 : w5.drew.cell? ⟨w.heap.size, 0, none⟩ = some (.int .i64 0) := (cell_of_row _ _ _ _ _ (0, 0) hDd).trans rfl
            have e1 : w5.drew.cell? ⟨w.heap.size, 1, none⟩ = some (.int .i64 0) := (cell_of_row _ _ _ _ _ (0, 0) hDd).trans rfl
            have e2 : w5.drew.cell? ⟨w.heap.size, 2, none⟩ = some (.int .i64 0) := (cell_of_row _ _ _ _ _ (0, 0) hDd).trans rfl
            have e3 : w5.drew.cell? ⟨w.heap.size, 3, none⟩ = some (.int .i64 0) := (cell_of_row _ _ _ _ _ (0, 0) hDd).trans rfl
            have g0 := block_free hDd 0
            have g1 := block_free hDd 1
            have g2 := block_free hDd 2
            have g3 := block_free hDd 3
            have g0' := block_free hR5.diag 0
            have g1' := block_free hR5.diag 1
            have g2' := block_free hR5.diag 2
            have g3' := block_free hR5.diag 3
            have e0' : w5.cell? ⟨w.heap.size, 0, none⟩ = some (.int .i64 0) := (cell_of_row _ _ _ _ _ (0, 0) hR5.diag).trans rfl
            have e1' : w5.cell? ⟨w.heap.size, 1, none⟩ = some (.int .i64 0) := (cell_of_row _ _ _ _ _ (0, 0) hR5.diag).trans rfl
            have e2' : w5.cell? ⟨w.heap.size, 2, none⟩ = some (.int .i64 0) := (cell_of_row _ _ _ _ _ (0, 0) hR5.diag).trans rfl
            have e3' : w5.cell? ⟨w.heap.size, 3, none⟩ = some (.int .i64 0) := (cell_of_row _ _ _ _ _ (0, 0) hR5.diag).trans rfl
            refine wp_region_held_drew (S := fun w' => w'.cell? ⟨bl, 1, none⟩ = some (.int .i64 (p1.1 : Nat)) ∧ w'.cell? ⟨bl, 2, none⟩ = some (.int .i64 (p1.2 : Nat)) ∧ w'.cell? ⟨bl, 4, none⟩ = some (.slice A0 out.length C0)) (by kernel_rfl) hS05 (fun _ => ?_)
            try simp only [Act.put, List.getElem_toArray, List.getElem_cons_zero, List.getElem_cons_succ, List.setIfInBounds_toArray, List.set_cons_zero, List.set_cons_succ]
            refine wpAnyH_take (i := 10) (v := (.slice none 0 0)) rfl (by kernel_rfl) (by kernel_rfl) (by kernel_rfl) (fun _ _ _ h => h) (Or.inl ⟨by kernel_rfl, by intro w hSw; obtain ⟨hSw0, hSw1, hSw2⟩ := hSw; go_simp⟩) hS05 ?_
            try simp only [Act.put, List.getElem_toArray, List.getElem_cons_zero, List.getElem_cons_succ, List.setIfInBounds_toArray, List.set_cons_zero, List.set_cons_succ]
            refine wpAnyH_take (i := 0) (v := (.pointer (some ⟨bl, 0, none⟩))) rfl (by kernel_rfl) (by kernel_rfl) (by kernel_rfl) (fun _ _ _ h => h) (Or.inl ⟨by kernel_rfl, by intro w hSw; obtain ⟨hSw0, hSw1, hSw2⟩ := hSw; go_simp⟩) hS05 ?_
            try simp only [Act.put, List.getElem_toArray, List.getElem_cons_zero, List.getElem_cons_succ, List.setIfInBounds_toArray, List.set_cons_zero, List.set_cons_succ]
            refine wpAnyH_take (i := 1) (v := (.pointer (some ⟨bl, 0, none⟩))) rfl (by kernel_rfl) (by kernel_rfl) (by kernel_rfl) (fun _ _ _ h => h) (Or.inl ⟨by kernel_rfl, by intro w hSw; obtain ⟨hSw0, hSw1, hSw2⟩ := hSw; go_simp⟩) hS05 ?_
            try simp only [Act.put, List.getElem_toArray, List.getElem_cons_zero, List.getElem_cons_succ, List.setIfInBounds_toArray, List.set_cons_zero, List.set_cons_succ]
            refine wpAnyH_take (i := 2) (v := (.pointer (some ⟨bl, 1, none⟩))) rfl (by kernel_rfl) (by kernel_rfl) (by kernel_rfl) (fun _ _ _ h => h) (Or.inl ⟨by kernel_rfl, by intro w hSw; obtain ⟨hSw0, hSw1, hSw2⟩ := hSw; go_simp⟩) hS05 ?_
            try simp only [Act.put, List.getElem_toArray, List.getElem_cons_zero, List.getElem_cons_succ, List.setIfInBounds_toArray, List.set_cons_zero, List.set_cons_succ]
            refine wpAnyH_take (i := 3) (v := (.int .i64 (p1.1 : Nat))) rfl (by kernel_rfl) (by kernel_rfl) (by kernel_rfl) (fun _ _ _ h => h) (Or.inl ⟨by kernel_rfl, by intro w hSw; obtain ⟨hSw0, hSw1, hSw2⟩ := hSw; go_simp⟩) hS05 ?_
            try simp only [Act.put, List.getElem_toArray, List.getElem_cons_zero, List.getElem_cons_succ, List.setIfInBounds_toArray, List.set_cons_zero, List.set_cons_succ]
            refine wpAnyH_take (i := 4) (v := (.pointer (some ⟨bl, 0, none⟩))) rfl (by kernel_rfl) (by kernel_rfl) (by kernel_rfl) (fun _ _ _ h => h) (Or.inl ⟨by kernel_rfl, by intro w hSw; obtain ⟨hSw0, hSw1, hSw2⟩ := hSw; go_simp⟩) hS05 ?_
            try simp only [Act.put, List.getElem_toArray, List.getElem_cons_zero, List.getElem_cons_succ, List.setIfInBounds_toArray, List.set_cons_zero, List.set_cons_succ]
            refine wpAnyH_take (i := 5) (v := (.pointer (some ⟨bl, 0, none⟩))) rfl (by kernel_rfl) (by kernel_rfl) (by kernel_rfl) (fun _ _ _ h => h) (Or.inl ⟨by kernel_rfl, by intro w hSw; obtain ⟨hSw0, hSw1, hSw2⟩ := hSw; go_simp⟩) hS05 ?_
            try simp only [Act.put, List.getElem_toArray, List.getElem_cons_zero, List.getElem_cons_succ, List.setIfInBounds_toArray, List.set_cons_zero, List.set_cons_succ]
            refine wpAnyH_take (i := 6) (v := (.pointer (some ⟨bl, 2, none⟩))) rfl (by kernel_rfl) (by kernel_rfl) (by kernel_rfl) (fun _ _ _ h => h) (Or.inl ⟨by kernel_rfl, by intro w hSw; obtain ⟨hSw0, hSw1, hSw2⟩ := hSw; go_simp⟩) hS05 ?_
            try simp only [Act.put, List.getElem_toArray, List.getElem_cons_zero, List.getElem_cons_succ, List.setIfInBounds_toArray, List.set_cons_zero, List.set_cons_succ]
            refine wpAnyH_take (i := 7) (v := (.int .i64 (p1.2 : Nat))) rfl (by kernel_rfl) (by kernel_rfl) (by kernel_rfl) (fun _ _ _ h => h) (Or.inl ⟨by kernel_rfl, by intro w hSw; obtain ⟨hSw0, hSw1, hSw2⟩ := hSw; go_simp⟩) hS05 ?_
            try simp only [Act.put, List.getElem_toArray, List.getElem_cons_zero, List.getElem_cons_succ, List.setIfInBounds_toArray, List.set_cons_zero, List.set_cons_succ]
            refine wpAnyH_take (i := 8) (v := (.int .i64 19)) rfl (by kernel_rfl) (by kernel_rfl) (by kernel_rfl) (fun _ _ _ h => h) (Or.inl ⟨by kernel_rfl, by intro w hSw; obtain ⟨hSw0, hSw1, hSw2⟩ := hSw; go_simp⟩) hS05 ?_
            try simp only [Act.put, List.getElem_toArray, List.getElem_cons_zero, List.getElem_cons_succ, List.setIfInBounds_toArray, List.set_cons_zero, List.set_cons_succ]
            refine wpAnyH_take (i := 9) (v := (.agg #[.int .i64 0, .int .i64 (p1.1 : Nat), .int .i64 (p1.2 : Nat), .int .i64 19])) rfl (by kernel_rfl) (by kernel_rfl) (by kernel_rfl) (fun _ _ _ h => h) (Or.inl ⟨by kernel_rfl, by intro w hSw; obtain ⟨hSw0, hSw1, hSw2⟩ := hSw; go_simp⟩) hS05 ?_
            try simp only [Act.put, List.getElem_toArray, List.getElem_cons_zero, List.getElem_cons_succ, List.setIfInBounds_toArray, List.set_cons_zero, List.set_cons_succ]
            refine wpAnyH_ready (rs := [11]) (by kernel_rfl) (by simp) ?_
            refine AllReadyH.cons rfl (fun K hK => ?_) AllReadyH.nil
            go_simp
            have t10 := set4_turn w5.drew w.heap.size (.int .i64 0) (.int .i64 (p1.1 : Nat)) (.int .i64 (p1.2 : Nat)) (.int .i64 19)
            refine hK.out _ (set4 w5.drew w.heap.size (.int .i64 0) (.int .i64 (p1.1 : Nat)) (.int .i64 (p1.2 : Nat)) (.int .i64 19)) (hSof _ ((hR5.lex.turn (Turn.drewN (fun _ => False) w5 1) id).turn t10 (fun h => hR5.dl h.symm))) (fun _ => ?_)
            clear hK K
            try simp only [Act.put, List.getElem_toArray, List.getElem_cons_zero, List.getElem_cons_succ, List.setIfInBounds_toArray, List.set_cons_zero, List.set_cons_succ]
            refine wpAnyH_done (by kernel_rfl) ?_ _
            go_wp2_with fail
            refine bodyPost_ret (results_tmp_cell rfl _ _ w.heap.size _ _ _ _ rfl (set4_block hDd _ _ _ _) Tryz.underlying55 rfl (by kernel_rfl)) rfl ?_
            exact ⟨.slice none 0 0, 0, by rw [hA.out]; rfl, by rw [hA.out]; exact World.ownsRow_nil _ _ _ _, (hB5.trans (below_drawn w5 1 |>.mono hB5.size)).trans (t10.below hB5.size (fun k hk h => by omega))⟩
          · have h8' : ¬ (out.length : Int) = 8192 := by omega
            clear heq
            have HN := hid hn
            simp only [resV]
            go_wp2_with fail
            have hn := HN.out
            have hB8 : Below w5.heap.size w5 (w5.drew.alloc (.cells #[.int .i64 kd, sv t, .int .i64 (p1.1 : Nat), .int .i64 (p1.2 : Nat)] 70)) := (below_drawn w5 1).alloc (Nat.le_refl _) _
            have hL8 := hR5.lex.turn (Turn.of_below (F := fun _ => False) hB8) id
            have hD8 := block_turn hR5.diag (Turn.of_below (F := fun _ => False) hB8) id
            have hrow8 := own_below hR5.row hB8
            have hP8 := hR5.pairs.turn (Turn.of_below (F := fun _ => False) hB8) id
            have hsl8 : Sl (w5.drew.alloc (.cells #[.int .i64 kd, sv t, .int .i64 (p1.1 : Nat), .int .i64 (p1.2 : Nat)] 70)) (w5.heap.size + 1) 4 (.slice (some ⟨w5.heap.size, 0, none⟩) 1 1) (tokV ⟨kd, t, p1.1, p1.2⟩) := sl_new w5.drew _ _ 4 1 rfl (by decide)
            have h63 : out.length * 4 + (tokV ⟨kd, t, p1.1, p1.2⟩).length ≤ maxLen := by have := hR5.outl; show out.length * 4 + 4 ≤ maxLen; unfold maxLen; omega
            have hbytes : (out.length * 4 + (tokV ⟨kd, t, p1.1, p1.2⟩).length) * 40 ≤ 140737488355328 := by have := hR5.outl; show (out.length * 4 + 4) * 40 ≤ _; omega
            generalize hw8 : w5.drew.alloc (.cells #[.int .i64 kd, sv t, .int .i64 (p1.1 : Nat), .int .i64 (p1.2 : Nat)] 70) = w8 at *
            have hS8 := hSof w8 hL8
            have c48 := hL8.c4
            have hS02 : w5.drew.cell? ⟨bl, 1, none⟩ = some (.int .i64 (p1.1 : Nat)) ∧ w5.drew.cell? ⟨bl, 2, none⟩ = some (.int .i64 (p1.2 : Nat)) ∧ True := ⟨c1, c2, trivial⟩
            have c4d : w5.drew.cell? ⟨bl, 4, none⟩ = some (.slice A0 out.length C0) := c4
            refine wp_region_held_drew (S := fun w' => w'.cell? ⟨bl, 1, none⟩ = some (.int .i64 (p1.1 : Nat)) ∧ w'.cell? ⟨bl, 2, none⟩ = some (.int .i64 (p1.2 : Nat)) ∧ True) (by kernel_rfl) hS02 (fun _ => ?_)
            try simp only [Act.put, List.getElem_toArray, List.getElem_cons_zero, List.getElem_cons_succ, List.setIfInBounds_toArray, List.set_cons_zero, List.set_cons_succ]
            refine wpAnyH_take (i := 0) (v := (.pointer (some ⟨bl, 0, none⟩))) rfl (by kernel_rfl) (by kernel_rfl) (by kernel_rfl) (fun _ _ _ h => h) (Or.inl ⟨by kernel_rfl, by intro w hSw; obtain ⟨hSw0, hSw1, hSw2⟩ := hSw; go_simp⟩) hS02 ?_
            try simp only [Act.put, List.getElem_toArray, List.getElem_cons_zero, List.getElem_cons_succ, List.setIfInBounds_toArray, List.set_cons_zero, List.set_cons_succ]
            refine wpAnyH_take (i := 1) (v := (.pointer (some ⟨bl, 0, none⟩))) rfl (by kernel_rfl) (by kernel_rfl) (by kernel_rfl) (fun _ _ _ h => h) (Or.inl ⟨by kernel_rfl, by intro w hSw; obtain ⟨hSw0, hSw1, hSw2⟩ := hSw; go_simp⟩) hS02 ?_
            try simp only [Act.put, List.getElem_toArray, List.getElem_cons_zero, List.getElem_cons_succ, List.setIfInBounds_toArray, List.set_cons_zero, List.set_cons_succ]
            refine wpAnyH_take (i := 2) (v := (.pointer (some ⟨bl, 0, none⟩))) rfl (by kernel_rfl) (by kernel_rfl) (by kernel_rfl) (fun _ _ _ h => h) (Or.inl ⟨by kernel_rfl, by intro w hSw; obtain ⟨hSw0, hSw1, hSw2⟩ := hSw; go_simp⟩) hS02 ?_
            try simp only [Act.put, List.getElem_toArray, List.getElem_cons_zero, List.getElem_cons_succ, List.setIfInBounds_toArray, List.set_cons_zero, List.set_cons_succ]
            refine wpAnyH_take (i := 3) (v := (.pointer (some ⟨bl, 4, none⟩))) rfl (by kernel_rfl) (by kernel_rfl) (by kernel_rfl) (fun _ _ _ h => h) (Or.inl ⟨by kernel_rfl, by intro w hSw; obtain ⟨hSw0, hSw1, hSw2⟩ := hSw; go_simp⟩) hS02 ?_
            try simp only [Act.put, List.getElem_toArray, List.getElem_cons_zero, List.getElem_cons_succ, List.setIfInBounds_toArray, List.set_cons_zero, List.set_cons_succ]
            refine wpAnyH_take (i := 5) (v := (.int .i64 kd)) rfl (by kernel_rfl) (by kernel_rfl) (by kernel_rfl) (fun _ _ _ h => h) (Or.inl ⟨by kernel_rfl, by intro w hSw; obtain ⟨hSw0, hSw1, hSw2⟩ := hSw; go_simp⟩) hS02 ?_
            try simp only [Act.put, List.getElem_toArray, List.getElem_cons_zero, List.getElem_cons_succ, List.setIfInBounds_toArray, List.set_cons_zero, List.set_cons_succ]
            refine wpAnyH_take (i := 6) (v := (sv t)) rfl (by kernel_rfl) (by kernel_rfl) (by kernel_rfl) (fun _ _ _ h => h) (Or.inl ⟨by kernel_rfl, by intro w hSw; obtain ⟨hSw0, hSw1, hSw2⟩ := hSw; go_simp⟩) hS02 ?_
            try simp only [Act.put, List.getElem_toArray, List.getElem_cons_zero, List.getElem_cons_succ, List.setIfInBounds_toArray, List.set_cons_zero, List.set_cons_succ]
            refine wpAnyH_take (i := 7) (v := (.pointer (some ⟨bl, 0, none⟩))) rfl (by kernel_rfl) (by kernel_rfl) (by kernel_rfl) (fun _ _ _ h => h) (Or.inl ⟨by kernel_rfl, by intro w hSw; obtain ⟨hSw0, hSw1, hSw2⟩ := hSw; go_simp⟩) hS02 ?_
            try simp only [Act.put, List.getElem_toArray, List.getElem_cons_zero, List.getElem_cons_succ, List.setIfInBounds_toArray, List.set_cons_zero, List.set_cons_succ]
            refine wpAnyH_take (i := 8) (v := (.pointer (some ⟨bl, 0, none⟩))) rfl (by kernel_rfl) (by kernel_rfl) (by kernel_rfl) (fun _ _ _ h => h) (Or.inl ⟨by kernel_rfl, by intro w hSw; obtain ⟨hSw0, hSw1, hSw2⟩ := hSw; go_simp⟩) hS02 ?_
            try simp only [Act.put, List.getElem_toArray, List.getElem_cons_zero, List.getElem_cons_succ, List.setIfInBounds_toArray, List.set_cons_zero, List.set_cons_succ]
            refine wpAnyH_take (i := 9) (v := (.pointer (some ⟨bl, 1, none⟩))) rfl (by kernel_rfl) (by kernel_rfl) (by kernel_rfl) (fun _ _ _ h => h) (Or.inl ⟨by kernel_rfl, by intro w hSw; obtain ⟨hSw0, hSw1, hSw2⟩ := hSw; go_simp⟩) hS02 ?_
            try simp only [Act.put, List.getElem_toArray, List.getElem_cons_zero, List.getElem_cons_succ, List.setIfInBounds_toArray, List.set_cons_zero, List.set_cons_succ]
            refine wpAnyH_take (i := 10) (v := (.int .i64 (p1.1 : Nat))) rfl (by kernel_rfl) (by kernel_rfl) (by kernel_rfl) (fun _ _ _ h => h) (Or.inl ⟨by kernel_rfl, by intro w hSw; obtain ⟨hSw0, hSw1, hSw2⟩ := hSw; go_simp⟩) hS02 ?_
            try simp only [Act.put, List.getElem_toArray, List.getElem_cons_zero, List.getElem_cons_succ, List.setIfInBounds_toArray, List.set_cons_zero, List.set_cons_succ]
            refine wpAnyH_take (i := 11) (v := (.pointer (some ⟨bl, 0, none⟩))) rfl (by kernel_rfl) (by kernel_rfl) (by kernel_rfl) (fun _ _ _ h => h) (Or.inl ⟨by kernel_rfl, by intro w hSw; obtain ⟨hSw0, hSw1, hSw2⟩ := hSw; go_simp⟩) hS02 ?_
            try simp only [Act.put, List.getElem_toArray, List.getElem_cons_zero, List.getElem_cons_succ, List.setIfInBounds_toArray, List.set_cons_zero, List.set_cons_succ]
            refine wpAnyH_take (i := 12) (v := (.pointer (some ⟨bl, 0, none⟩))) rfl (by kernel_rfl) (by kernel_rfl) (by kernel_rfl) (fun _ _ _ h => h) (Or.inl ⟨by kernel_rfl, by intro w hSw; obtain ⟨hSw0, hSw1, hSw2⟩ := hSw; go_simp⟩) hS02 ?_
            try simp only [Act.put, List.getElem_toArray, List.getElem_cons_zero, List.getElem_cons_succ, List.setIfInBounds_toArray, List.set_cons_zero, List.set_cons_succ]
            refine wpAnyH_take (i := 13) (v := (.pointer (some ⟨bl, 2, none⟩))) rfl (by kernel_rfl) (by kernel_rfl) (by kernel_rfl) (fun _ _ _ h => h) (Or.inl ⟨by kernel_rfl, by intro w hSw; obtain ⟨hSw0, hSw1, hSw2⟩ := hSw; go_simp⟩) hS02 ?_
            try simp only [Act.put, List.getElem_toArray, List.getElem_cons_zero, List.getElem_cons_succ, List.setIfInBounds_toArray, List.set_cons_zero, List.set_cons_succ]
            refine wpAnyH_take (i := 14) (v := (.int .i64 (p1.2 : Nat))) rfl (by kernel_rfl) (by kernel_rfl) (by kernel_rfl) (fun _ _ _ h => h) (Or.inl ⟨by kernel_rfl, by intro w hSw; obtain ⟨hSw0, hSw1, hSw2⟩ := hSw; go_simp⟩) hS02 ?_
            try simp only [Act.put, List.getElem_toArray, List.getElem_cons_zero, List.getElem_cons_succ, List.setIfInBounds_toArray, List.set_cons_zero, List.set_cons_succ]
            refine wpAnyH_take (i := 15) (v := (.agg #[.int .i64 kd, sv t, .int .i64 (p1.1 : Nat), .int .i64 (p1.2 : Nat)])) rfl (by kernel_rfl) (by kernel_rfl) (by kernel_rfl) (fun _ _ _ h => h) (Or.inl ⟨by kernel_rfl, by intro w hSw; obtain ⟨hSw0, hSw1, hSw2⟩ := hSw; go_simp⟩) hS02 ?_
            try simp only [Act.put, List.getElem_toArray, List.getElem_cons_zero, List.getElem_cons_succ, List.setIfInBounds_toArray, List.set_cons_zero, List.set_cons_succ]
            refine wpAnyH_ready (rs := [4, 16]) (by kernel_rfl) (by simp) ?_
            refine AllReadyH.cons rfl (fun K hK => ?_) (AllReadyH.cons rfl (fun K hK => ?_) AllReadyH.nil)
            · go_simp
              refine hK.out _ _ hS02 (fun _ => ?_)
              clear hK K
              try simp only [Act.put, List.getElem_toArray, List.getElem_cons_zero, List.getElem_cons_succ, List.setIfInBounds_toArray, List.set_cons_zero, List.set_cons_succ]
              refine wpAnyH_ready (rs := [16]) (by kernel_rfl) (by simp) ?_
              refine AllReadyH.cons rfl (fun K hK => ?_) AllReadyH.nil
              go_simp
              try rw [hw8]
              refine hK.out _ _ ⟨hS8.1, hS8.2.1, trivial⟩ (fun _ => ?_)
              clear hK K
              try simp only [Act.put, List.getElem_toArray, List.getElem_cons_zero, List.getElem_cons_succ, List.setIfInBounds_toArray, List.set_cons_zero, List.set_cons_succ]
              refine wpAnyH_ready (rs := [17]) (by kernel_rfl) (by simp) ?_
              refine AllReadyH.cons rfl (fun K hK => ?_) AllReadyH.nil
              refine step_app rfl (.tmp 59) (.tmp 71) _ rfl 0 el_tok _ _ rfl rfl hrow8 hsl8 (tok_one ⟨kd, t, p1.1, p1.2⟩) h63 hbytes (Nat.zero_le _) (fun v' w9 n' hown9 hg9 hbk9 => ?_)
              obtain rfl : n' = out.length + 1 := by have h1 := hown9.1; have h2 := hrow8.1; rw [List.length_append, h2] at h1; have h3 : (tokV ⟨kd, t, p1.1, p1.2⟩).length = 4 := rfl; omega
              obtain ⟨g9, c9, rfl, _, _, _, _⟩ := own_form hown9 (by omega)
              have t9 : Turn (fun j => (Value.slice A0 out.length C0).ownBlock = some j) w8 w9 := Turn.of_grown hg9 (fun j h => h)
              have hL9 := hL8.turn t9 (fun h => (hR5.fo bl h).2.2.1 rfl)
              have hD9 := block_turn hD8 t9 (fun h => (hR5.fo _ h).2.1 rfl)
              have hP9 := hP8.turn t9 (fun h => (hR5.fo _ h).2.2.2 rfl)
              have hS9 := hSof w9 hL9
              have e4 := hL9.c4
              have g4 := hL9.free 4
              refine hK.out _ _ ⟨hS9.1, hS9.2.1, trivial⟩ (fun _ => ?_)
              clear hK K
              try simp only [Act.put, List.getElem_toArray, List.getElem_cons_zero, List.getElem_cons_succ, List.setIfInBounds_toArray, List.set_cons_zero, List.set_cons_succ]
              refine wpAnyH_ready (rs := [18]) (by kernel_rfl) (by simp) ?_
              refine AllReadyH.cons rfl (fun K hK => ?_) AllReadyH.nil
              go_simp
              refine hK.out _ _ ⟨hS9.1, hS9.2.1, trivial⟩ (fun _ => ?_)
              clear hK K
              try simp only [Act.put, List.getElem_toArray, List.getElem_cons_zero, List.getElem_cons_succ, List.setIfInBounds_toArray, List.set_cons_zero, List.set_cons_succ]
              refine wpAnyH_ready (rs := [19]) (by kernel_rfl) (by simp) ?_
              refine AllReadyH.cons rfl (fun K hK => ?_) AllReadyH.nil
              go_simp
              refine hK.out _ _ ⟨hS9.1, hS9.2.1, trivial⟩ (fun _ => ?_)
              clear hK K
              try simp only [Act.put, List.getElem_toArray, List.getElem_cons_zero, List.getElem_cons_succ, List.setIfInBounds_toArray, List.set_cons_zero, List.set_cons_succ]
              refine wpAnyH_ready (rs := [20]) (by kernel_rfl) (by simp) ?_
              refine AllReadyH.cons rfl (fun K hK => ?_) AllReadyH.nil
              go_simp
              have hL10 := hL9.set4 (.slice (some ⟨g9, 0, none⟩) (out.length + 1) c9)
              have t10 := turn_set w9 bl 4 (.slice (some ⟨g9, 0, none⟩) (out.length + 1) c9)
              refine hK.out _ _ ⟨hL10.c1, hL10.c2, trivial⟩ (fun _ => ?_)
              clear hK K
              try simp only [Act.put, List.getElem_toArray, List.getElem_cons_zero, List.getElem_cons_succ, List.setIfInBounds_toArray, List.set_cons_zero, List.set_cons_succ]
              refine wpAnyH_done (by kernel_rfl) ?_ _
              have hb8s := hB8.size
              have hbps : bp < w5.heap.size := by obtain ⟨_, _, _, h, _⟩ := hR5.pairs; exact h.lt
              have hbls := hR5.lex.lt
              have hbds := block_lt hR5.diag
              have hr9 : ∀ g, (Value.slice (some ⟨g9, 0, none⟩) (out.length + 1) c9).ownBlock = some g → w.heap.size ≤ g ∧ g ≠ w.heap.size ∧ g ≠ bl ∧ g ≠ bp := fun g hg => by
                rcases hbk9 with h | h
                · rw [h] at hg; exact hR5.fo g hg
                · rw [h] at hg; injection hg with hg; subst hg; have := hB5.size; exact ⟨by omega, by omega, by omega, by omega⟩
              have hrow10 := own_turn hown9 t10 (fun g hg h => (hr9 g hg).2.2.1 h)
              have hD10 := block_turn hD9 t10 hR5.dl
              have hP10 := hP9.turn t10 (fun h => hR5.lp h.symm)
              have hB10 : Below w.heap.size w (w9.setCell ⟨bl, 4, none⟩ (.slice (some ⟨g9, 0, none⟩) (out.length + 1) c9)) := ((hB5.trans (hB8.mono hB5.size)).trans (t9.below (Nat.le_trans hB5.size hb8s) (fun k hk h => by have := (hR5.fo k h).1; omega))).trans (t10.below (Nat.le_trans (Nat.le_trans hB5.size hb8s) t9.size) (fun k hk h => by have := hR5.hl; omega))
              clear hown9 hg9 hbk9 t9 t10 hL9 hD9 hP9 hS9 e4 g4 hrow8 hsl8 hL8 hD8 hP8 hS8 hw8 hS05
              generalize (w9.setCell ⟨bl, 4, none⟩ (.slice (some ⟨g9, 0, none⟩) (out.length + 1) c9)) = w10 at *
              go_wp2_with fail
              refine (pass_any w10 bl bp (c :: r) p1 _ n hL10 n2 (by omega) (by omega)).mono ?_
              rintro e w11 ⟨rfl, hL11, t11⟩
              have l1 := advL_le2 ((c :: r).take n) hR5.b3
              have hl1' : ((c :: r).take n).length ≤ n := by rw [List.length_take]; omega
              have hl2' : ((c :: r).drop n).length ≤ (c :: r).length := by rw [List.length_drop]; omega
              go_wp2_with fail
              refine (blanks_any w11 bl bp ((c :: r).drop n) (advL p1 ((c :: r).take n)) _ hL11 (by omega) (by omega) l1.2.2).mono ?_
              rintro e w12 ⟨rfl, hL12, t12⟩
              have t1012 := t11.trans t12 (fun _ _ h => h)
              have hB12 : Below w.heap.size w w12 := hB10.trans (t1012.below hB10.size (fun k hk h => by have := hR5.hl; omega))
              obtain ⟨f', s2, p2, out', hR', hm'⟩ := hR5.next hn h8 (own_turn hrow10 t1012 (fun g hg h => (hr9 g hg).2.2.1 h)) hr9 (block_turn hD10 t1012 hR5.dl) (hP10.turn t1012 (fun h => hR5.lp h.symm)) hL12
              have hm2 := textOf_at hR'.lex
              have HR := hid hR'
              have HM := hid hm2
              have HM2 := hid hm'
              clear hR' hm2 hm' hL12 hL11 hL10 t11 t12 t1012 hrow10 hD10 hP10
              go_wp2_with fail
              go_roundw
              case rel => exact ⟨hB12, f', s2, p2, _, out', HR.out⟩
              case measure => have := HLEN.out; have := HM.out; have := HM2.out; omega
            · go_simp
              try rw [hw8]
              refine hK.out _ _ ⟨hS8.1, hS8.2.1, trivial⟩ (fun _ => ?_)
              clear hK K
              try simp only [Act.put, List.getElem_toArray, List.getElem_cons_zero, List.getElem_cons_succ, List.setIfInBounds_toArray, List.set_cons_zero, List.set_cons_succ]
              refine wpAnyH_ready (rs := [4]) (by kernel_rfl) (by simp) ?_
              refine AllReadyH.cons rfl (fun K hK => ?_) AllReadyH.nil
              go_simp
              refine hK.out _ _ ⟨hS8.1, hS8.2.1, trivial⟩ (fun _ => ?_)
              clear hK K
              try simp only [Act.put, List.getElem_toArray, List.getElem_cons_zero, List.getElem_cons_succ, List.setIfInBounds_toArray, List.set_cons_zero, List.set_cons_succ]
              refine wpAnyH_ready (rs := [17]) (by kernel_rfl) (by simp) ?_
              refine AllReadyH.cons rfl (fun K hK => ?_) AllReadyH.nil
              refine step_app rfl (.tmp 59) (.tmp 71) _ rfl 0 el_tok _ _ rfl rfl hrow8 hsl8 (tok_one ⟨kd, t, p1.1, p1.2⟩) h63 hbytes (Nat.zero_le _) (fun v' w9 n' hown9 hg9 hbk9 => ?_)
              obtain rfl : n' = out.length + 1 := by have h1 := hown9.1; have h2 := hrow8.1; rw [List.length_append, h2] at h1; have h3 : (tokV ⟨kd, t, p1.1, p1.2⟩).length = 4 := rfl; omega
              obtain ⟨g9, c9, rfl, _, _, _, _⟩ := own_form hown9 (by omega)
              have t9 : Turn (fun j => (Value.slice A0 out.length C0).ownBlock = some j) w8 w9 := Turn.of_grown hg9 (fun j h => h)
              have hL9 := hL8.turn t9 (fun h => (hR5.fo bl h).2.2.1 rfl)
              have hD9 := block_turn hD8 t9 (fun h => (hR5.fo _ h).2.1 rfl)
              have hP9 := hP8.turn t9 (fun h => (hR5.fo _ h).2.2.2 rfl)
              have hS9 := hSof w9 hL9
              have e4 := hL9.c4
              have g4 := hL9.free 4
              refine hK.out _ _ ⟨hS9.1, hS9.2.1, trivial⟩ (fun _ => ?_)
              clear hK K
              try simp only [Act.put, List.getElem_toArray, List.getElem_cons_zero, List.getElem_cons_succ, List.setIfInBounds_toArray, List.set_cons_zero, List.set_cons_succ]
              refine wpAnyH_ready (rs := [18]) (by kernel_rfl) (by simp) ?_
              refine AllReadyH.cons rfl (fun K hK => ?_) AllReadyH.nil
              go_simp
              refine hK.out _ _ ⟨hS9.1, hS9.2.1, trivial⟩ (fun _ => ?_)
              clear hK K
              try simp only [Act.put, List.getElem_toArray, List.getElem_cons_zero, List.getElem_cons_succ, List.setIfInBounds_toArray, List.set_cons_zero, List.set_cons_succ]
              refine wpAnyH_ready (rs := [19]) (by kernel_rfl) (by simp) ?_
              refine AllReadyH.cons rfl (fun K hK => ?_) AllReadyH.nil
              go_simp
              refine hK.out _ _ ⟨hS9.1, hS9.2.1, trivial⟩ (fun _ => ?_)
              clear hK K
              try simp only [Act.put, List.getElem_toArray, List.getElem_cons_zero, List.getElem_cons_succ, List.setIfInBounds_toArray, List.set_cons_zero, List.set_cons_succ]
              refine wpAnyH_ready (rs := [20]) (by kernel_rfl) (by simp) ?_
              refine AllReadyH.cons rfl (fun K hK => ?_) AllReadyH.nil
              go_simp
              have hL10 := hL9.set4 (.slice (some ⟨g9, 0, none⟩) (out.length + 1) c9)
              have t10 := turn_set w9 bl 4 (.slice (some ⟨g9, 0, none⟩) (out.length + 1) c9)
              refine hK.out _ _ ⟨hL10.c1, hL10.c2, trivial⟩ (fun _ => ?_)
              clear hK K
              try simp only [Act.put, List.getElem_toArray, List.getElem_cons_zero, List.getElem_cons_succ, List.setIfInBounds_toArray, List.set_cons_zero, List.set_cons_succ]
              refine wpAnyH_done (by kernel_rfl) ?_ _
              have hb8s := hB8.size
              have hbps : bp < w5.heap.size := by obtain ⟨_, _, _, h, _⟩ := hR5.pairs; exact h.lt
              have hbls := hR5.lex.lt
              have hbds := block_lt hR5.diag
              have hr9 : ∀ g, (Value.slice (some ⟨g9, 0, none⟩) (out.length + 1) c9).ownBlock = some g → w.heap.size ≤ g ∧ g ≠ w.heap.size ∧ g ≠ bl ∧ g ≠ bp := fun g hg => by
                rcases hbk9 with h | h
                · rw [h] at hg; exact hR5.fo g hg
                · rw [h] at hg; injection hg with hg; subst hg; have := hB5.size; exact ⟨by omega, by omega, by omega, by omega⟩
              have hrow10 := own_turn hown9 t10 (fun g hg h => (hr9 g hg).2.2.1 h)
              have hD10 := block_turn hD9 t10 hR5.dl
              have hP10 := hP9.turn t10 (fun h => hR5.lp h.symm)
              have hB10 : Below w.heap.size w (w9.setCell ⟨bl, 4, none⟩ (.slice (some ⟨g9, 0, none⟩) (out.length + 1) c9)) := ((hB5.trans (hB8.mono hB5.size)).trans (t9.below (Nat.le_trans hB5.size hb8s) (fun k hk h => by have := (hR5.fo k h).1; omega))).trans (t10.below (Nat.le_trans (Nat.le_trans hB5.size hb8s) t9.size) (fun k hk h => by have := hR5.hl; omega))
              clear hown9 hg9 hbk9 t9 t10 hL9 hD9 hP9 hS9 e4 g4 hrow8 hsl8 hL8 hD8 hP8 hS8 hw8 hS05
              generalize (w9.setCell ⟨bl, 4, none⟩ (.slice (some ⟨g9, 0, none⟩) (out.length + 1) c9)) = w10 at *
              go_wp2_with fail
              refine (pass_any w10 bl bp (c :: r) p1 _ n hL10 n2 (by omega) (by omega)).mono ?_
              rintro e w11 ⟨rfl, hL11, t11⟩
              have l1 := advL_le2 ((c :: r).take n) hR5.b3
              have hl1' : ((c :: r).take n).length ≤ n := by rw [List.length_take]; omega
              have hl2' : ((c :: r).drop n).length ≤ (c :: r).length := by rw [List.length_drop]; omega
              go_wp2_with fail
              refine (blanks_any w11 bl bp ((c :: r).drop n) (advL p1 ((c :: r).take n)) _ hL11 (by omega) (by omega) l1.2.2).mono ?_
              rintro e w12 ⟨rfl, hL12, t12⟩
              have t1012 := t11.trans t12 (fun _ _ h => h)
              have hB12 : Below w.heap.size w w12 := hB10.trans (t1012.below hB10.size (fun k hk h => by have := hR5.hl; omega))
              obtain ⟨f', s2, p2, out', hR', hm'⟩ := hR5.next hn h8 (own_turn hrow10 t1012 (fun g hg h => (hr9 g hg).2.2.1 h)) hr9 (block_turn hD10 t1012 hR5.dl) (hP10.turn t1012 (fun h => hR5.lp h.symm)) hL12
              have hm2 := textOf_at hR'.lex
              have HR := hid hR'
              have HM := hid hm2
              have HM2 := hid hm'
              clear hR' hm2 hm' hL12 hL11 hL10 t11 t12 t1012 hrow10 hD10 hP10
              go_wp2_with fail
              go_roundw
              case rel => exact ⟨hB12, f', s2, p2, _, out', HR.out⟩
              case measure => have := HLEN.out; have := HM.out; have := HM2.out; omega
end Go.Proofs.YtmbppnbekkbibaaGreatDoor
end
section
/- The parser in memory: its tokens, how deep it is; what a reading gives. -/
set_option linter.unusedVariables false
namespace Go.Proofs.YtmbppnbekkbibaaGreatDoor
open Go.RowKit

/-- No more tokens, and no longer ones, than any text has. -/
def TkOk (ts : List TokD) : Prop := ts.length ≤ 8193 ∧ ∀ t ∈ ts, t.text.length ≤ 100000
theorem TkOk.tail {t : TokD} {r : List TokD} (h : TkOk (t :: r)) : TkOk r := ⟨by have := h.1; simp at this; omega, fun x hx => h.2 x (by simp [hx])⟩
/-- What the listed variables of the library hold lies below B. -/
def LaidB (B : Nat) (w : World) : Prop := ∀ w' : World, (∀ k, k < B → w'.heap[k]? = w.heap[k]?) → LaidW w'
theorem var_heap {w w' : World} {name : String} {cs : Array Value} (h : w.var? Tryz.prog name = some cs) (hb : ∀ k, k < w.heap.size → w'.heap[k]? = w.heap[k]?) : w'.var? Tryz.prog name = some cs := by
  unfold World.var? at h ⊢
  cases hg : Tryz.prog.globalNamed name with
  | none => rw [hg] at h; cases h
  | some g =>
    rw [hg] at h
    simp only [Option.bind_some] at h ⊢
    by_cases hlt : g < w.heap.size
    · rw [hb g hlt]; exact h
    · rw [Array.getElem?_eq_none (by omega)] at h; cases h
theorem LaidB.of {w : World} (h : LaidW w) : LaidB w.heap.size w := fun w' hb => by
  obtain ⟨h1, ⟨tp, p, h2⟩, ⟨tp', p', h3⟩⟩ := h
  exact ⟨var_heap h1 hb, ⟨tp, p, var_heap h2 hb⟩, ⟨tp', p', var_heap h3 hb⟩⟩
theorem LaidB.here {B : Nat} {w : World} (h : LaidB B w) : LaidW w := h w (fun _ _ => rfl)
theorem LaidB.below {B : Nat} {w w' : World} (h : LaidB B w) (hb : Below B w w') : LaidB B w' := fun w2 h2 => h w2 fun k hk => (h2 k hk).trans (hb.block k hk)
/-- A slice that lies in a row of tokens, below B. -/
def TokB (B : Nat) (w : World) (v : Value) : Prop := ∀ b o n c, v = .slice (some ⟨b, o, none⟩) n c → b < B ∧ ∃ cs, w.heap[b]? = some (.cells cs 70 (0, 0))
theorem TokB.below {B : Nat} {w w' : World} {v : Value} (h : TokB B w v) (hb : Below B w w') : TokB B w' v := fun b o n c e => by
  obtain ⟨h1, cs, h2⟩ := h b o n c e
  exact ⟨h1, cs, (hb.block b h1).trans h2⟩
theorem TokB.behind {B : Nat} {w : World} {b o n c n' c' : Nat} {A' : Option Addr} (h : TokB B w (.slice (some ⟨b, o, none⟩) n c)) (hA : ∀ b' o', A' = some ⟨b', o', none⟩ → b' = b) : TokB B w (.slice A' n' c') := fun b1 o1 n1 c1 e => by
  injection e with e _ _
  rw [hA b1 o1 e]
  exact h b o n c rfl
/-- The parser's block: the tokens that are left, and how deep it is. -/
def TkAt (w : World) (bp B : Nat) (ts : List TokD) (d : Int) : Prop := B ≤ bp ∧ TkOk ts ∧ Wf ts ∧ ∃ v, w.heap[bp]? = some (.cells #[v, .int .i64 d] 140 (0, 0)) ∧ Sl w B 4 v (tokCells ts) ∧ LaidB B w ∧ TokB B w v
section
variable {w w' : World} {bp B : Nat} {ts : List TokD} {d : Int} {G : Nat → Prop}
theorem TkAt.lt (h : TkAt w bp B ts d) : bp < w.heap.size := by
  obtain ⟨_, _, _, v, h, _⟩ := h
  exact block_lt h
theorem TkAt.wf (h : TkAt w bp B ts d) : Wf ts := h.2.2.1
theorem TkAt.turn (h : TkAt w bp B ts d) (t : Turn G w w') (hk : ¬ G bp) (hB : ∀ k, k < B → ¬ G k) : TkAt w' bp B ts d := by
  have hlt := h.lt
  obtain ⟨h1, h2, h5, v, h3, h4, h6, h7⟩ := h
  have hb := t.below (B := B) (by omega) hB
  exact ⟨h1, h2, h5, v, block_turn h3 t hk, Sl.below h4 hb, h6.below hb, h7.below hb⟩
theorem TkAt.laid (h : TkAt w bp B ts d) : LaidB B w := h.2.2.2.choose_spec.2.2.1
theorem TkAt.tok (h : TkAt w bp B ts d) {v : Value} {d' : Int} (hb : w.heap[bp]? = some (.cells #[v, .int .i64 d'] 140 (0, 0))) : TokB B w v := by
  obtain ⟨_, _, _, v', h1, _, _, h7⟩ := h
  rw [hb] at h1
  injection h1 with h1
  injection h1 with h1 _
  have h2 : [v, Value.int .i64 d'] = [v', Value.int .i64 d] := congrArg Array.toList h1
  injection h2 with h2 _
  rw [h2]; exact h7
/-- Turns that touch no row of tokens. -/
theorem TkAt.apart (h : TkAt w bp B ts d) (t : Turn G w w') (hk : ¬ G bp) (hT : ∀ g, G g → g < w.heap.size → ∃ cs T, w.heap[g]? = some (.cells cs T (0, 0)) ∧ T ≠ 70) (hL : LaidB B w') : TkAt w' bp B ts d := by
  obtain ⟨h1, h2, h5, v, h3, h4, h6, h7⟩ := h
  have hg : ∀ b o n c, v = .slice (some ⟨b, o, none⟩) n c → ¬ G b := fun b o n c e hG => by
    obtain ⟨hb, cs, hcs⟩ := h7 b o n c e
    obtain ⟨cs', T, hT1, hT2⟩ := hT b hG (block_lt hcs)
    rw [hcs] at hT1
    injection hT1 with hT1
    injection hT1 with _ hT1
    exact hT2 hT1.symm
  refine ⟨h1, h2, h5, v, block_turn h3 t hk, ?_, hL, fun b o n c e => ?_⟩
  · obtain ⟨A, n, c, rfl, hl, hn, hc, hx⟩ := h4
    refine ⟨A, n, c, rfl, hl, hn, hc, fun h0 => ?_⟩
    obtain ⟨b, o, rfl, hbB, hcell⟩ := hx h0
    refine ⟨b, o, rfl, hbB, fun j u hu => ?_⟩
    obtain ⟨_, cs, hcs⟩ := h7 b o n c rfl
    have e0 := cell_of_row w b (o + j) _ _ _ hcs
    have e1 := cell_of_row w' b (o + j) _ _ _ (block_turn hcs t (hg b o n c rfl))
    rw [e1, ← e0]; exact hcell j u hu
  · obtain ⟨hb, cs, hcs⟩ := h7 b o n c e
    exact ⟨hb, cs, block_turn hcs t (hg b o n c e)⟩
theorem TkAt.below (h : TkAt w bp B ts d) (hb : Below w.heap.size w w') : TkAt w' bp B ts d := h.turn (Turn.of_below (F := fun _ => False) hb) id (fun _ _ => id)
/-- The block and the next token. -/
theorem TkAt.open_ (h : TkAt w bp B ts d) :
    ∃ b o c t r, ts = t :: r ∧ r.length + 1 ≤ c ∧ c ≤ 2 ^ 63 - 1 ∧ TkOk (t :: r) ∧ B ≤ bp ∧ b < B ∧ w.heap[bp]? = some (.cells #[.slice (some ⟨b, o, none⟩) (r.length + 1) c, .int .i64 d] 140 (0, 0)) ∧ Sl w B 4 (.slice (some ⟨b, o, none⟩) (r.length + 1) c) (tokCells (t :: r)) ∧
      w.cell? ⟨bp, 0, none⟩ = some (.slice (some ⟨b, o, none⟩) (r.length + 1) c) ∧ w.cell? ⟨bp, 1, none⟩ = some (.int .i64 d) ∧ (∀ i, w.frozen? ⟨bp, i, none⟩ = false) ∧
      w.cell? ⟨b, o, none⟩ = some (.int .i64 t.kind) ∧ w.cell? ⟨b, o + 1, none⟩ = some (sv t.text) ∧ w.cell? ⟨b, o + 2, none⟩ = some (.int .i64 (t.line : Nat)) ∧ w.cell? ⟨b, o + 3, none⟩ = some (.int .i64 (t.col : Nat)) := by
  obtain ⟨hB, hL, hw, v, hb, hv, _⟩ := h
  have hv' := hv
  obtain ⟨A, n, c, rfl, hl, hn, hc, hx⟩ := hv'
  obtain ⟨t, r, rfl⟩ : ∃ t r, ts = t :: r := by
    rcases hw.cases with ⟨e, rfl, _⟩ | ⟨t, r, rfl, _⟩
    · exact ⟨e, [], rfl⟩
    · exact ⟨t, r, rfl⟩
  obtain rfl : n = r.length + 1 := by rw [tokCells_length] at hl; simp at hl; omega
  obtain ⟨b, o, rfl, hbB, hcell⟩ := hx (by omega)
  unfold maxLen at hc
  have c0 := hcell 0 _ (show (tokCells (t :: r))[0]? = some (.int .i64 t.kind) from rfl)
  have c1 := hcell 1 _ (show (tokCells (t :: r))[1]? = some (sv t.text) from rfl)
  have c2 := hcell 2 _ (show (tokCells (t :: r))[2]? = some (.int .i64 (t.line : Nat)) from rfl)
  have c3 := hcell 3 _ (show (tokCells (t :: r))[3]? = some (.int .i64 (t.col : Nat)) from rfl)
  rw [Nat.add_zero] at c0
  exact ⟨b, o, c, t, r, rfl, hn, hc, hL, hB, hbB, hb, hv, (cell_of_row _ _ _ _ _ _ hb).trans rfl, (cell_of_row _ _ _ _ _ _ hb).trans rfl, fun i => frozen_of_row _ _ _ _ _ hb, c0, c1, c2, c3⟩
/-- A text lies not in the parser's block. -/
theorem TkAt.text {b o : Nat} {s : Bt} (h : TkAt w bp B ts d) (hc : w.cell? ⟨b, o, none⟩ = some (sv s)) : b ≠ bp := by
  rintro rfl
  obtain ⟨_, _, _, v, h, hv, _⟩ := h
  obtain ⟨A, n, c, rfl, _⟩ := hv
  rw [cell_of_row _ _ _ _ _ _ h] at hc
  rcases o with _ | _ | o
  · cases hc
  · cases hc
  · cases hc
/-- The tokens behind the first: as a value, and as the model reckons it. -/
theorem toks_from {b o c : Nat} {t : TokD} {r : List TokD} (h : Sl w B 4 (.slice (some ⟨b, o, none⟩) (r.length + 1) c) (tokCells (t :: r))) :
    ∃ A', (∀ b' o', A' = some ⟨b', o', none⟩ → b' = b) ∧ Sl w B 4 (.slice A' r.length (c - 1)) (tokCells r) ∧ ∀ w, (Instr.slice 66 (.slice (some ⟨b, o, none⟩) (r.length + 1) c) (some (.int .i64 1)) none none).run Tryz.prog w = .ok (.slice A' r.length (c - 1)) w := by
  obtain ⟨A, n, c', hv, hl, hn, hc, hx⟩ := h
  injection hv with hv1 hv2 hv3
  subst hv1 hv2 hv3
  obtain ⟨b', o', hA, hb, hcell⟩ := hx (by omega)
  injection hA with hA
  injection hA with hA1 hA2
  subst hA1 hA2
  refine ⟨if c = 1 then some ⟨b, o, none⟩ else some ⟨b, o + 4, none⟩, fun b' o' e => ?_, ⟨_, _, _, rfl, by rw [tokCells_length], by omega, by unfold maxLen at *; omega, fun h0 => ?_⟩, fun w => ?_⟩
  · split at e <;> (injection e with e; injection e with e _; exact e.symm)
  · rw [if_neg (by omega)]
    refine ⟨b, o + 4, rfl, hb, fun j u hu => ?_⟩
    have : (tokCells (t :: r))[4 + j]? = some u := by
      rw [show tokCells (t :: r) = tokV t ++ tokCells r from rfl, List.getElem?_append_right (by show 4 ≤ 4 + j; omega)]
      rw [show 4 + j - (tokV t).length = j by show 4 + j - 4 = j; omega]; exact hu
    have := hcell _ u this
    rwa [← Nat.add_assoc] at this
  · have h0 : (0 : Int) ≤ ((1 : Nat) : Int) := by omega
    have h1 : ¬ ((r.length : Int) + 1 < 1) := by omega
    go_simp
end
/-- What the parser gives up with. -/
abbrev BrkD (d : DgD) : Ending := .panicked [{ v := .iface 135 (.agg #[.int .i64 0, .int .i64 (d.1 : Nat), .int .i64 (d.2.1 : Nat), .int .i64 d.2.2]), recovered := false }]
/-- The parser has given up: its block alone has turned. -/
def BpAt (w : World) (bp : Nat) : Prop := ∃ v d, w.heap[bp]? = some (.cells #[v, .int .i64 d] 140 (0, 0))
def BadP (bp : Nat) (w w' : World) : Prop := Turn (fun k => k = bp) w w' ∧ BpAt w' bp
theorem TkAt.bp {w : World} {bp B : Nat} {ts : List TokD} {d : Int} (h : TkAt w bp B ts d) : BpAt w bp := by
  obtain ⟨_, _, _, v, h, _⟩ := h
  exact ⟨v, d, h⟩
theorem BpAt.turn {w w' : World} {bp : Nat} {G : Nat → Prop} (h : BpAt w bp) (t : Turn G w w') (hk : ¬ G bp) : BpAt w' bp := by
  obtain ⟨v, d, h⟩ := h
  exact ⟨v, d, block_turn h t hk⟩
theorem BadP.below {bp : Nat} {a b c : World} (t : Turn (fun k => k = bp) a b) (h : BpAt b bp) (hb : Below b.heap.size b c) : BadP bp a c := ⟨t.trans (Turn.of_below (F := fun k => k = bp) hb) (fun _ _ h => h), h.turn (Turn.of_below (F := fun _ => False) hb) id⟩
/-- The end of a reading: what was read; or the parser has given up. -/
def ReadsP {α : Type} (P : World → Value → α → Prop) (bp B : Nat) (d : Int) (w : World) (q : Pr α) (e : Ending) (w' : World) : Prop :=
  match q with
    | .good x r => ∃ v, e = .returned v ∧ Turn (fun k => k = bp) w w' ∧ P w' v x ∧ TkAt w' bp B r d
    | .bad g => e = BrkD g ∧ BadP bp w w'
section
variable {α : Type} {P : World → Value → α → Prop} {bp B : Nat} {d : Int} {w w' : World} {q : Pr α} {e : Ending}
theorem ReadsP.bad_ {g : DgD} (h : ReadsP P bp B d w q e w') (hq : q = .bad g) : e = BrkD g ∧ BadP bp w w' := by
  subst hq; exact h
theorem ReadsP.good_ {x : α} {r : List TokD} (h : ReadsP P bp B d w q e w') (hq : q = .good x r) : ∃ v, e = .returned v ∧ Turn (fun k => k = bp) w w' ∧ P w' v x ∧ TkAt w' bp B r d := by
  subst hq; exact h
theorem ReadsP.fail {g : DgD} (hq : q = .bad g) (t : BadP bp w w') : ReadsP P bp B d w q (BrkD g) w' := by
  subst hq; exact ⟨rfl, t⟩
theorem ReadsP.done {x : α} {r : List TokD} {v : Value} (hq : q = .good x r) (t : Turn (fun k => k = bp) w w') (hP : P w' v x) (hR : TkAt w' bp B r d) : ReadsP P bp B d w q (.returned v) w' := by
  subst hq; exact ⟨v, rfl, t, hP, hR⟩
end
/-- A type, a node, of new memory. -/
def PTy (base : Nat) (w : World) (v : Value) (t : TyD) : Prop := ∃ z, v = .agg z.toArray ∧ TyG w (fun j => base ≤ j) z t
def PNo (base : Nat) (w : World) (v : Value) (t : NoD) : Prop := ∃ z, v = .agg z.toArray ∧ NoG w (fun j => base ≤ j) z t
end Go.Proofs.YtmbppnbekkbibaaGreatDoor
end
section
/- Rows of one's own whose elements are read from memory that is new. -/
set_option linter.unusedVariables false
namespace Go.Proofs.YtmbppnbekkbibaaGreatDoor
open Go.RowKit

theorem trow1 {α : Type} {R : List Value → α → Prop} {k : Nat} {z : List Value} {c : α} (hz : z.length = k) (h : R z c) : TRow R k z [c] := by
  have := TRow.cons (R := R) hz h .nil
  rwa [List.append_nil] at this
/-- Memory of F, but for the block that v lies in. -/
def NewB (F : Nat → Prop) (v : Value) : Nat → Prop := fun j => v.ownBlock ≠ some j ∧ F j
/-- A reading that a footprint bears. -/
structure FootR {α : Type} (R : World → (Nat → Prop) → List Value → α → Prop) (k : Nat) : Prop where
  turn : ∀ {w w' : World} {F G : Nat → Prop} {z : List Value} {x : α}, R w F z x → Turn G w w' → (∀ g, g < w.heap.size → F g → ¬ G g) → R w' F z x
  mono : ∀ {w : World} {F G : Nat → Prop} {z : List Value} {x : α}, R w F z x → (∀ g, g < w.heap.size → F g → G g) → R w G z x
  len : ∀ {w : World} {F : Nat → Prop} {z : List Value} {x : α}, R w F z x → z.length = k
  one : ∀ {w : World} {F : Nat → Prop} {z : List Value} {x : α}, R w F z x → ∀ u ∈ z, u.oneCell' = true
section
variable {α : Type} {R : World → (Nat → Prop) → List Value → α → Prop} {k : Nat} (hR : FootR R k)
/-- A row of one's own of such elements. -/
def RowG (R : World → (Nat → Prop) → List Value → α → Prop) (k : Nat) (e : TypeId) (w : World) (base : Nat) (F : Nat → Prop) (v : Value) (l : List α) : Prop :=
  ∃ ys, w.ownsRow base e k v l.length ys ∧ TRow (R w (NewB F v)) k ys l
theorem RowG.nil (R : World → (Nat → Prop) → List Value → α → Prop) (k : Nat) (e : TypeId) (w : World) (base : Nat) (F : Nat → Prop) : RowG R k e w base F (.slice none 0 0) [] := ⟨[], World.ownsRow_nil _ _ _ _, .nil⟩
theorem RowG.lt {e : TypeId} {w : World} {base : Nat} {F : Nat → Prop} {v : Value} {l : List α} (h : RowG R k e w base F v l) : ∀ g, v.ownBlock = some g → base ≤ g ∧ g < w.heap.size := by
  obtain ⟨ys, h1, _⟩ := h
  exact h1.lt
theorem RowG.shape {e : TypeId} {w : World} {base : Nat} {F : Nat → Prop} {v : Value} {l : List α} (h : RowG R k e w base F v l) : ∃ A c, v = .slice A l.length c ∧ l.length ≤ c ∧ c ≤ maxLen := by
  obtain ⟨ys, h1, _⟩ := h
  rcases h1.2 with ⟨rfl, h0⟩ | ⟨g, cap, cur, rfl, hb, hg, hc, hm, _⟩
  · exact ⟨none, 0, by rw [h0], by omega, Nat.zero_le _⟩
  · exact ⟨_, _, rfl, hc, hm⟩
include hR
theorem row_turn {w w' : World} {F G : Nat → Prop} (t : Turn G w w') (hd : ∀ g, g < w.heap.size → F g → ¬ G g) {ys : List Value} {l : List α} (h : TRow (R w F) k ys l) : TRow (R w' F) k ys l := h.imp fun _ _ h => hR.turn h t hd
theorem row_mono {w : World} {F G : Nat → Prop} (hd : ∀ g, g < w.heap.size → F g → G g) {ys : List Value} {l : List α} (h : TRow (R w F) k ys l) : TRow (R w G) k ys l := h.imp fun _ _ h => hR.mono h hd
theorem RowG.turn {e : TypeId} {w w' : World} {base : Nat} {F : Nat → Prop} {v : Value} {l : List α} {G : Nat → Prop} (h : RowG R k e w base F v l) (t : Turn G w w') (ho : ∀ g, v.ownBlock = some g → ¬ G g) (hd : ∀ g, g < w.heap.size → F g → ¬ G g) : RowG R k e w' base F v l := by
  obtain ⟨ys, h1, h2⟩ := h
  exact ⟨ys, own_turn h1 t ho, row_turn hR t (fun g hg h => hd g hg h.2) h2⟩
theorem RowG.mono {e : TypeId} {w : World} {base : Nat} {F G : Nat → Prop} {v : Value} {l : List α} (h : RowG R k e w base F v l) (hd : ∀ g, g < w.heap.size → F g → G g) : RowG R k e w base G v l := by
  obtain ⟨ys, h1, h2⟩ := h
  exact ⟨ys, h1, row_mono hR (fun g hg h => ⟨h.1, hd g hg h.2⟩) h2⟩
/-- One element more: it was read, and appended. -/
theorem RowG.push {e : TypeId} {w w6 w7 : World} {base bp : Nat} {F : Nat → Prop} {v v7 : Value} {l : List α} {x : α} {z ys : List Value} {n7 : Nat} (h1 : w.ownsRow base e k v l.length ys) (h2 : TRow (R w (NewB F v)) k ys l)
    (t : Turn (fun j => j = bp) w w6) (hx : R w6 (fun j => w.heap.size ≤ j) z x) {G : Nat → Prop} (t7 : Turn G w6 w7) (hG : ∀ j, j < w6.heap.size → G j → v.ownBlock = some j ∨ (¬ F j ∧ j < w.heap.size)) (hbk : v7.ownBlock = v.ownBlock ∨ ∃ m, w6.heap.size ≤ m ∧ v7.ownBlock = some m) (h7 : w7.ownsRow base e k v7 n7 (ys ++ z)) (hk : 0 < k)
    (hbp : ¬ F bp) (hF : ∀ j, w.heap.size ≤ j → F j) : RowG R k e w7 base F v7 (l ++ [x]) := by
  have hlt := h1.lt
  have hs6 := t.size
  have hn : n7 = (l ++ [x]).length := by
    have e1 := h7.1
    have e2 := h1.1
    have e3 := hR.len hx
    rw [List.length_append, e2, e3] at e1
    rw [List.length_append, List.length_singleton]
    have : n7 * k = (l.length + 1) * k := by rw [← e1, Nat.add_mul, Nat.one_mul]
    exact Nat.eq_of_mul_eq_mul_right hk this
  subst hn
  have hnew : ∀ j, j < w6.heap.size → v7.ownBlock = some j → v.ownBlock = some j := fun j hj e => by
    rcases hbk with hb | ⟨m, hm, hb⟩
    · rw [hb] at e; exact e
    · rw [hb] at e
      injection e with e
      omega
  refine ⟨_, h7, TRow.app (trow1 (hR.len hx) ?_) (h2.imp fun _ _ h => ?_)⟩
  · have h3 : R w6 (fun j => j < w6.heap.size ∧ w.heap.size ≤ j) z x := hR.mono hx fun j hj h => ⟨hj, h⟩
    refine hR.mono (hR.turn h3 t7 (fun j _ h e => by rcases hG j h.1 e with e | e; (have := (hlt j e).2; omega); (have := e.2; omega))) fun j _ h => ⟨fun e => ?_, hF j h.2⟩
    have := (hlt j (hnew j h.1 e)).2
    omega
  · have h3 : R w (fun j => j < w.heap.size ∧ NewB F v j) _ _ := hR.mono h fun j hj h => ⟨hj, h⟩
    refine hR.mono (hR.turn (hR.turn h3 t (fun j _ h e => by subst e; exact hbp h.2.2)) t7 (fun j _ h e => by rcases hG j (by have := h.1; omega) e with e | e; exact h.2.1 e; exact e.1 h.2.2)) fun j _ h => ⟨fun e => h.2.1 (hnew j (by have := h.1; omega) e), h.2.2⟩
/-- A row as a slice. -/
theorem RowG.sl {e : TypeId} {w : World} {base : Nat} {F : Nat → Prop} {v : Value} {l : List α} (h : RowG R k e w base F v l) : ∃ xs, SlG w (fun j => base ≤ j ∨ F j) k v xs ∧ TRow (R w (fun j => base ≤ j ∨ F j)) k xs l := by
  obtain ⟨ys, h1, h2⟩ := h
  exact ⟨ys, SlG.own h1 (fun g hg => .inl (h1.lt g hg).1), row_mono hR (fun g _ h => .inr h.2) h2⟩
end
/-- A cell of a row of one's own is set. -/
theorem own_set {w : World} {base g i : Nat} {e : TypeId} {k : Nat} {v u : Value} {n : Nat} {xs : List Value} (h : w.ownsRow base e k v n xs) (hg : v.ownBlock = some g) : (w.setCell ⟨g, i, none⟩ u).ownsRow base e k v n (xs.set i u) := by
  obtain ⟨h0, h⟩ := h
  refine ⟨by rw [List.length_set]; exact h0, ?_⟩
  rcases h with ⟨rfl, _⟩ | ⟨g', cap, cur, rfl, hb, hh, hn, hc, hs, ht⟩
  · cases hg
  · have : g' = g := by injection hg
    subst this
    refine .inr ⟨g', cap, cur.setIfInBounds i u, rfl, hb, heap_setCell_same _ _ i _ _ u hh, hn, hc, by simpa using hs, ?_⟩
    rw [Array.toList_setIfInBounds, List.take_set, ht]
/-- The cells of a row of one's own. -/
theorem own_cell {w : World} {base g : Nat} {e : TypeId} {k : Nat} {v u : Value} {n : Nat} {xs : List Value} (h : w.ownsRow base e k v n xs) (hg : v.ownBlock = some g) {i : Nat} (hi : xs[i]? = some u) : w.cell? ⟨g, i, none⟩ = some u ∧ w.frozen? ⟨g, i, none⟩ = false := by
  refine ⟨by have := h.cells hg i u hi; rwa [plain_add, Nat.zero_add] at this, ?_⟩
  rcases h.2 with ⟨rfl, _⟩ | ⟨g', cap, cur, rfl, hb, hh, _⟩
  · cases hg
  · have : g' = g := by injection hg
    subst this
    exact frozen_of_row _ _ _ _ _ hh
theorem tys_row {w : World} {F : Nat → Prop} : ∀ {xs : List Value} {l : List TyD}, TRow (TyG w F) 4 xs l → TysG w F xs l
  | _, _, .nil => .nil
  | _, _, .cons _ h2 h3 => .cons h2 (tys_row h3)
theorem nos_row {w : World} {F : Nat → Prop} : ∀ {xs : List Value} {l : List NoD}, TRow (NoG w F) 8 xs l → NosG w F xs l
  | _, _, .nil => .nil
  | _, _, .cons _ h2 h3 => .cons h2 (nos_row h3)
theorem foot_ty : FootR TyG 4 where
  turn h t hd := h.turn t hd
  mono h hF := h.mono hF
  len h := h.all.len
  one h := by
    obtain ⟨k, s, A1, n1, c1, A2, n2, c2, rfl⟩ := h.all.shape
    intro u hu
    simp only [List.mem_cons, List.not_mem_nil, or_false] at hu
    rcases hu with rfl | rfl | rfl | rfl <;> rfl
theorem foot_no : FootR NoG 8 where
  turn h t hd := h.turn t hd
  mono h hF := h.mono hF
  len h := h.all.len
  one h := by
    obtain ⟨k, s, a, b, c, A1, n1, c1, A2, n2, c2, A3, n3, c3, rfl⟩ := h.all.shape
    intro u hu
    simp only [List.mem_cons, List.not_mem_nil, or_false] at hu
    rcases hu with rfl | rfl | rfl | rfl | rfl | rfl | rfl | rfl <;> rfl
end Go.Proofs.YtmbppnbekkbibaaGreatDoor
end
section
/- What a function answers whose result is a cell. -/
set_option linter.unusedVariables false
namespace Go.Proofs.YtmbppnbekkbibaaGreatDoor
open Go.RowKit

theorem res_cell {P : Program} {fn : Func} {t : Tmp} {T : TypeId} {tmps : Array Value} {w : World} {b : Nat} {cs : Array Value} {S : TypeId} {d : TypeDesc} (h : fn.results = #[.cell t T]) (ht : tmps.getD t undef = .pointer (some ⟨b, 0, none⟩)) (hb : w.heap[b]? = some (.cells cs S (0, 0)))
    (hu : P.underlying T = some d) (hd : (match d with | .struct _ | .array _ _ => true | _ => false) = true) (hi : (P.info? T).map (·.size) = some cs.size) : (results fn tmps).run P w = .ok (.agg cs) w := by
  have h1 := run_loadVar_row (P := P) w b S T cs (0, 0) d hb hu hd hi
  have e : tmps[t]?.getD undef = .pointer (some ⟨b, 0, none⟩) := by simpa using ht
  have h2 : (asAddr (.pointer (some ⟨b, 0, none⟩))).run P w = .ok ⟨b, 0, none⟩ w := rfl
  simp [results, h, e, h1, h2]
end Go.Proofs.YtmbppnbekkbibaaGreatDoor
end
section
/- The contracts of the parser's tokens: next, is, fails. -/
set_option linter.unusedVariables false
namespace Go.Proofs.YtmbppnbekkbibaaGreatDoor
open Go.RowKit

def tokG (t : TokD) : Value := .agg #[.int .i64 t.kind, sv t.text, .int .i64 (t.line : Nat), .int .i64 (t.col : Nat)]
theorem nxt_any (w : World) (bp B : Nat) (ts : List TokD) (d : Int) (h : TkAt w bp B ts d) :
    Calls Tryz.prog 75 #[.pointer (some ⟨bp, 0, none⟩)] w fun e w' => e = .returned (tokG (nextP ts)) ∧ Below w.heap.size w w' := by
  have hlt := h.lt
  obtain ⟨b, o, c, t, r, rfl, hc, hcm, hl, hB, hb, hbk, hs, d0, d1, z0, c0, c1, c2, c3⟩ := h.open_
  have hbs : b < w.heap.size := by omega
  clear h hs hbk
  rw [show nextP (t :: r) = t from rfl]
  unfold tokG
  go_enter Tryz.func75, Tryz.ntmps75
  go_wp2_with fail
  refine bodyPost_ret (res_cell rfl rfl (heap_alloc_new w _) Tryz.underlying70 rfl (by kernel_rfl)) rfl ?_
  exact ⟨rfl, (Below.refl _ _).alloc (Nat.le_refl _) _⟩
theorem is_any (w : World) (t : TokD) (s : Bt) : Calls Tryz.prog 140 #[tokG t, sv s] w fun e w' => e = .returned (.bool (isT t s)) ∧ Below w.heap.size w w' := by
  obtain ⟨k, x, l, c⟩ := t
  unfold tokG isT
  simp only
  by_cases h2 : k = 2
  · subst h2
    cases hq : (x == s)
    · rw [show ((2 : Int) == 2 || (2 : Int) == 5) = true from rfl, Bool.true_and]
      go_enter Tryz.func140, Tryz.ntmps140
      go_wp2_with fail
      go_ret
      exact ⟨rfl, (Below.refl _ _).alloc (Nat.le_refl _) _⟩
    · rw [show ((2 : Int) == 2 || (2 : Int) == 5) = true from rfl, Bool.true_and]
      go_enter Tryz.func140, Tryz.ntmps140
      go_wp2_with fail
      go_ret
      exact ⟨rfl, (Below.refl _ _).alloc (Nat.le_refl _) _⟩
  · by_cases h5 : k = 5
    · subst h5
      cases hq : (x == s)
      · rw [show ((5 : Int) == 2 || (5 : Int) == 5) = true from rfl, Bool.true_and]
        go_enter Tryz.func140, Tryz.ntmps140
        go_wp2_with fail
        go_ret
        exact ⟨rfl, (Below.refl _ _).alloc (Nat.le_refl _) _⟩
      · rw [show ((5 : Int) == 2 || (5 : Int) == 5) = true from rfl, Bool.true_and]
        go_enter Tryz.func140, Tryz.ntmps140
        go_wp2_with fail
        go_ret
        exact ⟨rfl, (Below.refl _ _).alloc (Nat.le_refl _) _⟩
    · rw [beq_false_of_ne h2, beq_false_of_ne h5, Bool.false_or, Bool.false_and]
      go_enter Tryz.func140, Tryz.ntmps140
      go_wp2_with fail
      go_ret
      exact ⟨rfl, (Below.refl _ _).alloc (Nat.le_refl _) _⟩
set_option maxRecDepth 100000 in
theorem fails_any (w : World) (bp B : Nat) (ts : List TokD) (d : Int) (g : Int) (h : TkAt w bp B ts d) :
    Calls Tryz.prog 128 #[.pointer (some ⟨bp, 0, none⟩), .int .i64 g] w fun e w' => e = BrkD ((nextP ts).line, (nextP ts).col, g) ∧ Below w.heap.size w w' := by
  have HN := hid (nxt_any w bp B ts d h)
  have HN2 := hid (fun (w1 : World) (hb : Below w.heap.size w w1) => nxt_any w1 bp B ts d (h.below hb))
  clear h
  generalize nextP ts = t at *
  go_enter Tryz.func128, Tryz.ntmps128
  go_wp2_with fail
  refine HN.out.mono ?_
  rintro e w1 ⟨rfl, hb⟩
  have HB := hid hb
  have f2 : ∀ w : World, (Instr.field 70 (tokG t) 2).run Tryz.prog w = .ok (.int .i64 (t.line : Nat)) w := fun _ => by kernel_rfl
  have f3 : ∀ w : World, (Instr.field 70 (tokG t) 3).run Tryz.prog w = .ok (.int .i64 (t.col : Nat)) w := fun _ => by kernel_rfl
  clear hb
  go_wp2_with fail
  refine (HN2.out _ HB.out).mono ?_
  rintro e w2 ⟨rfl, hb⟩
  have HB2 := hid (HB.out.trans (hb.mono HB.out.size))
  clear hb
  go_wp2_with fail
  exact ⟨rfl, rfl, HB2.out⟩
end Go.Proofs.YtmbppnbekkbibaaGreatDoor
end
