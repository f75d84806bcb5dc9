/- A lexer's strings and signs, and the token at the beginning. -/
import Derived.Test.YtpgngegdflbahaaGreatDoorXF
import Derived.DeepKeys4
set_option linter.unusedVariables false
namespace Go.Proofs.YtpgngegdflbahaaGreatDoor
open Go.RowKit
open Go.Maps (has IsMap Keyed)

def strR (s : Bt) : Int ⊕ (Int × Bt × Nat) :=
  match quoteL s with
  | none => .inl 4
  | some (t, n) => if 256 < t.length then .inl 2 else .inr (4, t, n)

set_option maxRecDepth 100000 in
set_option maxHeartbeats 1000000 in
theorem str_any (w : World) (bl bp : Nat) (s : Bt) (p : Nat × Nat) (outv : Value) (hL : LexAt w bl bp s p outv) (hs : s.length ≤ 100000) (h1 : 1 ≤ s.length) :
    Calls Tryz.prog 28 #[.pointer (some ⟨bl, 0, none⟩)] w fun e w' => e = .returned (resV (strR s)) ∧ Below w.heap.size w w' := by
  have c0 := hL.c0
  have HP := hid (quoted_any w s hs h1)
  cases hq : quoteL s with
  | none =>
    have hR : strR s = .inl 4 := by unfold strR; rw [hq]
    rw [hR]
    rw [hq] at HP
    clear hR hq
    go_enter Tryz.func28, Tryz.ntmps28
    go_wp2_with fail
    refine HP.out.mono ?_
    rintro e w1 ⟨rfl, hb1⟩
    unfold quoteV
    go_wp2_with fail
    refine bodyPost_ret (results_tmp4 rfl _ _ _) rfl ?_
    exact ⟨rfl, hb1⟩
  | some r =>
    obtain ⟨t, n⟩ := r
    have hle := quoteG_le hq
    have hn : ¬ (n : Int) = 0 := by omega
    have hsz := sv_size t
    have hR : strR s = if 256 < t.length then .inl 2 else .inr (4, t, n) := by unfold strR; rw [hq]
    rw [hq] at HP
    clear hq hle
    by_cases h256 : 256 < t.length
    · rw [if_pos h256] at hR
      rw [hR]
      clear hR
      go_enter Tryz.func28, Tryz.ntmps28
      go_wp2_with fail
      refine HP.out.mono ?_
      rintro e w1 ⟨rfl, hb1⟩
      unfold quoteV
      go_wp2_with fail
      refine bodyPost_ret (results_tmp4 rfl _ _ _) rfl ?_
      exact ⟨rfl, hb1⟩
    · rw [if_neg h256] at hR
      rw [hR]
      clear hR
      go_enter Tryz.func28, Tryz.ntmps28
      go_wp2_with fail
      refine HP.out.mono ?_
      rintro e w1 ⟨rfl, hb1⟩
      unfold quoteV
      go_wp2_with fail
      refine bodyPost_ret (results_tmp4 rfl _ _ _) rfl ?_
      exact ⟨rfl, hb1⟩

/-! The map of pairs. -/
def pairV (a b : UInt8) : Value := .agg #[.int .u8 (a.toNat : Int), .int .u8 (b.toNat : Int)]
theorem law_pair : Keyed Tryz.prog 65 := Keyed.of_law (deep_law_laid (m := 2) (by kernel_rfl) (by omega) (of_decide_eq_true (by kernel_rfl)) (by kernel_rfl) (by kernel_rfl))
theorem zero_bool (w : World) : (zeroValue 4).run Tryz.prog w = .ok (.bool false) w := by kernel_rfl
theorem wf_u8 (a : UInt8) : (Lit.int .u8 (a.toNat : Int)).wf = true := by
  have e1 : IntKind.u8.min = 0 := by decide
  have e2 : IntKind.u8.max = 255 := by decide
  have := a.toNat_lt
  simp [Lit.wf, e1, e2]
  omega
theorem lits_u8 (d : Nat) (a : UInt8) : Tryz.prog.keyLits (d + 1) 5 [.int .u8 (a.toNat : Int)] = some [.int .u8 (a.toNat : Int)] := by
  simp [Program.keyLits, Tryz.underlying5, wf_u8]
theorem key_pair (a b : UInt8) : ∃ kl, keyOf Tryz.prog 65 (pairV a b) = some kl := by
  obtain ⟨d, hd⟩ : ∃ d, Tryz.prog.types.size = d + 1 := ⟨Tryz.prog.types.size - 1, by kernel_rfl⟩
  have h2 : Tryz.prog.cellsOf 65 = 2 := by kernel_rfl
  have h3 : Tryz.prog.cellsOf 5 = 1 := by kernel_rfl
  have hk : Tryz.prog.keyType 65 = true := by kernel_rfl
  have hf : (pairV a b).formed Tryz.prog 65 = true := by simp [Value.formed, Tryz.underlying65, h2, pairV]
  refine ⟨.string (keyBytes [.int .u8 (a.toNat : Int), .int .u8 (b.toNat : Int)]), ?_⟩
  have e : Tryz.prog.keyLits (d + 1 + 1) 65 [.int .u8 (a.toNat : Int), .int .u8 (b.toNat : Int)] = some [.int .u8 (a.toNat : Int), .int .u8 (b.toNat : Int)] := by
    rw [Program.keyLits.eq_def]
    simp only [Tryz.underlying65]
    simp [h2, h3, List.range_succ, lits_u8 d a, lits_u8 d b]
  simp only [keyOf, Tryz.underlying65, hk, hf, Bool.and_self, if_true, hd]
  have e2 : (pairV a b).cells.toList = [.int .u8 (a.toNat : Int), .int .u8 (b.toNat : Int)] := rfl
  rw [e2, e]; rfl
/-- What the map holds when the pairs of l are in it. -/
def PairsOf (D : DataW Unit) (l : List Bt) : Prop := ∀ (a b : UInt8) (kl : Lit), keyOf Tryz.prog 65 (pairV a b) = some kl → ∀ z, D.atKey kl z = if [a, b] ∈ l then .lit (.bool true) else z
def PairsAt (w : World) (bp : Nat) (l : List Bt) : Prop := ∃ (n : Nat) (D : DataW Unit), n ≤ l.length ∧ w.ownsMap Tryz.prog 65 (plainElem Tryz.prog 4) bp n D ∧ PairsOf D l
theorem PairsAt.turn {w w' : World} {bp : Nat} {l : List Bt} {G : Nat → Prop} (h : PairsAt w bp l) (t : Turn G w w') (hd : ¬ G bp) : PairsAt w' bp l := by
  obtain ⟨n, D, h0, h1, h2⟩ := h
  exact ⟨n, D, h0, map_turn h1 t hd, h2⟩
set_option maxRecDepth 100000 in
theorem bool_inv {v : Value} {x : Bool} {ps : List MemPlace} (h : plainElem (H := Unit) Tryz.prog 4 v = some (.lit (.bool x), ps)) : v = .bool x := by
  unfold plainElem at h
  rw [Tryz.underlying4] at h
  cases v <;> simp at h
  rw [h.1]
theorem pairs_look {w : World} {bp : Nat} {l : List Bt} (h : PairsAt w bp l) (a b : UInt8) : (Instr.lookup 36 (.map (some bp)) (pairV a b) false).run Tryz.prog w = .ok (.bool (decide ([a, b] ∈ l))) w := by
  obtain ⟨n, D, _, hown, hD⟩ := h
  obtain ⟨kl, hk⟩ := key_pair a b
  obtain ⟨v, ps, hrun, hR⟩ := hown.lookup law_pair Tryz.underlying36 (zero_bool w) (plainElem_bool Tryz.underlying4 false) hk
  rw [hrun]
  rw [hD a b kl hk] at hR
  by_cases hin : [a, b] ∈ l
  · rw [if_pos hin] at hR
    rw [bool_inv hR, decide_eq_true hin]
  · rw [if_neg hin] at hR
    rw [bool_inv hR, decide_eq_false hin]

def signR (s : Bt) : Int ⊕ (Int × Bt × Nat) := if s.take 2 ∈ pairsL then .inr (5, s.take 2, 2) else if s.headD 0 ∈ singlesL then .inr (5, s.take 1, 1) else .inl 5
theorem index_mem {l : Bt} {c : UInt8} : 0 ≤ Lib.indexByte l c ↔ c ∈ l := by
  induction l with
  | nil => simp [Lib.indexByte]
  | cons b l ih =>
    rw [Lib.indexByte]
    by_cases h : b = c
    · subst h; simp
    · have hb : (b == c) = false := by rw [beq_eq_false_iff_ne]; exact h
      rw [hb]
      simp only [Bool.false_eq_true, if_false]
      have hge := Lib.indexByte_ge l c
      by_cases h1 : Lib.indexByte l c = -1
      · have h2 : (Lib.indexByte l c == -1) = true := by rw [beq_iff_eq]; exact h1
        rw [if_pos h2]
        constructor
        · intro hh; omega
        · intro hh
          rcases List.mem_cons.1 hh with hh | hh
          · exact absurd hh.symm h
          · have := ih.2 hh; omega
      · have h2 : ¬ (Lib.indexByte l c == -1) = true := by rw [beq_iff_eq]; exact h1
        rw [if_neg h2]
        constructor
        · intro hh
          exact List.mem_cons_of_mem _ (ih.1 (by omega))
        · intro hh
          rcases List.mem_cons.1 hh with hh | hh
          · exact absurd hh.symm h
          · have := ih.2 hh; omega

theorem singles_list : (⟨singlesL.toArray⟩ : ByteArray).data.toList = singlesL := rfl
set_option maxRecDepth 100000 in
set_option maxHeartbeats 1000000 in
theorem sign_any (w : World) (bl bp : Nat) (c : UInt8) (r : Bt) (p : Nat × Nat) (outv : Value) (hL : LexAt w bl bp (c :: r) p outv) (hs : (c :: r).length ≤ 100000) (hP : PairsAt w bp pairsL) :
    Calls Tryz.prog 29 #[.pointer (some ⟨bl, 0, none⟩)] w fun e w' => e = .returned (resV (signR (c :: r))) ∧ Below w.heap.size w w' := by
  have c0 := hL.c0
  have c3 := hL.c3
  have hsz := sv_size (c :: r)
  cases r with
  | nil =>
    have hnp : (c :: ([] : Bt)).take 2 ∉ pairsL := fun h => by
      have hall : ∀ m ∈ pairsL, m.length = 2 := by decide
      have := hall _ h
      simp at this
    have hix := sv_index (c :: []) 0 (by simp)
    have he1 : Value.string (ByteArray.extract ⟨(c :: ([] : Bt)).toArray⟩ 0 1) = sv [c] := take_sv _ 1
    have hR : signR (c :: []) = if c ∈ singlesL then .inr (5, [c], 1) else .inl 5 := by unfold signR; rw [if_neg hnp]; rfl
    obtain ⟨ans, hans⟩ : ∃ ans, ans = signR (c :: []) := ⟨_, rfl⟩
    rw [← hans]
    rw [← hans] at hR
    clear hnp hans
    go_enter Tryz.func29, Tryz.ntmps29
    go_wp2_with fail
    go_quiet (fail)
    go_wp2_with fail
    refine (Tryz.strings_IndexByte ⟨singlesL.toArray⟩ _ _).mono ?_
    rintro e w1 ⟨rfl, rfl⟩
    rw [toU8_back, singles_list]
    have hi := index_mem (l := singlesL) (c := c)
    generalize Lib.indexByte singlesL c = ix at *
    by_cases hc : c ∈ singlesL
    · have hix2 : ¬ (ix < 0) := by have := hi.2 hc; omega
      rw [if_pos hc] at hR
      subst hR
      clear hi
      go_wp2_with fail
      go_quiet (fail)
      go_wp2_with fail
      refine bodyPost_ret (results_tmp4 rfl _ _ _) rfl ?_
      exact ⟨rfl, ((below_drawn w _).trans (below_drawn _ _ |>.mono (Nat.le_refl _)))⟩
    · have hix2 : ix < 0 := by
        rcases Int.lt_or_le ix 0 with h | h
        · exact h
        · exact absurd (hi.1 h) hc
      rw [if_neg hc] at hR
      subst hR
      clear hi
      go_wp2_with fail
      refine bodyPost_ret (results_tmp4 rfl _ _ _) rfl ?_
      exact ⟨rfl, below_drawn w _⟩
  | cons d r =>
    have hl1 : (1 : Int) < (r.length : Int) + 1 + 1 := by omega
    have hl0 : (0 : Int) < (r.length : Int) + 1 + 1 := by omega
    have hix := sv_index (c :: d :: r) 0 (by simp)
    have hix1 := sv_index (c :: d :: r) 1 (by simp)
    have he1 : Value.string (ByteArray.extract ⟨(c :: d :: r).toArray⟩ 0 1) = sv [c] := take_sv _ 1
    have he2 : Value.string (ByteArray.extract ⟨(c :: d :: r).toArray⟩ 0 2) = sv [c, d] := take_sv _ 2
    have hlook : ∀ n, (Instr.lookup 36 (.map (some bp)) (.agg #[.int .u8 (c.toNat : Int), .int .u8 (d.toNat : Int)]) false).run Tryz.prog (w.drewN n) = .ok (.bool (decide ([c, d] ∈ pairsL))) (w.drewN n) :=
      fun n => pairs_look (hP.turn (Turn.drewN (fun _ => False) w n) id) c d
    have hR0 : signR (c :: d :: r) = if [c, d] ∈ pairsL then .inr (5, [c, d], 2) else if c ∈ singlesL then .inr (5, [c], 1) else .inl 5 := rfl
    by_cases hp : [c, d] ∈ pairsL
    · rw [if_pos hp] at hR0
      rw [decide_eq_true hp] at hlook
      rw [hR0]
      clear hR0 hp
      go_enter Tryz.func29, Tryz.ntmps29
      go_wp2_with fail
      go_quiet (fail)
      go_wp2_with fail
      go_quiet (fail)
      go_wp2_with fail
      refine bodyPost_ret (results_tmp4 rfl _ _ _) rfl ?_
      exact ⟨rfl, (below_drawn w _).trans (below_drawn _ _ |>.mono (Nat.le_refl _))⟩
    · rw [if_neg hp] at hR0
      rw [decide_eq_false hp] at hlook
      obtain ⟨ans, hans⟩ : ∃ ans, ans = signR (c :: d :: r) := ⟨_, rfl⟩
      rw [← hans]
      have hR := hans.trans hR0
      clear hR0 hp hans
      go_enter Tryz.func29, Tryz.ntmps29
      go_wp2_with fail
      go_quiet (fail)
      go_wp2_with fail
      refine (Tryz.strings_IndexByte ⟨singlesL.toArray⟩ _ _).mono ?_
      rintro e w1 ⟨rfl, rfl⟩
      rw [toU8_back, singles_list]
      have hi := index_mem (l := singlesL) (c := c)
      generalize Lib.indexByte singlesL c = ix at *
      by_cases hc : c ∈ singlesL
      · have hix2 : ¬ (ix < 0) := by have := hi.2 hc; omega
        rw [if_pos hc] at hR
        subst hR
        clear hi
        go_wp2_with fail
        go_quiet (fail)
        go_wp2_with fail
        refine bodyPost_ret (results_tmp4 rfl _ _ _) rfl ?_
        exact ⟨rfl, ((below_drawn w _).trans (below_drawn _ _ |>.mono (Nat.le_refl _)))⟩
      · have hix2 : ix < 0 := by
          rcases Int.lt_or_le ix 0 with h | h
          · exact h
          · exact absurd (hi.1 h) hc
        rw [if_neg hc] at hR
        subst hR
        clear hi
        go_wp2_with fail
        refine bodyPost_ret (results_tmp4 rfl _ _ _) rfl ?_
        exact ⟨rfl, below_drawn w _⟩
end Go.Proofs.YtpgngegdflbahaaGreatDoor
